/-
  Several texts as one.
-/
import Derived.Test.YtgmehlgfilpleaaGreatDoorRkPro
import Derived.Test.YtgmehlgfilpleaaGreatDoorRkNm
namespace Go.Proofs.YtgmehlgfilpleaaGreatDoor
open Go.RowKit
set_option linter.unusedVariables false
set_option linter.unusedSimpArgs false
def lgsE (pk:Nat) (x:Pa):Int:=if x.lg.length=0 then 1 else if 24<x.lg.length then 3 else allE (lg1E pk x.kd x.lg) x.lg.length
theorem fst_two (x:Int):fstE [x]=x:=by
 by_cases h:x=0
 ·rw[h];rfl
 ·rw[fstE_n h]
theorem pa1_four {pk:Nat} {l:List Pa} {i:Nat} (hi:i<l.length) :
  pa1E pk l i=fstE [if l[i].kd∈kndL pk then 0 else 17,if i=0 then 0 else paO pk l[i] (l.getD (i-1) pa0),nmdE l[i],lgsE pk l[i]]:=by
 unfold pa1E lgsE
 rw[getD_in hi]
 obtain⟨A,hA⟩:∃A:Int,(if l[i].kd∈kndL pk then 0 else 17)=A:=⟨_,rfl⟩
 obtain⟨B,hB⟩:∃B:Int,(if i=0 then 0 else paO pk l[i] (l.getD (i-1) pa0))=B:=⟨_,rfl⟩
 rw[hA,hB]
 have h2:fstE [if l[i].lg.length=0 then 1 else if 24<l[i].lg.length then 3 else 0,allE (lg1E pk l[i].kd l[i].lg) l[i].lg.length]=fstE [if l[i].lg.length=0 then 1 else if 24<l[i].lg.length then 3 else allE (lg1E pk l[i].kd l[i].lg) l[i].lg.length]:=by
  by_cases h0:l[i].lg.length=0
  ·rw[if_pos h0,if_pos h0,fstE_n (by decide),fstE_n (by decide)]
  ·rw[if_neg h0,if_neg h0]
   by_cases h24:24<l[i].lg.length
   ·rw[if_pos h24,if_pos h24,fstE_n (by decide),fstE_n (by decide)]
   ·rw[if_neg h24,if_neg h24,fstE_z]
 rw[fstE_cons A,fstE_cons A,fstE_cons B,fstE_cons B,fstE_cons (nmdE l[i]),fstE_cons (nmdE l[i]),h2]
structure LsS (w:World) (b:Nat) (lv:Value) (x:Pa) (wr:World):Prop where
 xb:Bx b #[.int .u8 (x.kd:Int),.string (sb x.nm),lv] 62 wr
 be:Below w.heap.size w wr
theorem LsS.below {w:World} {b:Nat} {lv:Value} {x:Pa} {wr w':World} (h:LsS w b lv x wr) (hb:Below wr.heap.size wr w'):LsS w b lv x w':=⟨h.xb.via hb,Below.then_ h.be hb⟩
set_option maxRecDepth 100000 in
set_option maxHeartbeats 40000000 in
theorem rlegs_any (pk:Nat) (lv:Value) (x:Pa) (w:World) (hpk:pk<256) (hkd:x.kd<256) (h:LgsR w lv x.lg) :
  Calls Tryz.prog 139 #[.int .u8 (pk:Int),.agg #[.int .u8 (x.kd:Int),.string (sb x.nm),lv]] w fun e w'=>e=.returned (.int .i64 (lgsE pk x))∧Below w.heap.size w w':=by
 have HE:Hid (lgsE pk x=if x.lg.length=0 then 1 else if 24<x.lg.length then 3 else allE (lg1E pk x.kd x.lg) x.lg.length):=rfl
 obtain⟨R,hR⟩:∃R,lgsE pk x=R:=⟨_,rfl⟩
 rw[hR] at HE
 rw[hR]
 obtain⟨Al,cl,rfl,hcl,hclm⟩:=h.form
 unfold maxLen at hclm
 have HLG:=Lib.hid h
 obtain⟨m,hm⟩:∃m,x.lg.length=m:=⟨_,rfl⟩
 have HM:=Lib.hid hm
 rw[hm] at HE HLG hcl ⊢
 obtain⟨q6,hq6⟩:∃q,w.heap.size=q:=⟨_,rfl⟩
 obtain⟨w0,hw0⟩:∃W,w.alloc (.cells #[.int .u8 (x.kd:Int),.string (sb x.nm),.slice Al m cl] 62)=W:=⟨_,rfl⟩
 have S0:Hid (LsS w q6 (.slice Al m cl) x w0):=⟨by rw[←hw0,←hq6];exact Bx.last w _ _,by rw[←hw0];exact(Below.refl _ _).alloc (Nat.le_refl _) _⟩
 have HW:=Lib.hid hw0
 have HQ:=Lib.hid hq6
 have HKD:=Lib.hid hkd
 have HPK:=Lib.hid hpk
 clear h hR hm hw0 hq6 hkd hpk
 go_enter Tryz.func139,Tryz.ntmps139
 go_upto_region 1 with fail
 rw[HW.out,HQ.out]
 clear HW HQ
 obtain⟨⟨y0,y1,y2⟩,_⟩:=S0.out.xb.cells3
 have yl:=S0.out.xb.lt
 by_cases h0:m=0
 ·have HV:Hid (R=1):=by unfold Hid;rw[HE.out,if_pos h0]
  have BE:=Lib.hid S0.out.be
  subst h0
  go_wp2
  go_ret
  exact⟨ret_int HV.out.symm,BE.out⟩
 rw[if_neg h0] at HE
 have e0:((m:Int) == 0)=false:=beq_eq_false_iff_ne.2 (by omega)
 clear h0
 by_cases h24:24<m
 ·have HV:Hid (R=3):=by unfold Hid;rw[HE.out,if_pos h24]
  have BE:=Lib.hid S0.out.be
  have e24:(24:Int)<(m:Int):=by omega
  clear h24
  go_wp2
  go_ret
  exact⟨ret_int HV.out.symm,BE.out⟩
 rw[if_neg h24] at HE
 have e24:¬(24:Int)<(m:Int):=by omega
 have hm24:m≤24:=by omega
 clear h24
 go_wp2_with fail
 go_loopw [19] (fun iv wr=>∃k:Nat,k≤m∧iv=.int .i64 (k:Int)∧Hid (R=fsE (lg1E pk x.kd x.lg) k (m-k))∧Hid (LsS w q6 (.slice Al m cl) x wr)) (fun iv _=>m-(intOf iv).toNat)
 case atStart=>exact⟨0,Nat.zero_le _,rfl,HE.out,S0.out⟩
 case round =>
  obtain⟨k,hk,rfl,hr,hs⟩:=hrel
  clear y0 y1 y2 yl
  by_cases hlt:k<m
  ·have hki:(k:Int)<(m:Int):=by omega
   have hkl:k<x.lg.length:=by rw[HM.out];exact hlt
   have L2:=Lib.hid (HLG.out.below hs.out.be)
   obtain⟨g2,o2,c2,hv2,hg2,hat2,hok2⟩:=L2.out.at_ hkl
   rw[HM.out] at hv2
   simp only[Value.slice.injEq,true_and] at hv2
   obtain⟨rfl,rfl⟩:=hv2
   have HLE:Hid (lg1E pk x.kd x.lg k=fstE [legE x.lg[k],if k=0 then (if opnB pk x.kd x.lg[k].ty=true then 0 else 9) else (if jnB (x.lg.getD (k-1) lg0) x.lg[k]=true then 0 else 9)]):=by unfold Hid lg1E;rw[getD_in hkl]
   obtain⟨l,hl⟩:∃l,x.lg[k]=l:=⟨_,rfl⟩
   rw[hl] at hat2 hok2 HLE
   have HAT:Hid (∀j2 u,(lgc l)[j2]? = some u→wr.cell? ⟨g2,o2+k*13+j2,none⟩=some u):=hat2
   have HONE:Hid (∀u∈lgc l,u.oneCell'=true):=lgc_one l
   have HOK:=Lib.hid hok2
   obtain⟨q12,hq12⟩:∃q,wr.heap.size=q:=⟨_,rfl⟩
   obtain⟨wA,hwA⟩:∃W,wr.alloc (.cells (lgc l).toArray 65)=W:=⟨_,rfl⟩
   have hbA:Below wr.heap.size wr wA:=by rw[←hwA];exact(Below.refl _ _).alloc (Nat.le_refl _) _
   have SA:=Lib.hid (hs.out.below hbA)
   have XA:Hid (Bx q12 (lgc l).toArray 65 wA):=by rw[←hwA,←hq12];exact Bx.last wr _ _
   have HWA:=Lib.hid hwA
   have HQ12:=Lib.hid hq12
   have hgw:g2<wr.heap.size:=hg2
   clear hat2 hok2 hl hwA hq12 hbA hg2 L2
   go_upto_region 8 with (first|(with_reducible refine wpList_load_wide rfl 65 (.tmp 22) rfl g2 (o2+k*13) rfl (lgc l) 13 rfl (aggLegD _) (sizeLegD _) HAT.out ?_)|(refine wpList_store_last wr _ rfl 65 (.tmp 6) (.tmp 23) rfl rfl (lgc l) rfl infoLegSD rfl HONE.out ?_))
   rw[HWA.out,HQ12.out]
   clear HWA hgw
   have xl:=XA.out.lt
   have XC:Hid (∀j u,(lgc l)[j]? = some u→wA.cell? ⟨q12,0+j,none⟩=some u):=fun j u hu=>by
    rw[Nat.zero_add];exact Bx.cell XA.out j (by rw[List.getElem?_toArray];exact hu)
   have HCK:=Lib.hid (fun W=>rlegCheck_any l W HOK.out)
   go_wp2_with (with_reducible refine wpList_load_wide rfl 65 (.tmp 6) rfl q12 0 rfl (lgc l) 13 rfl (aggLegD _) (sizeLegD _) XC.out ?_)
   refine(HCK.out _).mono ?_
   rintro e wB ⟨rfl,hbB⟩
   have SB:=Lib.hid (SA.out.below hbB)
   have XB:=Lib.hid (XA.out.via hbB)
   have BB:=Lib.hid SB.out.be
   clear hbB SA XA XC xl HCK HAT HQ12
   obtain⟨le,hle⟩:∃e,legE l=e:=⟨_,rfl⟩
   rw[hle] at HLE
   rw[hle]
   clear hle
   by_cases hle0:le=0
   rotate_left
   ·have e9:(le != 0)=true:=bne_iff_ne.2 hle0
    have HV:Hid (R=le):=by
     unfold Hid;rw[hr.out,fsE_hit hlt (by rw[HLE.out,fstE_n hle0];exact hle0),HLE.out,fstE_n hle0]
    clear hle0
    go_wp2
    go_ret
    exact⟨ret_int HV.out.symm,BB.out⟩
   subst hle0
   rw[fstE_z,fst_two] at HLE
   have y0:=SB.out.xb.cell 0 (u:=.int .u8 (x.kd:Int)) rfl
   have yl:=SB.out.xb.lt
   have l0:=XB.out.cell 0 (u:=.int .u8 (l.ty:Int)) rfl
   have ll:=XB.out.lt
   rcases Nat.eq_zero_or_pos k with h0|h0
   ·subst h0
    rw[if_pos rfl] at HLE
    have op:=fun W=>rbegins_any pk x.kd l.ty W HPK.out HKD.out HOK.out.2.2.1
    obtain⟨OB,hOB⟩:∃b,opnB pk x.kd l.ty=b:=⟨_,rfl⟩
    rw[hOB] at op HLE
    clear hOB
    go_wp2_with fail
    refine(op _).mono ?_
    rintro e w' ⟨rfl,rfl⟩
    cases OB
    ·have HV:Hid (R=9):=by
      unfold Hid;rw[hr.out,fsE_hit hlt (by rw[HLE.out];decide),HLE.out];rfl
     go_wp2
     go_ret
     exact⟨ret_int HV.out.symm,BB.out⟩
    ·have HV:Hid (R=fsE (lg1E pk x.kd x.lg) (0+1) (m-(0+1))):=by unfold Hid;rw[hr.out,fsE_step hlt (by rw[HLE.out];rfl)]
     go_wp2_with fail
     go_cut [52] (fun v wx=>v=.bool false∧Hid (LsS w q6 (.slice (some ⟨g2,o2,none⟩) m cl) x wx))
     case first =>
      refine wp_region_quiet_bel (by kernel_rfl) (by kernel_rfl) ?_
      iterate 2 (quiet_step (fail))
      refine wpQuiet_step (fun K hK => ?_)
      go_simp
      with_reducible refine hK _ ?_
      clear hK K
      iterate 9 (with_reducible refine wpQuiet_skipP (by kernel_rfl) ?_)
      simp only[Act.put,List.setIfInBounds_toArray,List.set_cons_succ,List.set_cons_zero]
      quiet_step (fail)
      refine wpQuiet_nil ?_
      rintro wz ⟨pw,hwz⟩
      have SZ:=Lib.hid (SB.out.below (by rw[hwz];exact pw.h:Below wB.heap.size wB wz))
      clear hwz pw y0 yl l0 ll op
      go_wp2
      go_meet
      exact⟨rfl,SZ.out⟩
     case rest =>
     obtain⟨rfl,hsz⟩:=hcut
     clear y0 yl l0 ll op
     go_wp2
     go_roundw
     case rel=>exact⟨0+1,by omega,by first|rfl|go_num,HV,hsz⟩
     case measure=>simp[intOf];omega
   ·obtain⟨j,hj⟩:∃j,k=j+1:=⟨k-1,by omega⟩
    subst hj
    rw[if_neg (by omega),show j+1-1=j by omega] at HLE
    have hjl:j<x.lg.length:=by rw[HM.out];omega
    rw[getD_in hjl] at HLE
    have HL2:=Lib.hid (HLG.out.below SB.out.be)
    obtain⟨g',o',c',hv',hg',hat',hok'⟩:=HL2.out.at_ hjl
    rw[HM.out] at hv'
    simp only[Value.slice.injEq,Option.some.injEq,Addr.mk.injEq,true_and,and_true] at hv'
    obtain⟨⟨rfl,rfl⟩,rfl⟩:=hv'
    obtain⟨y,hy⟩:∃y,x.lg[j]=y:=⟨_,rfl⟩
    rw[hy] at HLE hat' hok'
    have jn:=fun W=>rJoins_any y l W hok' HOK.out
    unfold lgc at jn
    obtain⟨JB,hJB⟩:∃b,jnB y l=b:=⟨_,rfl⟩
    rw[hJB] at jn HLE
    have e10:(((j+1:Nat):Int) == 0)=false:=beq_eq_false_iff_ne.2 (by omega)
    have e10':((j:Int)+1 == 0)=false:=beq_eq_false_iff_ne.2 (by omega)
    have zc:∀j2 u,(lgc y)[j2]? = some u→∀pb:BelBy wB,pb.x.cell? ⟨g2,o2+j*13+j2,none⟩=some u:=fun j2 u hu pb=>(pb.h.cell (p:=⟨g2,o2+j*13+j2,none⟩) hg').trans (hat' j2 u hu)
    have HZC:=Lib.hid zc
    have HGL:=Lib.hid hg'
    clear h0 hJB hy hok' hat' zc HL2 hg'
    go_upto_region 13 with fail
    clear y0 yl l0 ll
    have zc:=HZC.out
    have a0:∀pb:BelBy wB,pb.x.cell? ⟨g2,o2+j*13,none⟩=some (.int .u8 (y.ty:Int)):=zc 0 (.int .u8 (y.ty:Int)) rfl
    have a1:=zc 1 (.string (sb y.fi)) rfl
    have a2:=zc 2 (.string (sb y.ce)) rfl
    have a3:=zc 3 (.int .u8 (y.tn:Int)) rfl
    have a4:=zc 4 (.bool y.ov) rfl
    have a5:=zc 5 (.int .i64 y.cr) rfl
    have a6:=zc 6 (.int .i64 y.ds) rfl
    have a7:=zc 7 (.int .i64 y.ra) rfl
    have a8:=zc 8 (.int .i64 y.th) rfl
    have a9:=zc 9 (.int .i64 y.lo) rfl
    have a10:=zc 10 (.int .i64 y.hi) rfl
    have a11:=zc 11 (.int .i64 y.sp) rfl
    have a12:=zc 12 (.int .i64 y.rn) rfl
    have y2:=fun pb:BelBy wB=>(SB.out.below pb.h).xb.cell 2 (u:=.slice (some ⟨g2,o2,none⟩) m cl) rfl
    have l0:=fun pb:BelBy wB=>(XB.out.via pb.h).cell 0 (u:=.int .u8 (l.ty:Int)) rfl
    have l1:=fun pb:BelBy wB=>(XB.out.via pb.h).cell 1 (u:=.string (sb l.fi)) rfl
    have l2:=fun pb:BelBy wB=>(XB.out.via pb.h).cell 2 (u:=.string (sb l.ce)) rfl
    have l3:=fun pb:BelBy wB=>(XB.out.via pb.h).cell 3 (u:=.int .u8 (l.tn:Int)) rfl
    have l4:=fun pb:BelBy wB=>(XB.out.via pb.h).cell 4 (u:=.bool l.ov) rfl
    have l5:=fun pb:BelBy wB=>(XB.out.via pb.h).cell 5 (u:=.int .i64 l.cr) rfl
    have l6:=fun pb:BelBy wB=>(XB.out.via pb.h).cell 6 (u:=.int .i64 l.ds) rfl
    have l7:=fun pb:BelBy wB=>(XB.out.via pb.h).cell 7 (u:=.int .i64 l.ra) rfl
    have l8:=fun pb:BelBy wB=>(XB.out.via pb.h).cell 8 (u:=.int .i64 l.th) rfl
    have l9:=fun pb:BelBy wB=>(XB.out.via pb.h).cell 9 (u:=.int .i64 l.lo) rfl
    have l10:=fun pb:BelBy wB=>(XB.out.via pb.h).cell 10 (u:=.int .i64 l.hi) rfl
    have l11:=fun pb:BelBy wB=>(XB.out.via pb.h).cell 11 (u:=.int .i64 l.sp) rfl
    have l12:=fun pb:BelBy wB=>(XB.out.via pb.h).cell 12 (u:=.int .i64 l.rn) rfl
    have e8:IntKind.i64.wrap (j:Int)=(j:Int):=IntWalk.i64_in _ (by omega)
    have e9:IntKind.i64.wrap ((j:Int)+1-1)=(j:Int):=by rw[show(j:Int)+1-1=(j:Int) by omega];exact e8
    have e1:IntKind.i64.wrap (((j+1:Nat):Int)-1)=(j:Int):=by rw[show((j+1:Nat):Int)-1=(j:Int) by omega];exact e8
    have e4:(j:Int)<(m:Int):=by omega
    have e5:(0:Int)<((j+1:Nat):Int):=by omega
    have gl5:=HGL.out
    clear zc HZC
    go_cut [52] (fun v wx=>v=.bool (!JB)∧Hid (LsS w q6 (.slice (some ⟨g2,o2,none⟩) m cl) x wx))
    case first =>
     refine wp_region_quiet_bel (by kernel_rfl) (by kernel_rfl) ?_
     repeat(quiet_step ((go_at_call 214;with_reducible exact Calls.bel_of (jn _))))
     refine wpQuiet_nil ?_
     rintro wz ⟨pw,hwz⟩
     have SZ:=Lib.hid (SB.out.below (by rw[hwz];exact pw.h:Below wB.heap.size wB wz))
     clear hwz pw y2 l0 l1 l2 l3 l4 l5 l6 l7 l8 l9 l10 l11 l12 a0 a1 a2 a3 a4 a5 a6 a7 a8 a9 a10 a11 a12 jn e8 e9 e1
     go_wp2
     go_meet
     exact⟨rfl,SZ.out⟩
    case rest =>
    obtain⟨rfl,hsz⟩:=hcut
    clear y2 l0 l1 l2 l3 l4 l5 l6 l7 l8 l9 l10 l11 l12 a0 a1 a2 a3 a4 a5 a6 a7 a8 a9 a10 a11 a12 jn e8 e9 e1 gl5
    have BZ:=Lib.hid hsz.out.be
    cases JB
    ·have HV:Hid (R=9):=by
      unfold Hid;rw[hr.out,fsE_hit hlt (by rw[HLE.out];decide),HLE.out];rfl
     go_wp2
     go_ret
     exact⟨ret_int HV.out.symm,BZ.out⟩
    ·have HV:Hid (R=fsE (lg1E pk x.kd x.lg) (j+1+1) (m-(j+1+1))):=by unfold Hid;rw[hr.out,fsE_step hlt (by rw[HLE.out];rfl)]
     go_wp2
     go_roundw
     case rel=>exact⟨j+1+1,hlt,by go_num,HV,hsz⟩
     case measure=>simp[intOf];omega
  ·have HV:Hid (R=0):=by unfold Hid;rw[hr.out,fsE_end (by omega)]
   have hki:¬(k:Int)<(m:Int):=by omega
   have BE:=Lib.hid hs.out.be
   go_wp2
   go_ret
   exact⟨ret_int HV.out.symm,BE.out⟩
theorem paTake_any {l:List Pa} {k:Nat} (p:Pa→Bool) (hk:k<l.length):(l.take (k+1)).any p=((l.take k).any p || p l[k]):=by
 rw[List.take_succ_eq_append_getElem hk,List.any_append];simp
theorem pa1E_inR {pk:Nat} {l:List Pa} {i:Nat} (hi:i<l.length) (h:pa1E pk l i=0):(l.getD i pa0).kd∈kndL pk:=by
 unfold pa1E at h
 by_cases h1:(l.getD i pa0).kd∈kndL pk
 ·exact h1
 ·rw[if_neg h1,fstE_n (by decide)] at h;cases h
theorem rnk_le (k x:Nat):rnkN k x≤3:=by
 unfold rnkN
 by_cases h:x∈kndR k
 ·rw[if_pos h]
  have h1:=List.idxOf_lt_length_of_mem h
  have h3:(kndR k).length=3:=by unfold kndR;split;rfl;split <;> rfl
  omega
 ·rw[if_neg h];omega
structure PkS (w:World) (pv lv:Value) (p:Prc) (x:Pa) (q6:Nat) (wr:World):Prop where
 pb:Bx w.heap.size #[.string (sb p.ap),.string (sb p.nm),.int .u8 (p.kd:Int),pv] 57 wr
 xb:Bx q6 #[.int .u8 (x.kd:Int),.string (sb x.nm),lv] 62 wr
 be:Below w.heap.size w wr
theorem PkS.below {w:World} {pv lv:Value} {p:Prc} {x:Pa} {q6:Nat} {wr w':World} (h:PkS w pv lv p x q6 wr) (hb:Below wr.heap.size wr w'):PkS w pv lv p x q6 w':=⟨h.pb.via hb,h.xb.via hb,Below.then_ h.be hb⟩
theorem prc_ifs {p:Prc}:prcE p=if (nameB p.ap 6&&nameB p.nm 8)=true then (if p.kd=1∨p.kd=2∨p.kd=3 then (if 12<p.pa.length then 3 else if allE (pa1E p.kd p.pa) p.pa.length=0 then (if p.pa.length=0 then 6 else if p.kd=3∧cmnB p.pa=false then 6 else 0) else allE (pa1E p.kd p.pa) p.pa.length) else 17) else 5:=by
 unfold prcE
 by_cases h1:(nameB p.ap 6&&nameB p.nm 8)=true
 ·rw[if_pos h1,if_pos h1,fstE_z]
  by_cases h2:p.kd=1∨p.kd=2∨p.kd=3
  ·rw[if_pos h2,if_pos h2,fstE_z]
   by_cases h3:12<p.pa.length
   ·rw[if_pos h3,if_pos h3,fstE_n (by decide)]
   ·rw[if_neg h3,if_neg h3,fstE_z]
    by_cases h4:allE (pa1E p.kd p.pa) p.pa.length=0
    ·rw[h4,if_pos rfl,fstE_z]
     by_cases h5:p.pa.length=0
     ·rw[if_pos h5,if_pos h5,fstE_n (by decide)]
     ·rw[if_neg h5,if_neg h5,fstE_z,fst_two]
    ·rw[if_neg h4,fstE_n h4]
  ·rw[if_neg h2,if_neg h2,fstE_n (by decide)]
 ·rw[if_neg h1,if_neg h1,fstE_n (by decide)]
set_option maxRecDepth 100000 in
set_option maxHeartbeats 40000000 in
theorem rprcCheck_any (pv:Value) (p:Prc) (w:World) (h:PasR w pv p.pa) (hk:p.kd<256) (h1:p.ap.length≤maxLen) (h2:p.nm.length≤maxLen) (hN0:p.pa.length≤1000000) :
  Calls Tryz.prog 56 #[.agg (prc (pv,p)).toArray] w fun e w'=>e=.returned (.int .i64 (prcE p))∧Below w.heap.size w w':=by
 have HE:=Lib.hid (@prc_ifs p)
 have HZC:=Lib.hid (fun(h:∀j,j<p.pa.length→pa1E p.kd p.pa j=0)=>cmn_any h)
 obtain⟨R,hR⟩:∃R,prcE p=R:=⟨_,rfl⟩
 rw[hR] at HE
 rw[hR]
 obtain⟨Ap,cp,rfl,hcp,hmp⟩:=h.form
 unfold maxLen at hmp
 have HP:=Lib.hid h
 have nA:=fun W=>rname_any (sb p.ap) 6 W h1
 have nB:=fun W=>rname_any (sb p.nm) 8 W h2
 rw[bl_sb] at nA nB
 obtain⟨NA,hNA⟩:∃b,nameB p.ap 6=b:=⟨_,rfl⟩
 obtain⟨NB,hNB⟩:∃b,nameB p.nm 8=b:=⟨_,rfl⟩
 rw[hNA] at nA HE
 rw[hNB] at nB HE
 obtain⟨n,hn⟩:∃n,p.pa.length=n:=⟨_,rfl⟩
 have HNL:=Lib.hid hn
 rw[hn] at HE HP hcp hN0 HZC ⊢
 have HKD:=Lib.hid hk
 have HK:=Lib.hid (fun x (hx:p.kd=1∨p.kd=2∨p.kd=3) W=>rrank_any p.kd x W hx)
 have HRZ:=Lib.hid (fun x (hx:p.kd=1∨p.kd=2∨p.kd=3)=>@rnk_zero p.kd x hx)
 have HPO:=Lib.hid (fun(x y:Pa) (hx:p.kd=1∨p.kd=2∨p.kd=3)=>@paO_rnk p.kd x y hx)
 have HFR:=Lib.hid (fun i (hi:i<p.pa.length)=>@pa1_four p.kd p.pa i hi)
 have HLEG:=Lib.hid (fun(x:Pa) (lv:Value) (hx:x.kd<256) W h=>rlegs_any p.kd lv x W hk hx h)
 have HC0:Hid ((p.pa.take 0).any (fun x=>x.kd == 2)=false):=rfl
 have HCE:Hid ((p.pa.take n).any (fun x=>x.kd == 2)=p.pa.any (fun x=>x.kd == 2)):=by unfold Hid;rw[List.take_of_length_le (by omega)]
 obtain⟨w0,hw0⟩:∃W,w.alloc (.cells #[.string (sb p.ap),.string (sb p.nm),.int .u8 (p.kd:Int),.slice Ap n cp] 57)=W:=⟨_,rfl⟩
 have B0:Hid (Below w.heap.size w w0):=by rw[←hw0];exact(Below.refl _ _).alloc (Nat.le_refl _) _
 have X0:Hid (Bx w.heap.size #[.string (sb p.ap),.string (sb p.nm),.int .u8 (p.kd:Int),.slice Ap n cp] 57 w0):=by rw[←hw0];exact Bx.last w _ _
 have HW:=Lib.hid hw0
 obtain⟨x0,x1,x2,x3⟩:=X0.out.cells4
 have xl:=X0.out.lt
 have hkd:=hk
 unfold prc
 simp only
 clear h hR hNA hNB hn hw0 h1 h2 hk
 go_enter Tryz.func56,Tryz.ntmps56
 go_upto_region 1 with fail
 rw[HW.out]
 clear HW
 go_wp2_with fail
 refine(nA _).mono ?_
 rintro e w1 ⟨rfl,rfl⟩
 cases NA with
 | false =>
  have HV:Hid (R=5):=HE.out
  clear nA nB
  go_wp2
  go_ret
  exact⟨ret_int HV.out.symm,B0.out⟩
 | true =>
 go_wp2_with fail
 refine(nB _).mono ?_
 rintro e w1 ⟨rfl,rfl⟩
 cases NB with
 | false =>
  have HV:Hid (R=5):=HE.out
  clear nA nB
  go_wp2
  go_ret
  exact⟨ret_int HV.out.symm,B0.out⟩
 | true =>
 clear nA nB
 rw[if_pos (by rfl)] at HE
 by_cases hk3:p.kd=1∨p.kd=2∨p.kd=3
 rotate_left
 ·have HV:Hid (R=17):=by unfold Hid;rw[HE.out,if_neg hk3]
  by_cases hk0:p.kd=0
  ·have d1:(p.kd:Int)<1:=by omega
   clear hk3 hk0 hkd
   go_wp2
   go_ret
   exact⟨ret_int HV.out.symm,B0.out⟩
  ·have d1:decide (p.kd<1)=false:=decide_eq_false (by omega)
   have d1':¬(p.kd:Int)<1:=by omega
   have d2:(3:Int)<(p.kd:Int):=by omega
   clear hk3 hk0 hkd
   go_wp2
   go_ret
   exact⟨ret_int HV.out.symm,B0.out⟩
 rw[if_pos hk3] at HE
 have HK3:=Lib.hid hk3
 have d1:decide (p.kd<1)=false:=decide_eq_false (by omega)
 have d1':¬(p.kd:Int)<1:=by omega
 have d2:decide (3<p.kd)=false:=decide_eq_false (by omega)
 have d2':¬(3:Int)<(p.kd:Int):=by omega
 clear hk3 hkd
 by_cases h12:12<n
 ·have HV:Hid (R=3):=by unfold Hid;rw[HE.out,if_pos h12]
  have e12:(12:Int)<(n:Int):=by omega
  clear h12
  go_wp2
  go_ret
  exact⟨ret_int HV.out.symm,B0.out⟩
 rw[if_neg h12] at HE
 have e12:¬(12:Int)<(n:Int):=by omega
 have hn12:n≤12:=by omega
 clear h12
 go_wp2_with fail
 clear d1 d1' d2 d2' e12
 go_loopw [3,36] (fun cv iv wr=>∃k:Nat,k≤n∧iv=.int .i64 (k:Int)∧cv=.bool ((p.pa.take k).any fun x=>x.kd == 2)∧Hid (allE (pa1E p.kd p.pa) n=fsE (pa1E p.kd p.pa) k (n-k))∧Hid (∀j,j<k→pa1E p.kd p.pa j=0)∧Hid (NmS w w.heap.size (.slice Ap n cp) p wr)) (fun _ iv _=>n-(intOf iv).toNat)
 case atStart=>exact⟨0,Nat.zero_le _,rfl,rfl,rfl,fun j hj=>absurd hj (Nat.not_lt_zero _),⟨X0.out,B0.out⟩⟩
 case round =>
  obtain⟨k,hkn,rfl,rfl,hfs,hz,hb⟩:=hrel
  have BR:=Lib.hid hb.out.be
  have XR:=Lib.hid hb.out.pb
  clear x0 x1 x2 x3 xl
  by_cases hlt:k<n
  rotate_left
  ·have hki:¬(k:Int)<(n:Int):=by omega
   obtain rfl:k=n:=by omega
   have HA:Hid (allE (pa1E p.kd p.pa) k=0):=by unfold Hid;rw[hfs.out,fsE_end (by omega)]
   rw[HA.out,if_pos rfl] at HE
   have HCM:=Lib.hid (HZC.out hz.out)
   rw[HCE.out,←HCM.out]
   obtain⟨C,hC⟩:∃b,cmnB p.pa=b:=⟨_,rfl⟩
   rw[hC] at HE ⊢
   clear hC HCM
   obtain⟨x0,x1,x2,x3⟩:=XR.out.cells4
   have xl:=XR.out.lt
   by_cases h0:k=0
   ·have HV:Hid (R=6):=by unfold Hid;rw[HE.out,if_pos h0]
    subst h0
    go_wp2
    go_ret
    exact⟨ret_int HV.out.symm,BR.out⟩
   rw[if_neg h0] at HE
   have e0:((k:Int) == 0)=false:=beq_eq_false_iff_ne.2 (by omega)
   clear h0
   by_cases h3:p.kd=3
   ·have x2':wr.cell? ⟨w.heap.size,2,none⟩=some (.int .u8 3):=by rw[x2,h3];rfl
    clear x2
    cases C
    ·have HV:Hid (R=6):=by unfold Hid;rw[HE.out,if_pos ⟨h3,rfl⟩]
     clear h3
     go_wp2
     go_ret
     exact⟨ret_int HV.out.symm,BR.out⟩
    ·have HV:Hid (R=0):=by unfold Hid;rw[HE.out,if_neg (by simp)]
     clear h3
     go_wp2
     go_ret
     exact⟨ret_int HV.out.symm,BR.out⟩
   ·have HV:Hid (R=0):=by unfold Hid;rw[HE.out,if_neg (by simp[h3])]
    have e3:((p.kd:Int) == 3)=false:=beq_eq_false_iff_ne.2 (by omega)
    clear h3
    go_wp2
    go_ret
    exact⟨ret_int HV.out.symm,BR.out⟩
  have hki:(k:Int)<(n:Int):=by omega
  have hkl:k<p.pa.length:=by rw[HNL.out];exact hlt
  obtain⟨g,o,c,lv,hv,hg0,hat0,hnm,hkd,hlg⟩:=HP.out.at_ hkl
  have hat:=hat0.below hg0 BR.out
  have hg:=Nat.lt_of_lt_of_le hg0 BR.out.size
  rw[HNL.out] at hv
  simp only[Value.slice.injEq,true_and] at hv
  obtain⟨rfl,rfl⟩:=hv
  have HLE:=Lib.hid (HFR.out k hkl)
  have HTK:=Lib.hid (paTake_any (fun x=>x.kd == 2) hkl)
  have HPV:Hid (0<k→(p.pa.getD (k-1) pa0).kd∈kndL p.kd):=fun h0=>pa1E_inR (by omega) (hz.out (k-1) (by omega))
  obtain⟨x,hx⟩:∃x,p.pa[k]=x:=⟨_,rfl⟩
  rw[hx] at hat hnm hkd hlg HLE HTK
  obtain⟨fe,hfe⟩:∃e,pa1E p.kd p.pa k=e:=⟨_,rfl⟩
  rw[hfe] at HLE
  have HFE:=Lib.hid hfe
  have HNO:Hid (fe≠0→R=fe):=fun h0=>by
   have h2:allE (pa1E p.kd p.pa) n=fe:=by rw[hfs.out,fsE_hit hlt (by rw[HFE.out];exact h0),HFE.out]
   rw[HE.out,h2,if_neg h0]
  obtain⟨Al,cl,rfl,_,_⟩:=hlg.form
  have HLG:=Lib.hid hlg
  obtain⟨ml,hml⟩:∃m2,x.lg.length=m2:=⟨_,rfl⟩
  rw[hml] at hat HLG
  obtain⟨a0,a1,a2⟩:=hat
  obtain⟨q6,hq6⟩:∃q,wr.heap.size=q:=⟨_,rfl⟩
  obtain⟨wA,hwA⟩:∃W,wr.alloc (.cells #[.int .u8 (x.kd:Int),.string (sb x.nm),.slice Al ml cl] 62)=W:=⟨_,rfl⟩
  have hbA:Below wr.heap.size wr wA:=by rw[←hwA];exact(Below.refl _ _).alloc (Nat.le_refl _) _
  have SA:Hid (PkS w (.slice (some ⟨g,o,none⟩) n cp) (.slice Al ml cl) p x q6 wA):=⟨XR.out.via hbA,by rw[←hwA,←hq6];exact Bx.last wr _ _,Below.then_ BR.out hbA⟩
  have HWA:=Lib.hid hwA
  have HQ6:=Lib.hid hq6
  have HKX:=Lib.hid hkd
  have HNM:=Lib.hid hnm
  have hgw:g<wr.heap.size:=hg
  obtain⟨x0,x1,x2,x3⟩:=XR.out.cells4
  have xl:=XR.out.lt
  obtain⟨cb,hcb⟩:∃b,((p.pa.take k).any fun x=>x.kd == 2)=b:=⟨_,rfl⟩
  rw[hcb] at HTK
  rw[hcb]
  clear hx hml hlg hwA hq6 hbA hg hkd hnm hfe hcb hat0 hg0
  go_upto_region 11 with fail
  rw[HWA.out,HQ6.out]
  clear HWA HQ6 a0 a1 a2 hgw x0 x1 x2 x3 xl XR
  have x2:=SA.out.pb.cell 2 (u:=.int .u8 (p.kd:Int)) rfl
  have x3:=SA.out.pb.cell 3 (u:=.slice (some ⟨g,o,none⟩) n cp) rfl
  have xl:=SA.out.pb.lt
  obtain⟨⟨y0,y1,y2⟩,_⟩:=SA.out.xb.cells3
  have yl:=SA.out.xb.lt
  have rk:=HK.out x.kd HK3.out
  have HRX:=Lib.hid (HRZ.out x.kd HK3.out)
  have HPX:=Lib.hid (fun(y:Pa)=>HPO.out x y HK3.out)
  obtain⟨P,hP⟩:∃P,rnkN p.kd x.kd=P:=⟨_,rfl⟩
  have hPl:P≤3:=by
   rw[←hP]
   exact rnk_le _ _
  rw[hP] at rk HRX HPX
  clear hP
  go_wp2_with fail
  refine(rk _).mono ?_
  rintro e wB ⟨rfl,hbB⟩
  have SB:=Lib.hid (SA.out.below hbB)
  clear hbB SA x2 x3 xl y0 y1 y2 yl rk
  by_cases hP0:P=0
  ·have HV:Hid (R=17):=by
    have h1:fe=17:=by rw[HLE.out,if_neg (HRX.out.1 hP0),fstE_n (by decide)]
    unfold Hid;rw[HNO.out (by rw[h1];decide),h1]
   have BE:=Lib.hid SB.out.be
   subst hP0
   go_wp2
   go_ret
   exact⟨ret_int HV.out.symm,BE.out⟩
  have hin:x.kd∈kndL p.kd:=by
   by_cases h9:x.kd∈kndL p.kd
   ·exact h9
   ·exact absurd (HRX.out.2 h9) hP0
  have HIN:=Lib.hid hin
  rw[if_pos hin,fstE_z] at HLE
  have eP:((P:Int) == 0)=false:=beq_eq_false_iff_ne.2 (by omega)
  clear hP0 hin
  go_upto_if 49 with (fail)
  clear eP
  go_cut [7,8] (fun _ _ wx=>Hid (PkS w (.slice (some ⟨g,o,none⟩) n cp) (.slice Al ml cl) p x q6 wx)∧Hid ((if k=0 then 0 else paO p.kd x (p.pa.getD (k-1) pa0))=0))
  case first =>
   rcases Nat.eq_zero_or_pos k with h0|h0
   ·have h0i:¬(0:Int)<(k:Int):=by omega
    have HZ:Hid ((if k=0 then 0 else paO p.kd x (p.pa.getD (k-1) pa0))=0):=by unfold Hid;rw[if_pos h0]
    clear h0
    go_wp2
    go_meet
    exact⟨SB.out,HZ.out⟩
   ·have h0i:(0:Int)<(k:Int):=by omega
    have hyin:=HPV.out h0
    obtain⟨j,hj⟩:∃j,k=j+1:=⟨k-1,by omega⟩
    subst hj
    rw[show j+1-1=j by omega] at hyin HLE
    rw[if_neg (by omega)] at HLE
    have hjl:j<p.pa.length:=by rw[HNL.out];omega
    rw[getD_in hjl] at hyin HLE
    have HCT:Hid ((if j+1=0 then 0 else paO p.kd x (p.pa.getD (j+1-1) pa0))=paO p.kd x p.pa[j]):=by unfold Hid;rw[if_neg (by omega),show j+1-1=j by omega,getD_in hjl]
    have HP2:=Lib.hid (HP.out.below SB.out.be)
    obtain⟨g',o',c',lv',hv',hg',hat',hnm',hkd',hlg'⟩:=HP2.out.at_ hjl
    rw[HNL.out] at hv'
    simp only[Value.slice.injEq,Option.some.injEq,Addr.mk.injEq,true_and,and_true] at hv'
    obtain⟨⟨rfl,rfl⟩,rfl⟩:=hv'
    obtain⟨y,hy⟩:∃y,p.pa[j]=y:=⟨_,rfl⟩
    rw[hy] at hyin HLE hat' hnm' hkd' hlg' HCT
    have HPY:=Lib.hid (HPX.out y HIN.out hyin)
    obtain⟨Al',cl',rfl,_,_⟩:=hlg'.form
    obtain⟨m',hm'⟩:∃m',y.lg.length=m':=⟨_,rfl⟩
    rw[hm'] at hat'
    obtain⟨a0,a1,a2⟩:=hat'
    have x3:=SB.out.pb.cell 3 (u:=.slice (some ⟨g,o,none⟩) n cp) rfl
    have xl:=SB.out.pb.lt
    have e1:(((j+1:Nat):Int))-1=(j:Int):=by omega
    have e2:(j:Int)<(n:Int):=by omega
    have e3:(0:Int)≤(j:Int):=by omega
    obtain⟨q8,hq8⟩:∃q,wB.heap.size=q:=⟨_,rfl⟩
    obtain⟨wC,hwC⟩:∃W,wB.alloc (.cells #[.int .u8 (y.kd:Int),.string (sb y.nm),.slice Al' m' cl'] 62)=W:=⟨_,rfl⟩
    have hbC:Below wB.heap.size wB wC:=by rw[←hwC];exact(Below.refl _ _).alloc (Nat.le_refl _) _
    have SC:=Lib.hid (SB.out.below hbC)
    have YC:Hid (Bx q8 #[.int .u8 (y.kd:Int),.string (sb y.nm),.slice Al' m' cl'] 62 wC):=by rw[←hwC,←hq8];exact Bx.last wB _ _
    have HWC:=Lib.hid hwC
    have HQ8:=Lib.hid hq8
    have ge:g<wB.heap.size:=hg'
    clear hwC hbC hq8 hy hm' hlg' h0 HP2 hyin hg'
    go_upto_region 16 with fail
    rw[HWC.out,HQ8.out]
    clear HWC HQ8 x3 xl a0 a1 a2 ge
    have x2:=SC.out.pb.cell 2 (u:=.int .u8 (p.kd:Int)) rfl
    have xl:=SC.out.pb.lt
    obtain⟨⟨z0,z1,z2⟩,_⟩:=YC.out.cells3
    have zl:=YC.out.lt
    have rk:=HK.out y.kd HK3.out
    obtain⟨Q,hQ⟩:∃Q,rnkN p.kd y.kd=Q:=⟨_,rfl⟩
    have hQl:Q≤3:=by rw[←hQ];exact rnk_le _ _
    rw[hQ] at rk HPY
    clear hQ
    go_wp2_with fail
    refine(rk _).mono ?_
    rintro e wD ⟨rfl,hbD⟩
    have SD:=Lib.hid (SC.out.below hbD)
    have YD:=Lib.hid (YC.out.via hbD)
    clear hbD SC YC x2 xl z0 z1 z2 zl rk
    obtain⟨⟨y0,y1,y2⟩,_⟩:=SD.out.xb.cells3
    have yl:=SD.out.xb.lt
    obtain⟨⟨z0,z1,z2⟩,_⟩:=YD.out.cells3
    have zl:=YD.out.lt
    have sl:=str_lt (a:=x.nm) (b:=y.nm)
    have se:=str_is (a:=x.nm) (b:=y.nm)
    have BE:=Lib.hid SD.out.be
    rcases Nat.lt_trichotomy P Q with hpq|hpq|hpq
    ·have HV:Hid (R=9):=by
      have h1:fe=9:=by rw[HLE.out,HPY.out,if_pos hpq,fstE_n (by decide)]
      unfold Hid;rw[HNO.out (by rw[h1];decide),h1]
     have c1:(P:Int)<(Q:Int):=by omega
     clear hpq
     go_wp2
     go_ret
     exact⟨ret_int HV.out.symm,BE.out⟩
    ·subst hpq
     by_cases hlt2:x.nm<y.nm
     ·have HV:Hid (R=9):=by
       have h1:fe=9:=by rw[HLE.out,HPY.out,if_neg (by omega),if_pos rfl,if_pos hlt2,fstE_n (by decide)]
       unfold Hid;rw[HNO.out (by rw[h1];decide),h1]
      rw[decide_eq_true hlt2] at sl
      clear hlt2
      go_wp2
      go_ret
      exact⟨ret_int HV.out.symm,BE.out⟩
     ·by_cases heq:x.nm=y.nm
      ·have HV:Hid (R=7):=by
        have h1:fe=7:=by rw[HLE.out,HPY.out,if_neg (by omega),if_pos rfl,if_neg hlt2,if_pos heq,fstE_n (by decide)]
        unfold Hid;rw[HNO.out (by rw[h1];decide),h1]
       rw[decide_eq_false hlt2] at sl
       rw[decide_eq_true heq] at se
       clear hlt2 heq
       go_wp2
       go_ret
       exact⟨ret_int HV.out.symm,BE.out⟩
      ·have HV:Hid (paO p.kd x y=0):=by unfold Hid;rw[HPY.out,if_neg (by omega),if_pos rfl,if_neg hlt2,if_neg heq]
       rw[decide_eq_false hlt2] at sl
       rw[decide_eq_false heq] at se
       clear hlt2 heq
       go_wp2
       go_meet
       exact⟨SD.out,HCT.out.trans HV.out⟩
    ·have HV:Hid (paO p.kd x y=0):=by unfold Hid;rw[HPY.out,if_neg (by omega),if_neg (by omega)]
     have c1:decide (P<Q)=false:=decide_eq_false (by omega)
     have c2:((P:Int) == (Q:Int))=false:=beq_eq_false_iff_ne.2 (by omega)
     clear hpq
     go_wp2
     go_meet
     exact⟨SD.out,HCT.out.trans HV.out⟩
  case rest =>
  obtain⟨hs,hz2⟩:=hcut
  rw[hz2.out,fstE_z] at HLE
  clear SB hz2 HPV HPX HRX HIN
  obtain⟨⟨y0,y1,y2⟩,_⟩:=hs.out.xb.cells3
  have yl:=hs.out.xb.lt
  obtain⟨NBx,hNBx⟩:∃b,(x.kd == 1 || x.kd == 3)=b:=⟨_,rfl⟩
  have HND:Hid (nmdE x=if NBx=true then (if nameB x.nm 8=true then 0 else 5) else (if x.nm=[] then 0 else 5)):=by
   unfold Hid nmdE;rw[←hNBx]
   by_cases h1:x.kd=1∨x.kd=3
   ·rw[if_pos h1,if_pos (show(x.kd == 1 || x.kd == 3)=true by rcases h1 with h1|h1 <;> rw[h1] <;> rfl)]
   ·rw[if_neg h1,if_neg (show ¬(x.kd == 1 || x.kd == 3)=true by simpa using h1)]
  have k1:=u8_beq x.kd 1
  have k3:=u8_beq x.kd 3
  obtain⟨K1,hk1⟩:∃b,(x.kd == 1)=b:=⟨_,rfl⟩
  obtain⟨K3,hk3⟩:∃b,(x.kd == 3)=b:=⟨_,rfl⟩
  rw[hk1,hk3] at hNBx
  rw[hk1] at k1
  rw[hk3] at k3
  replace k1:((x.kd:Int) == 1)=K1:=k1
  replace k3:((x.kd:Int) == 3)=K3:=k3
  have HNB:=Lib.hid hNBx
  clear hk1 hk3 hNBx
  go_upto_region 21 with fail
  go_cut [9] (fun v wx=>v=.bool NBx∧Hid (PkS w (.slice (some ⟨g,o,none⟩) n cp) (.slice Al ml cl) p x q6 wx))
  case first =>
   cases K1
   ·cases K3
    ·go_wp2;go_meet;exact⟨by rw[←HNB.out];rfl,hs.out⟩
    ·go_wp2;go_meet;exact⟨by rw[←HNB.out];rfl,hs.out⟩
   ·go_wp2;go_meet;exact⟨by rw[←HNB.out];rfl,hs.out⟩
  case rest =>
  obtain⟨rfl,hs2⟩:=hcut
  clear hs y0 y1 y2 yl k1 k3 HNB
  obtain⟨⟨y0,y1,y2⟩,_⟩:=hs2.out.xb.cells3
  have yl:=hs2.out.xb.lt
  have nm8:=fun W=>rname_any (sb x.nm) 8 W HNM.out
  rw[bl_sb] at nm8
  have sn:=str_nil (a:=x.nm)
  obtain⟨N8,hN8⟩:∃b,nameB x.nm 8=b:=⟨_,rfl⟩
  rw[hN8] at nm8 HND
  obtain⟨er,her⟩:∃e,nmdE x=e:=⟨_,rfl⟩
  rw[her] at HND HLE
  clear hN8 her
  go_upto_region 22 with fail
  go_cut [109] (fun v wx=>v=.bool (decide (er≠0))∧Hid (er=0∨er=5)∧Hid (PkS w (.slice (some ⟨g,o,none⟩) n cp) (.slice Al ml cl) p x q6 wx))
  case first =>
   cases NBx
   ·rw[if_neg (by decide)] at HND
    by_cases hnil:x.nm=[]
    ·have HV:Hid (er=0):=by unfold Hid;rw[HND.out,if_pos hnil]
     rw[decide_eq_true hnil] at sn
     clear hnil
     go_wp2;go_meet;exact⟨by rw[HV.out];rfl,.inl HV.out,hs2.out⟩
    ·have HV:Hid (er=5):=by unfold Hid;rw[HND.out,if_neg hnil]
     rw[decide_eq_false hnil] at sn
     clear hnil
     go_wp2;go_meet;exact⟨by rw[HV.out];rfl,.inr HV.out,hs2.out⟩
   ·rw[if_pos rfl] at HND
    go_wp2_with fail
    refine(nm8 _).mono ?_
    rintro e w' ⟨rfl,rfl⟩
    cases N8
    ·have HV:Hid (er=5):=HND.out
     go_wp2;go_meet;exact⟨by rw[HV.out];rfl,.inr HV.out,hs2.out⟩
    ·have HV:Hid (er=0):=HND.out
     go_wp2;go_meet;exact⟨by rw[HV.out];rfl,.inl HV.out,hs2.out⟩
  case rest =>
  obtain⟨rfl,her,hs3⟩:=hcut
  clear hs2 y0 y1 y2 yl nm8 sn HND
  by_cases he0:er=0
  rotate_left
  ·have HV:Hid (R=5):=by
    have h5:er=5:=by rcases her.out with h|h;exact absurd h he0;exact h
    have h1:fe=5:=by rw[HLE.out,h5,fstE_n (by decide)]
    unfold Hid;rw[HNO.out (by rw[h1];decide),h1]
   have e0:decide (er≠0)=true:=decide_eq_true he0
   have BE:=Lib.hid hs3.out.be
   rw[e0]
   clear he0 e0
   go_wp2
   go_ret
   exact⟨ret_int HV.out.symm,BE.out⟩
  subst he0
  rw[fstE_z,fst_two] at HLE
  rw[show decide ((0:Int)≠0)=false from rfl]
  clear her
  have x2:=hs3.out.pb.cell 2 (u:=.int .u8 (p.kd:Int)) rfl
  have xl:=hs3.out.pb.lt
  obtain⟨⟨y0,y1,y2⟩,_⟩:=hs3.out.xb.cells3
  have yl:=hs3.out.xb.lt
  have LG:=Lib.hid (HLEG.out x (.slice Al ml cl) HKX.out)
  rw[←HLE.out] at LG
  have LG3:=Lib.hid (HLG.out.below hs3.out.be)
  go_wp2_with fail
  refine(LG.out _ LG3.out).mono ?_
  rintro e wE ⟨rfl,hbE⟩
  have SE:=Lib.hid (hs3.out.below hbE)
  have BE:=Lib.hid SE.out.be
  clear hbE x2 xl y0 y1 y2 yl LG LG3 hs3
  by_cases hf0:fe=0
  rotate_left
  ·have HV:=Lib.hid (HNO.out hf0)
   have e0:(fe != 0)=true:=bne_iff_ne.2 hf0
   clear hf0
   go_wp2
   go_ret
   exact⟨ret_int HV.out.symm,BE.out⟩
  have HF2:Hid (allE (pa1E p.kd p.pa) n=fsE (pa1E p.kd p.pa) (k+1) (n-(k+1))):=by unfold Hid;rw[hfs.out,fsE_step hlt (by rw[HFE.out];exact hf0)]
  have HZ2:Hid (∀j,j<k+1→pa1E p.kd p.pa j=0):=fun j hj=>by
   by_cases hjk:j<k
   ·exact hz.out j hjk
   ·rw[show j=k by omega,HFE.out];exact hf0
  have BE0:Hid (NmS w w.heap.size (.slice (some ⟨g,o,none⟩) n cp) p wE):=⟨SE.out.pb,SE.out.be⟩
  subst hf0
  obtain⟨⟨y0,y1,y2⟩,_⟩:=SE.out.xb.cells3
  have yl:=SE.out.xb.lt
  have k2:=u8_beq x.kd 2
  replace k2:((x.kd:Int) == 2)=(x.kd == 2):=k2
  obtain⟨K2,hk2⟩:∃b,(x.kd == 2)=b:=⟨_,rfl⟩
  rw[hk2] at k2 HTK
  clear hk2
  cases cb
  ·cases K2
   ·go_wp2
    go_roundw
    case rel=>exact⟨k+1,hlt,by go_num,by rw[HTK.out];rfl,HF2,HZ2,BE0⟩
    case measure=>simp[intOf];omega
   ·go_wp2
    go_roundw
    case rel=>exact⟨k+1,hlt,by go_num,by rw[HTK.out];rfl,HF2,HZ2,BE0⟩
    case measure=>simp[intOf];omega
  ·go_wp2
   go_roundw
   case rel=>exact⟨k+1,hlt,by go_num,by rw[HTK.out];rfl,HF2,HZ2,BE0⟩
   case measure=>simp[intOf];omega
end Go.Proofs.YtgmehlgfilpleaaGreatDoor
