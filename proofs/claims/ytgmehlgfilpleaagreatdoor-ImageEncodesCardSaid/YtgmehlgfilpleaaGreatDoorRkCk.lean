/-
  Contract: the reference's first error of a database.
-/
import Derived.Test.YtgmehlgfilpleaaGreatDoorMG25
import Derived.Test.YtgmehlgfilpleaaGreatDoorMG27
import Derived.Test.YtgmehlgfilpleaaGreatDoorMG09
import Derived.Test.YtgmehlgfilpleaaGreatDoorMG05
namespace Go.Proofs.YtgmehlgfilpleaaGreatDoor
open Go.RowKit
set_option linter.unusedVariables false
set_option linter.unusedSimpArgs false
theorem cmpS_swap (a b:List UInt8):cmpS a b = -cmpS b a:=by
 unfold cmpS
 by_cases h1:a<b
 ·rw[if_pos h1,if_neg (blt_asymm h1),if_pos h1]
 ·rw[if_neg h1]
  by_cases h2:b<a
  ·rw[if_pos h2,if_pos h2];rfl
  ·rw[if_neg h2,if_neg h2,if_neg h1];rfl
theorem cmpP_swap (p q:Prc):cmpP p q = -cmpP q p:=by
 unfold cmpP
 have e1:=cmpS_swap p.ap q.ap
 have e2:=cmpS_swap p.nm q.nm
 by_cases h0:cmpS p.ap q.ap≠0
 ·rw[if_pos h0,if_pos (show cmpS q.ap p.ap≠0 by omega)];exact e1
 ·rw[if_neg h0,if_neg (show ¬cmpS q.ap p.ap≠0 by omega)]
  by_cases h1:p.kd<q.kd
  ·rw[if_pos h1,if_neg (show ¬q.kd<p.kd by omega),if_pos h1]
  ·rw[if_neg h1]
   by_cases h2:q.kd<p.kd
   ·rw[if_pos h2,if_pos h2];rfl
   ·rw[if_neg h2,if_neg h2,if_neg h1];exact e2
theorem ord_S (a b:List UInt8):ordE (cmpS a b)=if decide (b=a)=true then 7 else if (!(decide (b<a)) && !(decide (b=a)))=true then 9 else 0:=by
 unfold ordE cmpS
 by_cases h1:a<b
 ·have hn:¬b<a:=blt_asymm h1
  have he:¬b=a:=fun e=>by rw[e] at h1;exact blt_asymm h1 h1
  rw[if_pos h1,decide_eq_false hn,decide_eq_false he];rfl
 ·by_cases h2:b<a
  ·have he:¬b=a:=fun e=>by rw[e] at h2;exact blt_asymm h2 h2
   rw[if_neg h1,if_pos h2,decide_eq_true h2,decide_eq_false he];rfl
  ·have he:b=a:=blt_eq h2 h1
   rw[if_neg h1,if_neg h2,decide_eq_true he];rfl
theorem ord_P (p q:Prc):ordE (cmpP p q)=if (cmpP q p == 0)=true then 7 else if decide (0<cmpP q p)=true then 9 else 0:=by
 rw[cmpP_swap p q]
 unfold ordE
 obtain⟨c,hc⟩:∃c,cmpP q p=c:=⟨_,rfl⟩
 rw[hc]
 by_cases h0:c=0
 ·rw[h0];rfl
 ·rw[if_neg (by omega),if_neg (show ¬(c == 0)=true by simpa using h0)]
  by_cases h1:0<c
  ·rw[if_pos (by omega),if_pos (decide_eq_true h1)]
  ·rw[if_neg (by omega),if_neg (by simpa using h1)]
theorem rk_t (a b:Int):(if true=true then a else b)=a:=if_pos rfl
theorem rk_f (a b:Int):(if false=true then a else b)=b:=if_neg (by decide)
theorem rk3 (a b c:Int):fstE [a,b,c]=if a=0 then (if b=0 then c else b) else a:=by
 rw[fstE_cons,fstE_cons,fst_two]
theorem dbR_ifs (D:DbD):dbR D=if hdrE D.hd=0 then (if 400<D.fx.length∨60<D.aw.length∨60<D.pr.length then 3 else if allE (fx1E D.hd.la D.hd.lo D.fx) D.fx.length=0 then (if allE (aw1E D.fx D.aw) D.aw.length=0 then allE (pr1R D.fx D.pr) D.pr.length else allE (aw1E D.fx D.aw) D.aw.length) else allE (fx1E D.hd.la D.hd.lo D.fx) D.fx.length) else hdrE D.hd:=by
 unfold dbR
 rw[fstE_cons,fstE_cons,rk3]
 by_cases h:400<D.fx.length∨60<D.aw.length∨60<D.pr.length
 ·rw[if_pos h,if_pos h];rfl
 ·rw[if_neg h,if_neg h];rfl
theorem plc_R (la lo:Int) (f:Fx) (bf al:List Fx):plcE la lo f bf al=if toE la lo f.lat f.lon=0 then plR f bf al else toE la lo f.lat f.lon:=by
 unfold plcE plR
 by_cases h:toE la lo f.lat f.lon=0
 ·rw[if_neg (by simp[h]),if_pos h]
 ·rw[if_pos h,if_neg h]
theorem getD_prev {α : Type} {l:List α} {k j:Nat} {d : α} (hj:k=j+1) (hk:k<l.length):∃h:j<l.length,l[j]=l.getD (k-1) d:=by
 subst hj
 exact⟨by omega,by rw[show j+1-1=j by omega,getD_in (by omega)]⟩
def rkA (h:ImHd) (f a p:Value):Array Value := #[.string (sb h.nm),.int .i64 h.cy,.int .i64 h.fr,.int .i64 h.tu,.int .i64 h.la,.int .i64 h.lo,f,a,p]
structure DkS (w:World) (D:DbD) (f a p:Value) (wr:World):Prop where
 x1:Bx w.heap.size (rkA D.hd f a p) 30 wr
 be:Below w.heap.size w wr
theorem DkS.below {w:World} {D:DbD} {f a p:Value} {wr w':World} (h:DkS w D f a p wr) (hb:Below wr.heap.size wr w'):DkS w D f a p w':=⟨h.x1.via hb,Below.then_ h.be hb⟩
set_option maxRecDepth 100000 in
set_option maxHeartbeats 80000000 in
theorem rdbCheck_any (D:DbD) (f a p:Value) (w:World) (h:DbV w f a p D) (hz:SzL D.fx) (hpr:∀x∈D.pr,x.pa.length≤1000000∧∀y∈x.pa,y.lg.length≤1000000) :
  Calls Tryz.prog 11 #[.agg (dbC D.hd f a p).toArray] w fun e w'=>e=.returned (.int .i64 (dbE D))∧Below w.heap.size w w':=by
 rw[←dbR_eq]
 have HE:=Lib.hid (dbR_ifs D)
 obtain⟨R,hR⟩:∃R,dbR D=R:=⟨_,rfl⟩
 rw[hR] at HE
 rw[hR]
 clear hR
 have HH:=Lib.hid h
 have HZ:=Lib.hid hz
 have HPR:=Lib.hid hpr
 obtain⟨Af,cf,rfl,hcf,hmf⟩:=h.fx.1.form
 obtain⟨Aa,ca,rfl,hca,hma⟩:=h.aw.form
 obtain⟨Ap,cp,rfl,hcp,hmp⟩:=h.pr.form
 unfold maxLen at hmf hma hmp
 have HDR:=Lib.hid (fun w=>rheader_any D.hd w h.nm)
 unfold hdD at HDR
 obtain⟨n,hn⟩:∃n,D.fx.length=n:=⟨_,rfl⟩
 obtain⟨na,hna⟩:∃n,D.aw.length=n:=⟨_,rfl⟩
 obtain⟨np,hnp⟩:∃n,D.pr.length=n:=⟨_,rfl⟩
 rw[hn,hna,hnp] at HE HH
 rw[hn] at hcf
 rw[hna] at hca
 rw[hnp] at hcp
 rw[hn,hna,hnp]
 have HN:=Lib.hid hn
 have HNA:=Lib.hid hna
 have HNP:=Lib.hid hnp
 obtain⟨he,hhe⟩:∃e,hdrE D.hd=e:=⟨_,rfl⟩
 rw[hhe] at HE HDR
 clear h hz hpr hn hna hnp hhe
 obtain⟨w0,hw0⟩:∃W,w.alloc (.cells (rkA D.hd (.slice Af n cf) (.slice Aa na ca) (.slice Ap np cp)) 30)=W:=⟨_,rfl⟩
 have S0:Hid (DkS w D (.slice Af n cf) (.slice Aa na ca) (.slice Ap np cp) w0):=⟨by rw[←hw0];exact Bx.last w _ _,by rw[←hw0];exact(Below.refl _ _).alloc (Nat.le_refl _) _⟩
 obtain⟨⟨x0,x1,x2,x3,x4,x5,x6,x7,x8⟩,_⟩:=Bx.cells9 S0.out.x1
 have xl:=Bx.lt S0.out.x1
 unfold rkA at hw0
 have HW0:=Lib.hid hw0
 clear hw0
 unfold dbC
 go_enter Tryz.func11,Tryz.ntmps11
 go_upto_region 1 with fail
 rw[HW0.out]
 clear HW0
 go_wp2_with fail
 refine(HDR.out _).mono ?_
 rintro e w1 ⟨rfl,hb1⟩
 have S1:=Lib.hid (S0.out.below hb1)
 clear hb1 S0 x0 x1 x2 x3 x4 x5 x6 x7 x8 xl HDR
 have B1:=Lib.hid S1.out.be
 by_cases h0:he=0
 case neg =>
  have HV:Hid (R=he):=by unfold Hid;rw[HE.out,if_neg h0]
  have e0:(he != 0)=true:=bne_iff_ne.2 h0
  clear h0
  go_wp2
  go_ret
  exact⟨ret_int HV.out.symm,B1.out⟩
 case pos =>
 subst h0
 rw[if_pos rfl] at HE
 obtain⟨⟨x0,x1,x2,x3,x4,x5,x6,x7,x8⟩,_⟩:=Bx.cells9 S1.out.x1
 have xl:=Bx.lt S1.out.x1
 by_cases hf4:400<n
 ·have HV:Hid (R=3):=by unfold Hid;rw[HE.out,if_pos (.inl hf4)]
  have e1:(400:Int)<(n:Int):=by omega
  clear hf4
  go_wp2
  go_ret
  exact⟨ret_int HV.out.symm,B1.out⟩
 by_cases ha6:60<na
 ·have HV:Hid (R=3):=by unfold Hid;rw[HE.out,if_pos (.inr (.inl ha6))]
  have e1:¬(400:Int)<(n:Int):=by omega
  have e2:(60:Int)<(na:Int):=by omega
  clear hf4 ha6
  go_wp2
  go_ret
  exact⟨ret_int HV.out.symm,B1.out⟩
 by_cases hp6:60<np
 ·have HV:Hid (R=3):=by unfold Hid;rw[HE.out,if_pos (.inr (.inr hp6))]
  have e1:¬(400:Int)<(n:Int):=by omega
  have e2:¬(60:Int)<(na:Int):=by omega
  have e3:(60:Int)<(np:Int):=by omega
  clear hf4 ha6 hp6
  go_wp2
  go_ret
  exact⟨ret_int HV.out.symm,B1.out⟩
 rw[if_neg (by omega)] at HE
 have e1:¬(400:Int)<(n:Int):=by omega
 have e2:¬(60:Int)<(na:Int):=by omega
 have e3:¬(60:Int)<(np:Int):=by omega
 have hn4:n≤400:=by omega
 have hna6:na≤60:=by omega
 have hnp6:np≤60:=by omega
 have HFB:Hid (FxsR w (.slice Af n cf) D.fx):=HH.out.fx.1
 have HKD:Hid (∀f∈D.fx,FxOk f):=fun f hf=>HH.out.fx.2 f hf
 clear hf4 ha6 hp6
 go_wp2_with fail
 clear e1 e2 e3
 go_loopw [37] (fun iv wr=>∃k:Nat,k≤n∧iv=.int .i64 (k:Int)∧Hid (allE (fx1E D.hd.la D.hd.lo D.fx) n=fsE (fx1E D.hd.la D.hd.lo D.fx) k (n-k))∧Hid (DkS w D (.slice Af n cf) (.slice Aa na ca) (.slice Ap np cp) wr)) (fun iv _=>n-(intOf iv).toNat)
 case atStart=>exact⟨0,Nat.zero_le _,rfl,rfl,S1.out⟩
 case round =>
  obtain⟨k,hk,rfl,hfs,hck⟩:=hrel
  clear x0 x1 x2 x3 x4 x5 x6 x7 x8 xl
  by_cases hlt:k<n
  ·have hkl:k<D.fx.length:=by rw[HN.out];exact hlt
   obtain⟨g,o,c',hA,hg0,hat0⟩:=FxsR.at_ (by have:=HFB.out;rw[←HN.out] at this;exact this:FxsR w (.slice Af D.fx.length cf) D.fx) hkl
   have hat:=hat0.below hg0 hck.out.be hg0
   have hgl:=Nat.lt_of_lt_of_le hg0 hck.out.be.size
   rw[HN.out] at hA
   simp only[Value.slice.injEq,true_and] at hA
   obtain⟨rfl,rfl⟩:=hA
   have hsz:=HZ.out.get hkl
   have hok:=HKD.out _ (List.getElem_mem hkl)
   have HPL:=Lib.hid (fun W h=>rplace_any (some ⟨g,o,none⟩) n cf D.fx k W h hkl (by rw[HN.out];omega))
   obtain⟨pv,hpv⟩:∃x,D.fx.getD (k-1) fx0=x:=⟨_,rfl⟩
   have HLE:Hid (fx1E D.hd.la D.hd.lo D.fx k=fstE [fixE D.fx[k],if k=0 then 0 else ordE (cmpS (fxRef D.fx[k]) (fxRef pv)),plcE D.hd.la D.hd.lo D.fx[k] (D.fx.take k) D.fx]):=by
    unfold Hid fx1E;rw[getD_in hkl,hpv]
   have HPV:Hid (∀j,k=j+1→∃hj:j<D.fx.length,D.fx[j]=pv):=fun j hj=>by obtain⟨a,b⟩:=getD_prev (d:=fx0) hj hkl;exact⟨a,by rw[b];exact hpv⟩
   obtain⟨f,hf⟩:∃f,D.fx[k]=f:=⟨_,rfl⟩
   rw[hf] at hat hsz hok HLE HPL
   obtain⟨fe,hfe⟩:∃e,fx1E D.hd.la D.hd.lo D.fx k=e:=⟨_,rfl⟩
   rw[hfe,rk3,ord_S,plc_R] at HLE
   have HFE:=Lib.hid hfe
   obtain⟨EQ,hEQ⟩:∃b,(decide (0<k)&&decide (fxRef pv=fxRef f))=b:=⟨_,rfl⟩
   obtain⟨GT,hGT⟩:∃b,(decide (0<k)&&(!(decide (fxRef pv<fxRef f)) && !(decide (fxRef pv=fxRef f))))=b:=⟨_,rfl⟩
   have HOD:Hid ((if k=0 then 0 else if decide (fxRef pv=fxRef f)=true then 7 else if (!(decide (fxRef pv<fxRef f)) && !(decide (fxRef pv=fxRef f)))=true then 9 else 0)=(if EQ=true then (7:Int) else if GT=true then 9 else 0)):=by
    unfold Hid;rw[←hEQ,←hGT]
    rcases Nat.eq_zero_or_pos k with h0|h0
    ·rw[if_pos h0,h0];rfl
    ·rw[if_neg (by omega),decide_eq_true h0,Bool.true_and,Bool.true_and]
   rw[HOD.out] at HLE
   have HEQ:=Lib.hid hEQ
   have HGT:=Lib.hid hGT
   obtain⟨y0,y1,y2,y3,y4,y5,y6⟩:=hat
   have hki:(k:Int)<(n:Int):=by omega
   obtain⟨wA,hwA⟩:∃W,wr.alloc (.cells #[.string (sb f.id),.string (sb f.rg),.int .u8 (f.kd:Int),.int .i64 f.lat,.int .i64 f.lon,.int .i64 f.el,.int .i64 f.ra] 38)=W:=⟨_,rfl⟩
   have BA:Hid (Below wr.heap.size wr wA):=by rw[←hwA];exact(Below.refl _ _).alloc (Nat.le_refl _) _
   obtain⟨q7,hq7⟩:∃q,wr.heap.size=q:=⟨_,rfl⟩
   have FA:Hid (FxBox wA q7 f):=by rw[←hwA,←hq7];exact heap_alloc_new wr _
   have KA:=Lib.hid (hck.out.below BA.out)
   have HWA:=Lib.hid hwA
   have HSZ:=Lib.hid hsz
   have HCF:=Lib.hid (fun W=>rcheckF_any f W hok.1 hok.2.1)
   have HQ7:=Lib.hid hq7
   clear hq7 hf hwA hck hok hsz hfe hpv hEQ hGT HOD hat0 hg0
   go_upto_region 9 with fail
   rw[HWA.out,HQ7.out]
   clear HWA y0 y1 y2 y3 y4 y5 y6
   obtain⟨y0,y1,y2,y3,y4,y5,y6⟩:=FA.out.cells
   have yl:=lt_heap FA.out
   go_wp2_with fail
   refine(HCF.out _).mono ?_
   rintro e w5 ⟨rfl,hb5⟩
   have K5:=Lib.hid (KA.out.below hb5)
   have F5:Hid (FxBox w5 q7 f):=(hb5.block q7 (lt_heap FA.out)).trans FA.out
   clear hb5 KA FA HCF y0 y1 y2 y3 y4 y5 y6 yl
   obtain⟨fc,hfc⟩:∃e,fixE f=e:=⟨_,rfl⟩
   rw[hfc] at HLE
   rw[hfc]
   clear hfc
   by_cases hc0:fc=0
   case neg =>
    have HV:Hid (R=fc):=by
     have h1:fe=fc:=by rw[HLE.out,if_neg hc0]
     have h2:allE (fx1E D.hd.la D.hd.lo D.fx) n=fc:=by rw[hfs.out,fsE_hit hlt (by rw[HFE.out,h1];exact hc0),HFE.out,h1]
     unfold Hid;rw[HE.out,h2,if_neg hc0]
    have e0:(fc != 0)=true:=bne_iff_ne.2 hc0
    have BE:=Lib.hid K5.out.be
    clear hc0
    go_wp2
    go_ret
    exact⟨ret_int HV.out.symm,BE.out⟩
   case pos =>
   subst hc0
   rw[if_pos rfl] at HLE
   go_upto_region 12 with fail
   go_cut [60] (fun v wx=>v=.bool EQ∧Hid (Below w5.heap.size w5 wx))
   case first =>
    rcases Nat.eq_zero_or_pos k with h0|h0
    ·have HE0:Hid (EQ=false):=by unfold Hid;rw[←HEQ.out,h0];rfl
     subst h0
     refine wp_region_quiet_bel (by kernel_rfl) (by kernel_rfl) ?_
     iterate 2 (quiet_step (fail))
     refine wpQuiet_step (fun K hK => ?_)
     go_simp
     with_reducible refine hK _ ?_
     clear hK K
     iterate 10 (with_reducible refine wpQuiet_skipP (by kernel_rfl) ?_)
     simp only[Act.put,List.setIfInBounds_toArray,List.set_cons_succ,List.set_cons_zero]
     quiet_step (fail)
     refine wpQuiet_nil ?_
     rintro wz ⟨pw,hwz⟩
     have BZ:Hid (Below w5.heap.size w5 wz):=by rw[hwz];exact pw.h
     clear hwz pw
     go_wp2
     go_meet
     exact⟨by rw[HE0.out],BZ.out⟩
    ·obtain⟨j,hj⟩:∃j,k=j+1:=⟨k-1,by omega⟩
     obtain⟨hjl,hpj⟩:=HPV.out j hj
     obtain⟨g',o',c'',hA5,hg5,hatp0⟩:=FxsR.at_ (by have:=HFB.out;rw[←HN.out] at this;exact this:FxsR w (.slice (some ⟨g,o,none⟩) D.fx.length cf) D.fx) hjl
     have hatp:=hatp0.below hg5 K5.out.be hg5
     have hgl5:=Nat.lt_of_lt_of_le hg5 K5.out.be.size
     rw[HN.out] at hA5
     simp only[Value.slice.injEq,Option.some.injEq,Addr.mk.injEq,true_and,and_true] at hA5
     obtain⟨⟨rfl,rfl⟩,rfl⟩:=hA5
     have hszp:=HZ.out.get hjl
     rw[hpj] at hatp hszp
     obtain⟨p0,p1,p2,p3,p4,p5,p6⟩:=hatp
     have gl5:=hgl5
     have z0:=fun pb:BelBy w5=>(pb.h.cell (p:=⟨g,o+j*7,none⟩) gl5).trans p0
     have z1:=fun pb:BelBy w5=>(pb.h.cell (p:=⟨g,o+j*7+1,none⟩) gl5).trans p1
     have z2:=fun pb:BelBy w5=>(pb.h.cell (p:=⟨g,o+j*7+2,none⟩) gl5).trans p2
     have z3:=fun pb:BelBy w5=>(pb.h.cell (p:=⟨g,o+j*7+3,none⟩) gl5).trans p3
     have z4:=fun pb:BelBy w5=>(pb.h.cell (p:=⟨g,o+j*7+4,none⟩) gl5).trans p4
     have z5:=fun pb:BelBy w5=>(pb.h.cell (p:=⟨g,o+j*7+5,none⟩) gl5).trans p5
     have z6:=fun pb:BelBy w5=>(pb.h.cell (p:=⟨g,o+j*7+6,none⟩) gl5).trans p6
     have v0:=fun pb:BelBy w5=>(FxBox.below F5.out pb.h).cells.c0
     have v1:=fun pb:BelBy w5=>(FxBox.below F5.out pb.h).cells.c1
     have v2:=fun pb:BelBy w5=>(FxBox.below F5.out pb.h).cells.c2
     have v3:=fun pb:BelBy w5=>(FxBox.below F5.out pb.h).cells.c3
     have v4:=fun pb:BelBy w5=>(FxBox.below F5.out pb.h).cells.c4
     have v5:=fun pb:BelBy w5=>(FxBox.below F5.out pb.h).cells.c5
     have v6:=fun pb:BelBy w5=>(FxBox.below F5.out pb.h).cells.c6
     have xx6:=fun pb:BelBy w5=>(K5.out.x1.via pb.h).cell 6 (u:=.slice (some ⟨g,o,none⟩) n cf) rfl
     have r1:=fun W=>rfixRef_any pv W hszp.1 hszp.2
     have r2:=fun W=>rfixRef_any f W HSZ.out.1 HSZ.out.2
     unfold FRefPost at r1 r2
     have se:=str_is (a:=fxRef pv) (b:=fxRef f)
     have sl:=str_lt (a:=fxRef pv) (b:=fxRef f)
     obtain⟨E,hE⟩:∃b,decide (fxRef pv=fxRef f)=b:=⟨_,rfl⟩
     obtain⟨L,hL⟩:∃b,decide (fxRef pv<fxRef f)=b:=⟨_,rfl⟩
     rw[hE] at se
     rw[hL] at sl
     obtain⟨rp,hrp⟩:∃r,fxRef pv=r:=⟨_,rfl⟩
     obtain⟨rf,hrf⟩:∃r,fxRef f=r:=⟨_,rfl⟩
     rw[hrp] at r1 se sl
     rw[hrf] at r2 se sl
     have HE1:Hid (EQ=E):=by unfold Hid;rw[←HEQ.out,decide_eq_true h0,Bool.true_and];exact hE
     subst hj
     have e6:IntKind.i64.wrap (j:Int)=(j:Int):=IntWalk.i64_in _ (by omega)
     have e1:IntKind.i64.wrap ((j:Int)+1-1)=(j:Int):=by rw[show(j:Int)+1-1=(j:Int) by omega];exact e6
     have e1':IntKind.i64.wrap (((j+1:Nat):Int)-1)=(j:Int):=by rw[show((j+1:Nat):Int)-1=(j:Int) by omega];exact e6
     have e4:(j:Int)<(n:Int):=by omega
     have e7:(0:Int)<((j+1:Nat):Int):=by omega
     clear h0 hrf hrp hszp hgl5 p0 p1 p2 p3 p4 p5 p6 hE hL hpj hjl hatp0 hg5
     refine wp_region_quiet_bel (by kernel_rfl) (by kernel_rfl) ?_
     repeat(quiet_step (first|(go_at_call 51;first|with_reducible exact Calls.bel_of (r1 _)|with_reducible exact Calls.bel_of (r2 _))))
     refine wpQuiet_nil ?_
     rintro wz ⟨pw,hwz⟩
     have BZ:Hid (Below w5.heap.size w5 wz):=by rw[hwz];exact pw.h
     clear hwz pw z0 z1 z2 z3 z4 z5 z6 v0 v1 v2 v3 v4 v5 v6 xx6 r1 r2 e1 e1' e6 se sl
     go_wp2
     go_meet
     exact⟨by rw[HE1.out],BZ.out⟩
   case rest =>
   obtain⟨rfl,hbz⟩:=hcut
   obtain⟨w6,hw6⟩:∃W,W=wc:=⟨_,rfl⟩
   rw[←hw6] at hbz ⊢
   clear hw6
   have K6:=Lib.hid (K5.out.below hbz.out)
   have F6:Hid (FxBox w6 q7 f):=FxBox.below F5.out hbz.out
   clear hbz K5 F5
   cases EQ with
   | true =>
    have HV:Hid (R=7):=by
     have h1:fe=7:=by rw[HLE.out,rk_t,if_neg (by decide)]
     have h2:allE (fx1E D.hd.la D.hd.lo D.fx) n=7:=by rw[hfs.out,fsE_hit hlt (by rw[HFE.out,h1];decide),HFE.out,h1]
     unfold Hid;rw[HE.out,h2,if_neg (by decide)]
    have BE:=Lib.hid K6.out.be
    go_wp2
    go_ret
    exact⟨ret_int HV.out.symm,BE.out⟩
   | false =>
   rw[rk_f] at HLE
   go_upto_region 14 with fail
   go_cut [74] (fun v wx=>v=.bool GT∧Hid (Below w6.heap.size w6 wx))
   case first =>
    rcases Nat.eq_zero_or_pos k with h0|h0
    ·have HE0:Hid (GT=false):=by unfold Hid;rw[←HGT.out,h0];rfl
     subst h0
     refine wp_region_quiet_bel (by kernel_rfl) (by kernel_rfl) ?_
     iterate 2 (quiet_step (fail))
     refine wpQuiet_step (fun K hK => ?_)
     go_simp
     with_reducible refine hK _ ?_
     clear hK K
     iterate 10 (with_reducible refine wpQuiet_skipP (by kernel_rfl) ?_)
     simp only[Act.put,List.setIfInBounds_toArray,List.set_cons_succ,List.set_cons_zero]
     quiet_step (fail)
     refine wpQuiet_nil ?_
     rintro wz ⟨pw,hwz⟩
     have BZ:Hid (Below w6.heap.size w6 wz):=by rw[hwz];exact pw.h
     clear hwz pw
     go_wp2
     go_meet
     exact⟨by rw[HE0.out],BZ.out⟩
    ·obtain⟨j,hj⟩:∃j,k=j+1:=⟨k-1,by omega⟩
     obtain⟨hjl,hpj⟩:=HPV.out j hj
     obtain⟨g',o',c'',hA5,hg5,hatp0⟩:=FxsR.at_ (by have:=HFB.out;rw[←HN.out] at this;exact this:FxsR w (.slice (some ⟨g,o,none⟩) D.fx.length cf) D.fx) hjl
     have hatp:=hatp0.below hg5 K6.out.be hg5
     have hgl5:=Nat.lt_of_lt_of_le hg5 K6.out.be.size
     rw[HN.out] at hA5
     simp only[Value.slice.injEq,Option.some.injEq,Addr.mk.injEq,true_and,and_true] at hA5
     obtain⟨⟨rfl,rfl⟩,rfl⟩:=hA5
     have hszp:=HZ.out.get hjl
     rw[hpj] at hatp hszp
     obtain⟨p0,p1,p2,p3,p4,p5,p6⟩:=hatp
     have gl5:=hgl5
     have z0:=fun pb:BelBy w6=>(pb.h.cell (p:=⟨g,o+j*7,none⟩) gl5).trans p0
     have z1:=fun pb:BelBy w6=>(pb.h.cell (p:=⟨g,o+j*7+1,none⟩) gl5).trans p1
     have z2:=fun pb:BelBy w6=>(pb.h.cell (p:=⟨g,o+j*7+2,none⟩) gl5).trans p2
     have z3:=fun pb:BelBy w6=>(pb.h.cell (p:=⟨g,o+j*7+3,none⟩) gl5).trans p3
     have z4:=fun pb:BelBy w6=>(pb.h.cell (p:=⟨g,o+j*7+4,none⟩) gl5).trans p4
     have z5:=fun pb:BelBy w6=>(pb.h.cell (p:=⟨g,o+j*7+5,none⟩) gl5).trans p5
     have z6:=fun pb:BelBy w6=>(pb.h.cell (p:=⟨g,o+j*7+6,none⟩) gl5).trans p6
     have v0:=fun pb:BelBy w6=>(FxBox.below F6.out pb.h).cells.c0
     have v1:=fun pb:BelBy w6=>(FxBox.below F6.out pb.h).cells.c1
     have v2:=fun pb:BelBy w6=>(FxBox.below F6.out pb.h).cells.c2
     have v3:=fun pb:BelBy w6=>(FxBox.below F6.out pb.h).cells.c3
     have v4:=fun pb:BelBy w6=>(FxBox.below F6.out pb.h).cells.c4
     have v5:=fun pb:BelBy w6=>(FxBox.below F6.out pb.h).cells.c5
     have v6:=fun pb:BelBy w6=>(FxBox.below F6.out pb.h).cells.c6
     have xx6:=fun pb:BelBy w6=>(K6.out.x1.via pb.h).cell 6 (u:=.slice (some ⟨g,o,none⟩) n cf) rfl
     have r1:=fun W=>rfixRef_any pv W hszp.1 hszp.2
     have r2:=fun W=>rfixRef_any f W HSZ.out.1 HSZ.out.2
     unfold FRefPost at r1 r2
     have se:=str_is (a:=fxRef pv) (b:=fxRef f)
     have sl:=str_lt (a:=fxRef pv) (b:=fxRef f)
     obtain⟨E,hE⟩:∃b,decide (fxRef pv=fxRef f)=b:=⟨_,rfl⟩
     obtain⟨L,hL⟩:∃b,decide (fxRef pv<fxRef f)=b:=⟨_,rfl⟩
     rw[hE] at se
     rw[hL] at sl
     obtain⟨rp,hrp⟩:∃r,fxRef pv=r:=⟨_,rfl⟩
     obtain⟨rf,hrf⟩:∃r,fxRef f=r:=⟨_,rfl⟩
     rw[hrp] at r1 se sl
     rw[hrf] at r2 se sl
     have HE1:Hid (GT=(!L && !E)):=by unfold Hid;rw[←HGT.out,decide_eq_true h0,Bool.true_and];exact by rw[hL,hE]
     subst hj
     have e6:IntKind.i64.wrap (j:Int)=(j:Int):=IntWalk.i64_in _ (by omega)
     have e1:IntKind.i64.wrap ((j:Int)+1-1)=(j:Int):=by rw[show(j:Int)+1-1=(j:Int) by omega];exact e6
     have e1':IntKind.i64.wrap (((j+1:Nat):Int)-1)=(j:Int):=by rw[show((j+1:Nat):Int)-1=(j:Int) by omega];exact e6
     have e4:(j:Int)<(n:Int):=by omega
     have e7:(0:Int)<((j+1:Nat):Int):=by omega
     clear h0 hrf hrp hszp hgl5 p0 p1 p2 p3 p4 p5 p6 hE hL hpj hjl hatp0 hg5
     cases L <;> cases E
     all_goals
      refine wp_region_quiet_bel (by kernel_rfl) (by kernel_rfl) ?_
      repeat(quiet_step (first|(go_at_call 51;first|with_reducible exact Calls.bel_of (r1 _)|with_reducible exact Calls.bel_of (r2 _))))
      refine wpQuiet_nil ?_
      rintro wz ⟨pw,hwz⟩
      have BZ:Hid (Below w6.heap.size w6 wz):=by rw[hwz];exact pw.h
      clear hwz pw z0 z1 z2 z3 z4 z5 z6 v0 v1 v2 v3 v4 v5 v6 xx6 r1 r2 e1 e1' e6 se sl
      go_wp2
      go_meet
      exact⟨by rw[HE1.out];rfl,BZ.out⟩

   case rest =>
   obtain⟨rfl,hbz⟩:=hcut
   obtain⟨w7,hw7⟩:∃W,W=wc:=⟨_,rfl⟩
   rw[←hw7] at hbz ⊢
   clear hw7
   have K7:=Lib.hid (K6.out.below hbz.out)
   have F7:Hid (FxBox w7 q7 f):=FxBox.below F6.out hbz.out
   clear hbz K6 F6
   cases GT with
   | true =>
    have HV:Hid (R=9):=by
     have h1:fe=9:=by rw[HLE.out,rk_t,if_neg (by decide)]
     have h2:allE (fx1E D.hd.la D.hd.lo D.fx) n=9:=by rw[hfs.out,fsE_hit hlt (by rw[HFE.out,h1];decide),HFE.out,h1]
     unfold Hid;rw[HE.out,h2,if_neg (by decide)]
    have BE:=Lib.hid K7.out.be
    go_wp2
    go_ret
    exact⟨ret_int HV.out.symm,BE.out⟩
   | false =>
   rw[rk_f,if_pos rfl] at HLE
   obtain⟨y0,y1,y2,y3,y4,y5,y6⟩:=F7.out.cells
   have yl:=lt_heap F7.out
   obtain⟨⟨x0,x1,x2,x3,x4,x5,x6,x7,x8⟩,_⟩:=Bx.cells9 K7.out.x1
   have xl:=Bx.lt K7.out.x1
   have rto:=fun W=>rTo_any D.hd.la D.hd.lo f.lat f.lon W
   obtain⟨te,hte⟩:∃e,toE D.hd.la D.hd.lo f.lat f.lon=e:=⟨_,rfl⟩
   obtain⟨⟨tx,ty⟩,htp⟩:∃x,toP D.hd.la D.hd.lo f.lat f.lon=x:=⟨_,rfl⟩
   rw[hte,htp] at rto
   rw[hte] at HLE
   simp only at rto
   clear hte htp
   go_wp2_with fail
   refine(rto _).mono ?_
   rintro e w8 ⟨rfl,hb8⟩
   have K8:=Lib.hid (K7.out.below hb8)
   clear hb8 K7 F7 y0 y1 y2 y3 y4 y5 y6 yl x0 x1 x2 x3 x4 x5 x6 x7 x8 xl rto
   by_cases ht0:te=0
   case neg =>
    have HV:Hid (R=te):=by
     have h1:fe=te:=by rw[HLE.out,if_neg ht0]
     have h2:allE (fx1E D.hd.la D.hd.lo D.fx) n=te:=by rw[hfs.out,fsE_hit hlt (by rw[HFE.out,h1];exact ht0),HFE.out,h1]
     unfold Hid;rw[HE.out,h2,if_neg ht0]
    have e0:(te != 0)=true:=bne_iff_ne.2 ht0
    have BE:=Lib.hid K8.out.be
    clear ht0
    go_wp2
    go_ret
    exact⟨ret_int HV.out.symm,BE.out⟩
   case pos =>
   subst ht0
   rw[if_pos rfl] at HLE
   obtain⟨⟨x0,x1,x2,x3,x4,x5,x6,x7,x8⟩,_⟩:=Bx.cells9 K8.out.x1
   have xl:=Bx.lt K8.out.x1
   rw[←HLE.out] at HPL
   go_wp2_with fail
   refine(HPL.out _ (HFB.out.below K8.out.be)).mono ?_
   rintro e w9 ⟨rfl,hb9⟩
   have K9:=Lib.hid (K8.out.below hb9)
   clear hb9 K8 x0 x1 x2 x3 x4 x5 x6 x7 x8 xl HPL
   by_cases hf0:fe=0
   case neg =>
    have HV:Hid (R=fe):=by
     have h2:allE (fx1E D.hd.la D.hd.lo D.fx) n=fe:=by rw[hfs.out,fsE_hit hlt (by rw[HFE.out];exact hf0),HFE.out]
     unfold Hid;rw[HE.out,h2,if_neg hf0]
    have e0:(fe != 0)=true:=bne_iff_ne.2 hf0
    have BE:=Lib.hid K9.out.be
    clear hf0
    go_wp2
    go_ret
    exact⟨ret_int HV.out.symm,BE.out⟩
   case pos =>
   have HFS:Hid (allE (fx1E D.hd.la D.hd.lo D.fx) n=fsE (fx1E D.hd.la D.hd.lo D.fx) (k+1) (n-(k+1))):=by
    unfold Hid;rw[hfs.out,fsE_step hlt (by rw[HFE.out];exact hf0)]
   subst hf0
   go_wp2
   go_roundw
   case rel=>exact⟨k+1,hlt,by go_num,HFS,K9⟩
   case measure=>simp[intOf];omega
  ·have hki:¬(k:Int)<(n:Int):=by omega
   have HA:Hid (allE (fx1E D.hd.la D.hd.lo D.fx) n=0):=by unfold Hid;rw[hfs.out,fsE_end (by omega)]
   rw[HA.out,if_pos rfl] at HE
   have KF:=Lib.hid hck.out
   obtain⟨⟨x0,x1,x2,x3,x4,x5,x6,x7,x8⟩,_⟩:=Bx.cells9 KF.out.x1
   have xl:=Bx.lt KF.out.x1
   clear hfs hlt hk HA hck
   go_wp2_with fail
   go_loopw [98] (fun iv wr=>∃k:Nat,k≤na∧iv=.int .i64 (k:Int)∧Hid (allE (aw1E D.fx D.aw) na=fsE (aw1E D.fx D.aw) k (na-k))∧Hid (DkS w D (.slice Af n cf) (.slice Aa na ca) (.slice Ap np cp) wr)) (fun iv _=>na-(intOf iv).toNat)
   case atStart=>exact⟨0,Nat.zero_le _,rfl,rfl,KF.out⟩
   case round =>
    obtain⟨k2,hk,rfl,hfs,hck⟩:=hrel
    obtain⟨k,hk2⟩:∃x,x=k2:=⟨_,rfl⟩
    rw[←hk2] at hk hfs ⊢
    clear hk2
    clear x0 x1 x2 x3 x4 x5 x6 x7 x8 xl KF hki
    by_cases hlt:k<na
    ·have hkl:k<D.aw.length:=by rw[HNA.out];exact hlt
     obtain⟨g,o,c',av,hA,hg0,hat0,hnl,hps0⟩:=AwsD.at_ (by have:=HH.out.aw;rw[←HNA.out] at this;exact this:AwsD w (.slice Aa D.aw.length ca) D.aw) hkl
     have hat:=hat0.below hg0 hck.out.be
     have hgl:=Nat.lt_of_lt_of_le hg0 hck.out.be.size
     rw[HNA.out] at hA
     simp only[Value.slice.injEq,true_and] at hA
     obtain⟨rfl,rfl⟩:=hA
     obtain⟨pv,hpv⟩:∃x,(D.aw.getD (k-1) aw0).nm=x:=⟨_,rfl⟩
     have HLE:Hid (aw1E D.fx D.aw k=fstE [chkA D.aw[k].nm D.aw[k].ps,if k=0 then 0 else ordE (cmpS D.aw[k].nm pv),if (D.aw[k].ps.all fun p=>rfsB D.fx p.ref)=true then 0 else 6]):=by
      unfold Hid aw1E;rw[getD_in hkl,hpv]
     have HPV:Hid (∀j,k=j+1→∃hj:j<D.aw.length,D.aw[j].nm=pv):=fun j hj=>by obtain⟨a,b⟩:=getD_prev (d:=aw0) hj hkl;exact⟨a,by rw[b];exact hpv⟩
     obtain⟨x,hx⟩:∃x,D.aw[k]=x:=⟨_,rfl⟩
     rw[hx] at hat hnl hps0 HLE
     obtain⟨nm,ps⟩:=x
     simp only at hnl hps0 HLE
     obtain⟨fe,hfe⟩:∃e,aw1E D.fx D.aw k=e:=⟨_,rfl⟩
     rw[hfe,rk3,ord_S] at HLE
     have HFE:=Lib.hid hfe
     obtain⟨EQ,hEQ⟩:∃b,(decide (0<k)&&decide (pv=nm))=b:=⟨_,rfl⟩
     obtain⟨GT,hGT⟩:∃b,(decide (0<k)&&(!(decide (pv<nm)) && !(decide (pv=nm))))=b:=⟨_,rfl⟩
     have HOD:Hid ((if k=0 then 0 else if decide (pv=nm)=true then 7 else if (!(decide (pv<nm)) && !(decide (pv=nm)))=true then 9 else 0)=(if EQ=true then (7:Int) else if GT=true then 9 else 0)):=by
      unfold Hid;rw[←hEQ,←hGT]
      rcases Nat.eq_zero_or_pos k with h0|h0
      ·rw[if_pos h0,h0];rfl
      ·rw[if_neg (by omega),decide_eq_true h0,Bool.true_and,Bool.true_and]
     rw[HOD.out] at HLE
     have HEQ:=Lib.hid hEQ
     have HGT:=Lib.hid hGT
     obtain⟨y0,y1⟩:=hat
     simp only at y0
     obtain⟨Av,cv,rfl,hcv,hmv⟩:=hps0.form
     unfold maxLen at hmv
     obtain⟨m,hm⟩:∃m,ps.length=m:=⟨_,rfl⟩
     have HPS:=Lib.hid hps0
     rw[hm] at hcv y1 HPS
     have HM:=Lib.hid hm
     have HCA:Hid (∀W,PtsR W (.slice Av m cv) ps→Calls Tryz.prog 54 #[.agg #[.string (sb nm),.slice Av m cv]] W fun e w'=>e=.returned (.int .i64 (chkA nm ps))∧Below W.heap.size W w'):=fun W h=>by
      have:=rcheck_any (sb nm) _ ps W h hnl
      rw[bl_sb] at this;exact this
     have hki:(k:Int)<(na:Int):=by omega
     obtain⟨wA,hwA⟩:∃W,wr.alloc (.cells #[.string (sb nm),.slice Av m cv] 48)=W:=⟨_,rfl⟩
     have BA:Hid (Below wr.heap.size wr wA):=by rw[←hwA];exact(Below.refl _ _).alloc (Nat.le_refl _) _
     obtain⟨q7,hq7⟩:∃q,wr.heap.size=q:=⟨_,rfl⟩
     have FA:Hid (Bx q7 #[.string (sb nm),.slice Av m cv] 48 wA):=by rw[←hwA,←hq7];exact Bx.last wr _ _
     have KA:=Lib.hid (hck.out.below BA.out)
     have HWA:=Lib.hid hwA
     have HQ7:=Lib.hid hq7
     clear hq7 hx hwA hck hnl hps0 hfe hm hpv hEQ hGT HOD hat0 hg0
     go_upto_region 26 with fail
     rw[HWA.out,HQ7.out]
     clear HWA y0 y1
     have y0:=FA.out.cell 0 (u:=.string (sb nm)) rfl
     have y1:=FA.out.cell 1 (u:=.slice Av m cv) rfl
     have yl:=FA.out.lt
     go_wp2_with fail
     refine(HCA.out _ (HPS.out.below KA.out.be)).mono ?_
     rintro e w5 ⟨rfl,hb5⟩
     have K5:=Lib.hid (KA.out.below hb5)
     have F5:=Lib.hid (FA.out.via hb5)
     clear hb5 KA FA HCA y0 y1 yl
     obtain⟨fc,hfc⟩:∃e,chkA nm ps=e:=⟨_,rfl⟩
     rw[hfc] at HLE
     rw[hfc]
     clear hfc
     by_cases hc0:fc=0
     case neg =>
      have HV:Hid (R=fc):=by
       have h1:fe=fc:=by rw[HLE.out,if_neg hc0]
       have h2:allE (aw1E D.fx D.aw) na=fc:=by rw[hfs.out,fsE_hit hlt (by rw[HFE.out,h1];exact hc0),HFE.out,h1]
       unfold Hid;rw[HE.out,h2,if_neg hc0]
      have e0:(fc != 0)=true:=bne_iff_ne.2 hc0
      have BE:=Lib.hid K5.out.be
      clear hc0
      go_wp2
      go_ret
      exact⟨ret_int HV.out.symm,BE.out⟩
     case pos =>
     subst hc0
     rw[if_pos rfl] at HLE
     go_upto_region 29 with fail
     go_cut [121] (fun v wx=>v=.bool EQ∧Hid (Below w5.heap.size w5 wx))
     case first =>
      rcases Nat.eq_zero_or_pos k with h0|h0
      ·have HE0:Hid (EQ=false):=by unfold Hid;rw[←HEQ.out,h0];rfl
       subst h0
       refine wp_region_quiet_bel (by kernel_rfl) (by kernel_rfl) ?_
       iterate 2 (quiet_step (fail))
       refine wpQuiet_step (fun K hK => ?_)
       go_simp
       with_reducible refine hK _ ?_
       clear hK K
       iterate 10 (with_reducible refine wpQuiet_skipP (by kernel_rfl) ?_)
       simp only[Act.put,List.setIfInBounds_toArray,List.set_cons_succ,List.set_cons_zero]
       quiet_step (fail)
       refine wpQuiet_nil ?_
       rintro wz ⟨pw,hwz⟩
       have BZ:Hid (Below w5.heap.size w5 wz):=by rw[hwz];exact pw.h
       clear hwz pw
       go_wp2
       go_meet
       exact⟨by rw[HE0.out],BZ.out⟩
      ·obtain⟨j,hj⟩:∃j,k=j+1:=⟨k-1,by omega⟩
       obtain⟨hjl,hpj⟩:=HPV.out j hj
       obtain⟨g',o',c'',bv,hA5,hg5,hatp0,hnlp,hpsp⟩:=AwsD.at_ (by have:=HH.out.aw;rw[←HNA.out] at this;exact this:AwsD w (.slice (some ⟨g,o,none⟩) D.aw.length ca) D.aw) hjl
       have hatp:=hatp0.below hg5 K5.out.be
       have hgl5:=Nat.lt_of_lt_of_le hg5 K5.out.be.size
       rw[HNA.out] at hA5
       simp only[Value.slice.injEq,Option.some.injEq,Addr.mk.injEq,true_and,and_true] at hA5
       obtain⟨⟨rfl,rfl⟩,rfl⟩:=hA5
       obtain⟨p0,p1⟩:=hatp
       rw[hpj] at p0
       have gl5:=hgl5
       have z0:=fun pb:BelBy w5=>(pb.h.cell (p:=⟨g,o+j*2,none⟩) gl5).trans p0
       have v0:=fun pb:BelBy w5=>(F5.out.via pb.h).cell 0 (u:=.string (sb nm)) rfl
       have xx7:=fun pb:BelBy w5=>(K5.out.x1.via pb.h).cell 7 (u:=.slice (some ⟨g,o,none⟩) na ca) rfl
       have se:=str_is (a:=pv) (b:=nm)
       have sl:=str_lt (a:=pv) (b:=nm)
       obtain⟨E,hE⟩:∃b,decide (pv=nm)=b:=⟨_,rfl⟩
       obtain⟨L,hL⟩:∃b,decide (pv<nm)=b:=⟨_,rfl⟩
       rw[hE] at se
       rw[hL] at sl
       have HE1:Hid (EQ=E):=by unfold Hid;rw[←HEQ.out,decide_eq_true h0,Bool.true_and];exact hE
       subst hj
       have e6:IntKind.i64.wrap (j:Int)=(j:Int):=IntWalk.i64_in _ (by omega)
       have e1:IntKind.i64.wrap ((j:Int)+1-1)=(j:Int):=by rw[show(j:Int)+1-1=(j:Int) by omega];exact e6
       have e1':IntKind.i64.wrap (((j+1:Nat):Int)-1)=(j:Int):=by rw[show((j+1:Nat):Int)-1=(j:Int) by omega];exact e6
       have e4:(j:Int)<(na:Int):=by omega
       have e7:(0:Int)<((j+1:Nat):Int):=by omega
       clear h0 hgl5 p0 p1 hE hL hpj hjl hatp0 hg5 hnlp hpsp
       refine wp_region_quiet_bel (by kernel_rfl) (by kernel_rfl) ?_
       repeat(quiet_step (fail))
       refine wpQuiet_nil ?_
       rintro wz ⟨pw,hwz⟩
       have BZ:Hid (Below w5.heap.size w5 wz):=by rw[hwz];exact pw.h
       clear hwz pw z0 v0 xx7 e1 e1' e6 se sl
       go_wp2
       go_meet
       exact⟨by rw[HE1.out],BZ.out⟩
     case rest =>
     obtain⟨rfl,hbz⟩:=hcut
     obtain⟨w6,hw6⟩:∃W,W=wc:=⟨_,rfl⟩
     rw[←hw6] at hbz ⊢
     clear hw6
     have K6:=Lib.hid (K5.out.below hbz.out)
     have F6:=Lib.hid (F5.out.via hbz.out)
     clear hbz K5 F5
     cases EQ with
     | true =>
      have HV:Hid (R=7):=by
       have h1:fe=7:=by rw[HLE.out,rk_t,if_neg (by decide)]
       have h2:allE (aw1E D.fx D.aw) na=7:=by rw[hfs.out,fsE_hit hlt (by rw[HFE.out,h1];decide),HFE.out,h1]
       unfold Hid;rw[HE.out,h2,if_neg (by decide)]
      have BE:=Lib.hid K6.out.be
      go_wp2
      go_ret
      exact⟨ret_int HV.out.symm,BE.out⟩
     | false =>
     rw[rk_f] at HLE
     go_upto_region 31 with fail
     go_cut [135] (fun v wx=>v=.bool GT∧Hid (Below w6.heap.size w6 wx))
     case first =>
      rcases Nat.eq_zero_or_pos k with h0|h0
      ·have HE0:Hid (GT=false):=by unfold Hid;rw[←HGT.out,h0];rfl
       subst h0
       refine wp_region_quiet_bel (by kernel_rfl) (by kernel_rfl) ?_
       iterate 2 (quiet_step (fail))
       refine wpQuiet_step (fun K hK => ?_)
       go_simp
       with_reducible refine hK _ ?_
       clear hK K
       iterate 10 (with_reducible refine wpQuiet_skipP (by kernel_rfl) ?_)
       simp only[Act.put,List.setIfInBounds_toArray,List.set_cons_succ,List.set_cons_zero]
       quiet_step (fail)
       refine wpQuiet_nil ?_
       rintro wz ⟨pw,hwz⟩
       have BZ:Hid (Below w6.heap.size w6 wz):=by rw[hwz];exact pw.h
       clear hwz pw
       go_wp2
       go_meet
       exact⟨by rw[HE0.out],BZ.out⟩
      ·obtain⟨j,hj⟩:∃j,k=j+1:=⟨k-1,by omega⟩
       obtain⟨hjl,hpj⟩:=HPV.out j hj
       obtain⟨g',o',c'',bv,hA5,hg5,hatp0,hnlp,hpsp⟩:=AwsD.at_ (by have:=HH.out.aw;rw[←HNA.out] at this;exact this:AwsD w (.slice (some ⟨g,o,none⟩) D.aw.length ca) D.aw) hjl
       have hatp:=hatp0.below hg5 K6.out.be
       have hgl5:=Nat.lt_of_lt_of_le hg5 K6.out.be.size
       rw[HNA.out] at hA5
       simp only[Value.slice.injEq,Option.some.injEq,Addr.mk.injEq,true_and,and_true] at hA5
       obtain⟨⟨rfl,rfl⟩,rfl⟩:=hA5
       obtain⟨p0,p1⟩:=hatp
       rw[hpj] at p0
       have gl5:=hgl5
       have z0:=fun pb:BelBy w6=>(pb.h.cell (p:=⟨g,o+j*2,none⟩) gl5).trans p0
       have v0:=fun pb:BelBy w6=>(F6.out.via pb.h).cell 0 (u:=.string (sb nm)) rfl
       have xx7:=fun pb:BelBy w6=>(K6.out.x1.via pb.h).cell 7 (u:=.slice (some ⟨g,o,none⟩) na ca) rfl
       have se:=str_is (a:=pv) (b:=nm)
       have sl:=str_lt (a:=pv) (b:=nm)
       obtain⟨E,hE⟩:∃b,decide (pv=nm)=b:=⟨_,rfl⟩
       obtain⟨L,hL⟩:∃b,decide (pv<nm)=b:=⟨_,rfl⟩
       rw[hE] at se
       rw[hL] at sl
       have HE1:Hid (GT=(!L && !E)):=by unfold Hid;rw[←HGT.out,decide_eq_true h0,Bool.true_and];exact by rw[hL,hE]
       subst hj
       have e6:IntKind.i64.wrap (j:Int)=(j:Int):=IntWalk.i64_in _ (by omega)
       have e1:IntKind.i64.wrap ((j:Int)+1-1)=(j:Int):=by rw[show(j:Int)+1-1=(j:Int) by omega];exact e6
       have e1':IntKind.i64.wrap (((j+1:Nat):Int)-1)=(j:Int):=by rw[show((j+1:Nat):Int)-1=(j:Int) by omega];exact e6
       have e4:(j:Int)<(na:Int):=by omega
       have e7:(0:Int)<((j+1:Nat):Int):=by omega
       clear h0 hgl5 p0 p1 hE hL hpj hjl hatp0 hg5 hnlp hpsp
       cases L <;> cases E
       all_goals
        refine wp_region_quiet_bel (by kernel_rfl) (by kernel_rfl) ?_
        repeat(quiet_step (fail))
        refine wpQuiet_nil ?_
        rintro wz ⟨pw,hwz⟩
        have BZ:Hid (Below w6.heap.size w6 wz):=by rw[hwz];exact pw.h
        clear hwz pw z0 v0 xx7 e1 e1' e6 se sl
        go_wp2
        go_meet
        exact⟨by rw[HE1.out];rfl,BZ.out⟩

     case rest =>
     obtain⟨rfl,hbz⟩:=hcut
     obtain⟨w7,hw7⟩:∃W,W=wc:=⟨_,rfl⟩
     rw[←hw7] at hbz ⊢
     clear hw7
     have K7:=Lib.hid (K6.out.below hbz.out)
     have F7:=Lib.hid (F6.out.via hbz.out)
     clear hbz K6 F6
     cases GT with
     | true =>
      have HV:Hid (R=9):=by
       have h1:fe=9:=by rw[HLE.out,rk_t,if_neg (by decide)]
       have h2:allE (aw1E D.fx D.aw) na=9:=by rw[hfs.out,fsE_hit hlt (by rw[HFE.out,h1];decide),HFE.out,h1]
       unfold Hid;rw[HE.out,h2,if_neg (by decide)]
      have BE:=Lib.hid K7.out.be
      go_wp2
      go_ret
      exact⟨ret_int HV.out.symm,BE.out⟩
     | false =>
     rw[rk_f,if_pos rfl] at HLE
     have y1:=F7.out.cell 1 (u:=.slice Av m cv) rfl
     have yl:=F7.out.lt
     have HRF:Hid (∀p∈ps,p.ref.length≤maxLen):=fun p hp=>(HPS.out.2 p hp).1
     go_wp2_with fail
     go_loopw [139] (fun iv wx=>∃i:Nat,i≤m∧iv=.int .i64 (i:Int)∧Hid ((ps.all fun p=>rfsB D.fx p.ref)=((ps.drop i).all fun p=>rfsB D.fx p.ref))∧Hid (DkS w D (.slice Af n cf) (.slice (some ⟨g,o,none⟩) na ca) (.slice Ap np cp) wx)) (fun iv _=>m-(intOf iv).toNat)
     case atStart=>exact⟨0,Nat.zero_le _,rfl,rfl,K7.out⟩
     case round =>
      obtain⟨i,hi,rfl,hal,hck⟩:=hrel
      clear y1 yl K7 F7
      by_cases hlm:i<m
      ·have hil:i<ps.length:=by rw[HM.out];exact hlm
       have hpx:=Lib.hid (HPS.out.below hck.out.be)
       obtain⟨g2,o2,c2',hA2,hgl2,u0,u1,u2,u3⟩:=PtsR.at_ (by have:=hpx.out;rw[←HM.out] at this;exact this:PtsR wr (.slice Av ps.length cv) ps) hil
       rw[HM.out] at hA2
       simp only[Value.slice.injEq,true_and] at hA2
       obtain⟨rfl,rfl⟩:=hA2
       have hrl:=HRF.out _ (List.getElem_mem hil)
       have HAS:Hid (((ps.drop i).all fun p=>rfsB D.fx p.ref)=(rfsB D.fx ps[i].ref&&((ps.drop (i+1)).all fun p=>rfsB D.fx p.ref))):=by
        unfold Hid;rw[List.drop_eq_getElem_cons hil,List.all_cons]
       obtain⟨p,hp⟩:∃p,ps[i]=p:=⟨_,rfl⟩
       rw[hp] at u0 u1 u2 u3 hrl HAS
       obtain⟨pr,pl,ph,pd⟩:=p
       simp only at u0 u1 u2 u3 hrl HAS
       have him:(i:Int)<(m:Int):=by omega
       obtain⟨wB,hwB⟩:∃W,wr.alloc (.cells #[.string (sb pr),.int .i64 pl,.int .i64 ph,.int .u8 (pd:Int)] 53)=W:=⟨_,rfl⟩
       have BB:Hid (Below wr.heap.size wr wB):=by rw[←hwB];exact(Below.refl _ _).alloc (Nat.le_refl _) _
       obtain⟨q8,hq8⟩:∃q,wr.heap.size=q:=⟨_,rfl⟩
       have XB:Hid (Bx q8 #[.string (sb pr),.int .i64 pl,.int .i64 ph,.int .u8 (pd:Int)] 53 wB):=by rw[←hwB,←hq8];exact Bx.last wr _ _
       have KB:=Lib.hid (hck.out.below BB.out)
       have HKN:=Lib.hid (fun W (h:FxsR W (.slice Af n cf) D.fx)=>(rknown_any _ D.fx (sb pr) W h HZ.out (by rw[HN.out];omega)).mono (R':=fun e w'=>e=.returned (.bool (rfsB D.fx pr))∧Below W.heap.size W w') (fun e w' h=>⟨by rw[h.1,bl_sb];rfl,h.2⟩))
       obtain⟨v,hv⟩:∃v,rfsB D.fx pr=v:=⟨_,rfl⟩
       rw[hv] at HAS HKN
       have HWB:=Lib.hid hwB
       have HQ8:=Lib.hid hq8
       clear hwB hq8 hck hpx hrl hp hv
       go_upto_region 36 with fail
       rw[HWB.out,HQ8.out]
       clear HWB u0 u1 u2 u3
       have u0:=XB.out.cell 0 (u:=.string (sb pr)) rfl
       have ul:=XB.out.lt
       have x6:=KB.out.x1.cell 6 (u:=.slice Af n cf) rfl
       have xl:=KB.out.x1.lt
       go_wp2_with fail
       refine(HKN.out _ (HFB.out.below KB.out.be)).mono ?_
       rintro e wC ⟨rfl,hbC⟩
       have KC:=Lib.hid (KB.out.below hbC)
       clear hbC KB XB u0 ul x6 xl HKN HQ8
       cases v with
       | false =>
        have HV:Hid (R=6):=by
         have h1:fe=6:=by rw[HLE.out,hal.out,HAS.out,if_neg (by simp)]
         have h2:allE (aw1E D.fx D.aw) na=6:=by rw[hfs.out,fsE_hit hlt (by rw[HFE.out,h1];decide),HFE.out,h1]
         unfold Hid;rw[HE.out,h2,if_neg (by decide)]
        have BE:=Lib.hid KC.out.be
        go_wp2
        go_ret
        exact⟨ret_int HV.out.symm,BE.out⟩
       | true =>
        have HAL:Hid ((ps.all fun p=>rfsB D.fx p.ref)=((ps.drop (i+1)).all fun p=>rfsB D.fx p.ref)):=by
         unfold Hid;rw[hal.out,HAS.out,Bool.true_and]
        go_wp2
        go_roundw
        case rel=>exact⟨i+1,hlm,by go_num,HAL,KC⟩
        case measure=>simp[intOf];omega
      ·have him:¬(i:Int)<(m:Int):=by omega
       have HFS:Hid (allE (aw1E D.fx D.aw) na=fsE (aw1E D.fx D.aw) (k+1) (na-(k+1))):=by
        have h1:fe=0:=by rw[HLE.out,hal.out,List.drop_of_length_le (by rw[HM.out];omega)];rfl
        unfold Hid;rw[hfs.out,fsE_step hlt (by rw[HFE.out,h1])]
       have KB:=Lib.hid hck.out
       clear hal hck
       go_wp2
       go_roundw
       case rel=>exact⟨k+1,hlt,by go_num,HFS,KB⟩
       case measure=>simp[intOf];omega
    ·have hki:¬(k:Int)<(na:Int):=by omega
     have HA:Hid (allE (aw1E D.fx D.aw) na=0):=by unfold Hid;rw[hfs.out,fsE_end (by omega)]
     rw[HA.out,if_pos rfl] at HE
     have KF:=Lib.hid hck.out
     obtain⟨⟨x0,x1,x2,x3,x4,x5,x6,x7,x8⟩,_⟩:=Bx.cells9 KF.out.x1
     have xl:=Bx.lt KF.out.x1
     clear hfs hlt hk HA hck
     go_wp2_with fail
     go_loopw [154] (fun iv wr=>∃k:Nat,k≤np∧iv=.int .i64 (k:Int)∧Hid (allE (pr1R D.fx D.pr) np=fsE (pr1R D.fx D.pr) k (np-k))∧Hid (DkS w D (.slice Af n cf) (.slice Aa na ca) (.slice Ap np cp) wr)) (fun iv _=>np-(intOf iv).toNat)
     case atStart=>exact⟨0,Nat.zero_le _,rfl,rfl,KF.out⟩
     case round =>
      obtain⟨k3,hk,rfl,hfs,hck⟩:=hrel
      obtain⟨k,hk2⟩:∃x,x=k3:=⟨_,rfl⟩
      rw[←hk2] at hk hfs ⊢
      clear hk2
      clear x0 x1 x2 x3 x4 x5 x6 x7 x8 xl KF hki
      by_cases hlt:k<np
      ·have hkl:k<D.pr.length:=by rw[HNP.out];exact hlt
       obtain⟨g,o,c',pvv,hA,hg0,hat0,hap,hnm,hkd,hpa0⟩:=PrcsR.at_ (by have:=HH.out.pr;rw[←HNP.out] at this;exact this:PrcsR w (.slice Ap D.pr.length cp) D.pr) hkl
       have hat:=hat0.below hg0 hck.out.be
       have hgl:=Nat.lt_of_lt_of_le hg0 hck.out.be.size
       rw[HNP.out] at hA
       simp only[Value.slice.injEq,true_and] at hA
       obtain⟨rfl,rfl⟩:=hA
       obtain⟨pv,hpv⟩:∃x,D.pr.getD (k-1) pr0=x:=⟨_,rfl⟩
       have HLE:Hid (pr1R D.fx D.pr k=fstE [prcE D.pr[k],if k=0 then 0 else ordE (cmpP D.pr[k] pv),nmpE D.fx D.pr[k]]):=by
        unfold Hid pr1R;rw[getD_in hkl,hpv]
       have HPV:Hid (∀j,k=j+1→∃hj:j<D.pr.length,D.pr[j]=pv):=fun j hj=>by obtain⟨a,b⟩:=getD_prev (d:=pr0) hj hkl;exact⟨a,by rw[b];exact hpv⟩
       have hsz:=HPR.out _ (List.getElem_mem hkl)
       obtain⟨x,hx⟩:∃x,D.pr[k]=x:=⟨_,rfl⟩
       rw[hx] at hat hap hnm hkd hpa0 HLE hsz
       obtain⟨fe,hfe⟩:∃e,pr1R D.fx D.pr k=e:=⟨_,rfl⟩
       rw[hfe,rk3,ord_P] at HLE
       have HFE:=Lib.hid hfe
       obtain⟨EQ,hEQ⟩:∃b,(decide (0<k)&&(cmpP pv x == 0))=b:=⟨_,rfl⟩
       obtain⟨GT,hGT⟩:∃b,(decide (0<k)&&decide (0<cmpP pv x))=b:=⟨_,rfl⟩
       have HOD:Hid ((if k=0 then 0 else if (cmpP pv x == 0)=true then 7 else if decide (0<cmpP pv x)=true then 9 else 0)=(if EQ=true then (7:Int) else if GT=true then 9 else 0)):=by
        unfold Hid;rw[←hEQ,←hGT]
        rcases Nat.eq_zero_or_pos k with h0|h0
        ·rw[if_pos h0,h0];rfl
        ·rw[if_neg (by omega),decide_eq_true h0,Bool.true_and,Bool.true_and]
       rw[HOD.out] at HLE
       have HEQ:=Lib.hid hEQ
       have HGT:=Lib.hid hGT
       have HCA:=Lib.hid (fun v W (h:PasR W v x.pa)=>rprcCheck_any v x W h hkd hap hnm hsz.1)
       have HNM:=Lib.hid (fun v W (h1:FxsR W (.slice Af n cf) D.fx) (h2:PasR W v x.pa)=>rnamed_any _ v D.fx x W h1 HZ.out (by rw[HN.out];omega) h2 hsz.2 hsz.1)
       have HCM:=Lib.hid (fun v1 v2 W (h1:v1.oneCell'=true) (h2:v2.oneCell'=true)=>rcompare_any v1 v2 pv x W h1 h2)
       obtain⟨ap,nm,kd,pa⟩:=x
       simp only at hap hnm hkd hpa0 hsz HCA HNM HCM
       obtain⟨y0,y1,y2,y3⟩:=hat
       simp only at y0 y1 y2
       obtain⟨Av,cv,rfl,hcv,hmv⟩:=hpa0.form
       unfold maxLen at hmv
       obtain⟨m,hm⟩:∃m,pa.length=m:=⟨_,rfl⟩
       have HPS:=Lib.hid hpa0
       rw[hm] at hcv y3 HPS
       have HM:=Lib.hid hm
       have hki:(k:Int)<(np:Int):=by omega
       obtain⟨wA,hwA⟩:∃W,wr.alloc (.cells #[.string (sb ap),.string (sb nm),.int .u8 (kd:Int),.slice Av m cv] 57)=W:=⟨_,rfl⟩
       have BA:Hid (Below wr.heap.size wr wA):=by rw[←hwA];exact(Below.refl _ _).alloc (Nat.le_refl _) _
       obtain⟨q7,hq7⟩:∃q,wr.heap.size=q:=⟨_,rfl⟩
       have FA:Hid (Bx q7 #[.string (sb ap),.string (sb nm),.int .u8 (kd:Int),.slice Av m cv] 57 wA):=by rw[←hwA,←hq7];exact Bx.last wr _ _
       have KA:=Lib.hid (hck.out.below BA.out)
       have HWA:=Lib.hid hwA
       have HQ7:=Lib.hid hq7
       unfold prc at HCA HNM HCM
       simp only at HCA HNM HCM
       clear hq7 hx hwA hck hap hnm hkd hpa0 hfe hm hpv hEQ hGT HOD hat0 hg0 hsz
       go_upto_region 43 with fail
       rw[HWA.out,HQ7.out]
       clear HWA y0 y1 y2 y3
       obtain⟨y0,y1,y2,y3⟩:=FA.out.cells4
       have yl:=FA.out.lt
       go_wp2_with fail
       refine(HCA.out _ _ (HPS.out.below KA.out.be)).mono ?_
       rintro e w5 ⟨rfl,hb5⟩
       have K5:=Lib.hid (KA.out.below hb5)
       have F5:=Lib.hid (FA.out.via hb5)
       clear hb5 KA FA HCA y0 y1 y2 y3 yl
       obtain⟨fc,hfc⟩:∃e,prcE ⟨ap,nm,kd,pa⟩=e:=⟨_,rfl⟩
       rw[hfc] at HLE
       rw[hfc]
       clear hfc
       by_cases hc0:fc=0
       case neg =>
        have HV:Hid (R=fc):=by
         have h1:fe=fc:=by rw[HLE.out,if_neg hc0]
         have h2:allE (pr1R D.fx D.pr) np=fc:=by rw[hfs.out,fsE_hit hlt (by rw[HFE.out,h1];exact hc0),HFE.out,h1]
         unfold Hid;rw[HE.out,h2]
        have e0:(fc != 0)=true:=bne_iff_ne.2 hc0
        have BE:=Lib.hid K5.out.be
        clear hc0
        go_wp2
        go_ret
        exact⟨ret_int HV.out.symm,BE.out⟩
       case pos =>
       subst hc0
       rw[if_pos rfl] at HLE
       go_upto_region 46 with fail
       go_cut [176] (fun v wx=>v=.bool EQ∧Hid (Below w5.heap.size w5 wx))
       case first =>
        rcases Nat.eq_zero_or_pos k with h0|h0
        ·have HE0:Hid (EQ=false):=by unfold Hid;rw[←HEQ.out,h0];rfl
         subst h0
         refine wp_region_quiet_bel (by kernel_rfl) (by kernel_rfl) ?_
         iterate 2 (quiet_step (fail))
         refine wpQuiet_step (fun K hK => ?_)
         go_simp
         with_reducible refine hK _ ?_
         clear hK K
         iterate 9 (with_reducible refine wpQuiet_skipP (by kernel_rfl) ?_)
         simp only[Act.put,List.setIfInBounds_toArray,List.set_cons_succ,List.set_cons_zero]
         quiet_step (fail)
         refine wpQuiet_nil ?_
         rintro wz ⟨pw,hwz⟩
         have BZ:Hid (Below w5.heap.size w5 wz):=by rw[hwz];exact pw.h
         clear hwz pw
         go_wp2
         go_meet
         exact⟨by rw[HE0.out],BZ.out⟩
        ·obtain⟨j,hj⟩:∃j,k=j+1:=⟨k-1,by omega⟩
         obtain⟨hjl,hpj⟩:=HPV.out j hj
         obtain⟨g',o',c'',qv,hA5,hg5,hatp0,hap2,hnm2,hkd2,hpa2⟩:=PrcsR.at_ (by have:=HH.out.pr;rw[←HNP.out] at this;exact this:PrcsR w (.slice (some ⟨g,o,none⟩) D.pr.length cp) D.pr) hjl
         have hatp:=hatp0.below hg5 K5.out.be
         have hgl5:=Nat.lt_of_lt_of_le hg5 K5.out.be.size
         rw[HNP.out] at hA5
         simp only[Value.slice.injEq,Option.some.injEq,Addr.mk.injEq,true_and,and_true] at hA5
         obtain⟨⟨rfl,rfl⟩,rfl⟩:=hA5
         rw[hpj] at hatp hpa2
         obtain⟨p0,p1,p2,p3⟩:=hatp
         obtain⟨Aw,cw,rfl,_,_⟩:=hpa2.form
         have gl5:=hgl5
         have z0:=fun pb:BelBy w5=>(pb.h.cell (p:=⟨g,o+j*4,none⟩) gl5).trans p0
         have z1:=fun pb:BelBy w5=>(pb.h.cell (p:=⟨g,o+j*4+1,none⟩) gl5).trans p1
         have z2:=fun pb:BelBy w5=>(pb.h.cell (p:=⟨g,o+j*4+2,none⟩) gl5).trans p2
         have z3:=fun pb:BelBy w5=>(pb.h.cell (p:=⟨g,o+j*4+3,none⟩) gl5).trans p3
         have v0:=fun pb:BelBy w5=>(F5.out.via pb.h).cells4.1
         have v1:=fun pb:BelBy w5=>(F5.out.via pb.h).cells4.2.1
         have v2:=fun pb:BelBy w5=>(F5.out.via pb.h).cells4.2.2.1
         have v3:=fun pb:BelBy w5=>(F5.out.via pb.h).cells4.2.2.2
         have xx8:=fun pb:BelBy w5=>(K5.out.x1.via pb.h).cell 8 (u:=.slice (some ⟨g,o,none⟩) np cp) rfl
         have cm:=fun W=>HCM.out (.slice Aw pv.pa.length cw) (.slice Av m cv) W rfl rfl
         obtain⟨c9,hc9⟩:∃c,cmpP pv ⟨ap,nm,kd,pa⟩=c:=⟨_,rfl⟩
         rw[hc9] at cm
         have HE1:Hid (EQ=(c9 == 0)):=by unfold Hid;rw[←HEQ.out,decide_eq_true h0,Bool.true_and];exact by rw[hc9]
         subst hj
         have e6:IntKind.i64.wrap (j:Int)=(j:Int):=IntWalk.i64_in _ (by omega)
         have e1:IntKind.i64.wrap ((j:Int)+1-1)=(j:Int):=by rw[show(j:Int)+1-1=(j:Int) by omega];exact e6
         have e1':IntKind.i64.wrap (((j+1:Nat):Int)-1)=(j:Int):=by rw[show((j+1:Nat):Int)-1=(j:Int) by omega];exact e6
         have e4:(j:Int)<(np:Int):=by omega
         have e7:(0:Int)<((j+1:Nat):Int):=by omega
         clear h0 hgl5 p0 p1 p2 p3 hc9 hpj hjl hatp0 hg5 hap2 hnm2 hkd2 hpa2
         refine wp_region_quiet_bel (by kernel_rfl) (by kernel_rfl) ?_
         repeat(quiet_step ((go_at_call 57;with_reducible exact Calls.bel_of (cm _))))
         refine wpQuiet_nil ?_
         rintro wz ⟨pw,hwz⟩
         have BZ:Hid (Below w5.heap.size w5 wz):=by rw[hwz];exact pw.h
         clear hwz pw z0 z1 z2 z3 v0 v1 v2 v3 xx8 cm e1 e1' e6
         go_wp2
         go_meet
         exact⟨by rw[HE1.out],BZ.out⟩
       case rest =>
       obtain⟨rfl,hbz⟩:=hcut
       obtain⟨w6,hw6⟩:∃W,W=wc:=⟨_,rfl⟩
       rw[←hw6] at hbz ⊢
       clear hw6
       have K6:=Lib.hid (K5.out.below hbz.out)
       have F6:=Lib.hid (F5.out.via hbz.out)
       clear hbz K5 F5
       cases EQ with
       | true =>
        have HV:Hid (R=7):=by
         have h1:fe=7:=by rw[HLE.out,rk_t,if_neg (by decide)]
         have h2:allE (pr1R D.fx D.pr) np=7:=by rw[hfs.out,fsE_hit hlt (by rw[HFE.out,h1];decide),HFE.out,h1]
         unfold Hid;rw[HE.out,h2]
        have BE:=Lib.hid K6.out.be
        go_wp2
        go_ret
        exact⟨ret_int HV.out.symm,BE.out⟩
       | false =>
       rw[rk_f] at HLE
       go_upto_region 48 with fail
       go_cut [189] (fun v wx=>v=.bool GT∧Hid (Below w6.heap.size w6 wx))
       case first =>
        rcases Nat.eq_zero_or_pos k with h0|h0
        ·have HE0:Hid (GT=false):=by unfold Hid;rw[←HGT.out,h0];rfl
         subst h0
         refine wp_region_quiet_bel (by kernel_rfl) (by kernel_rfl) ?_
         iterate 2 (quiet_step (fail))
         refine wpQuiet_step (fun K hK => ?_)
         go_simp
         with_reducible refine hK _ ?_
         clear hK K
         iterate 9 (with_reducible refine wpQuiet_skipP (by kernel_rfl) ?_)
         simp only[Act.put,List.setIfInBounds_toArray,List.set_cons_succ,List.set_cons_zero]
         quiet_step (fail)
         refine wpQuiet_nil ?_
         rintro wz ⟨pw,hwz⟩
         have BZ:Hid (Below w6.heap.size w6 wz):=by rw[hwz];exact pw.h
         clear hwz pw
         go_wp2
         go_meet
         exact⟨by rw[HE0.out],BZ.out⟩
        ·obtain⟨j,hj⟩:∃j,k=j+1:=⟨k-1,by omega⟩
         obtain⟨hjl,hpj⟩:=HPV.out j hj
         obtain⟨g',o',c'',qv,hA5,hg5,hatp0,hap2,hnm2,hkd2,hpa2⟩:=PrcsR.at_ (by have:=HH.out.pr;rw[←HNP.out] at this;exact this:PrcsR w (.slice (some ⟨g,o,none⟩) D.pr.length cp) D.pr) hjl
         have hatp:=hatp0.below hg5 K6.out.be
         have hgl5:=Nat.lt_of_lt_of_le hg5 K6.out.be.size
         rw[HNP.out] at hA5
         simp only[Value.slice.injEq,Option.some.injEq,Addr.mk.injEq,true_and,and_true] at hA5
         obtain⟨⟨rfl,rfl⟩,rfl⟩:=hA5
         rw[hpj] at hatp hpa2
         obtain⟨p0,p1,p2,p3⟩:=hatp
         obtain⟨Aw,cw,rfl,_,_⟩:=hpa2.form
         have gl5:=hgl5
         have z0:=fun pb:BelBy w6=>(pb.h.cell (p:=⟨g,o+j*4,none⟩) gl5).trans p0
         have z1:=fun pb:BelBy w6=>(pb.h.cell (p:=⟨g,o+j*4+1,none⟩) gl5).trans p1
         have z2:=fun pb:BelBy w6=>(pb.h.cell (p:=⟨g,o+j*4+2,none⟩) gl5).trans p2
         have z3:=fun pb:BelBy w6=>(pb.h.cell (p:=⟨g,o+j*4+3,none⟩) gl5).trans p3
         have v0:=fun pb:BelBy w6=>(F6.out.via pb.h).cells4.1
         have v1:=fun pb:BelBy w6=>(F6.out.via pb.h).cells4.2.1
         have v2:=fun pb:BelBy w6=>(F6.out.via pb.h).cells4.2.2.1
         have v3:=fun pb:BelBy w6=>(F6.out.via pb.h).cells4.2.2.2
         have xx8:=fun pb:BelBy w6=>(K6.out.x1.via pb.h).cell 8 (u:=.slice (some ⟨g,o,none⟩) np cp) rfl
         have cm:=fun W=>HCM.out (.slice Aw pv.pa.length cw) (.slice Av m cv) W rfl rfl
         obtain⟨c9,hc9⟩:∃c,cmpP pv ⟨ap,nm,kd,pa⟩=c:=⟨_,rfl⟩
         rw[hc9] at cm
         have HE1:Hid (GT=decide (0<c9)):=by unfold Hid;rw[←HGT.out,decide_eq_true h0,Bool.true_and];exact by rw[hc9]
         subst hj
         have e6:IntKind.i64.wrap (j:Int)=(j:Int):=IntWalk.i64_in _ (by omega)
         have e1:IntKind.i64.wrap ((j:Int)+1-1)=(j:Int):=by rw[show(j:Int)+1-1=(j:Int) by omega];exact e6
         have e1':IntKind.i64.wrap (((j+1:Nat):Int)-1)=(j:Int):=by rw[show((j+1:Nat):Int)-1=(j:Int) by omega];exact e6
         have e4:(j:Int)<(np:Int):=by omega
         have e7:(0:Int)<((j+1:Nat):Int):=by omega
         clear h0 hgl5 p0 p1 p2 p3 hc9 hpj hjl hatp0 hg5 hap2 hnm2 hkd2 hpa2
         refine wp_region_quiet_bel (by kernel_rfl) (by kernel_rfl) ?_
         repeat(quiet_step ((go_at_call 57;with_reducible exact Calls.bel_of (cm _))))
         refine wpQuiet_nil ?_
         rintro wz ⟨pw,hwz⟩
         have BZ:Hid (Below w6.heap.size w6 wz):=by rw[hwz];exact pw.h
         clear hwz pw z0 z1 z2 z3 v0 v1 v2 v3 xx8 cm e1 e1' e6
         go_wp2
         go_meet
         exact⟨by rw[HE1.out],BZ.out⟩

       case rest =>
       obtain⟨rfl,hbz⟩:=hcut
       obtain⟨w7,hw7⟩:∃W,W=wc:=⟨_,rfl⟩
       rw[←hw7] at hbz ⊢
       clear hw7
       have K7:=Lib.hid (K6.out.below hbz.out)
       have F7:=Lib.hid (F6.out.via hbz.out)
       clear hbz K6 F6
       cases GT with
       | true =>
        have HV:Hid (R=9):=by
         have h1:fe=9:=by rw[HLE.out,rk_t,if_neg (by decide)]
         have h2:allE (pr1R D.fx D.pr) np=9:=by rw[hfs.out,fsE_hit hlt (by rw[HFE.out,h1];decide),HFE.out,h1]
         unfold Hid;rw[HE.out,h2]
        have BE:=Lib.hid K7.out.be
        go_wp2
        go_ret
        exact⟨ret_int HV.out.symm,BE.out⟩
       | false =>
       rw[rk_f,if_pos rfl] at HLE
       obtain⟨y0,y1,y2,y3⟩:=F7.out.cells4
       have yl:=F7.out.lt
       have x6:=K7.out.x1.cell 6 (u:=.slice Af n cf) rfl
       have xl:=K7.out.x1.lt
       rw[←HLE.out] at HNM
       go_wp2_with fail
       refine(HNM.out _ _ (HFB.out.below K7.out.be) (HPS.out.below K7.out.be)).mono ?_
       rintro e w8 ⟨rfl,hb8⟩
       have K8:=Lib.hid (K7.out.below hb8)
       clear hb8 K7 F7 y0 y1 y2 y3 yl x6 xl HNM HCM
       by_cases hf0:fe=0
       case neg =>
        have HV:Hid (R=fe):=by
         have h2:allE (pr1R D.fx D.pr) np=fe:=by rw[hfs.out,fsE_hit hlt (by rw[HFE.out];exact hf0),HFE.out]
         unfold Hid;rw[HE.out,h2]
        have e0:(fe != 0)=true:=bne_iff_ne.2 hf0
        have BE:=Lib.hid K8.out.be
        clear hf0
        go_wp2
        go_ret
        exact⟨ret_int HV.out.symm,BE.out⟩
       case pos =>
       have HFS:Hid (allE (pr1R D.fx D.pr) np=fsE (pr1R D.fx D.pr) (k+1) (np-(k+1))):=by
        unfold Hid;rw[hfs.out,fsE_step hlt (by rw[HFE.out];exact hf0)]
       subst hf0
       go_wp2
       go_roundw
       case rel=>exact⟨k+1,hlt,by go_num,HFS,K8⟩
       case measure=>simp[intOf];omega
      ·have hki:¬(k:Int)<(np:Int):=by omega
       have HV:Hid (R=0):=by unfold Hid;rw[HE.out,hfs.out,fsE_end (by omega)]
       have BE:=Lib.hid hck.out.be
       go_wp2
       go_ret
       exact⟨ret_int HV.out.symm,BE.out⟩
end Go.Proofs.YtgmehlgfilpleaaGreatDoor
