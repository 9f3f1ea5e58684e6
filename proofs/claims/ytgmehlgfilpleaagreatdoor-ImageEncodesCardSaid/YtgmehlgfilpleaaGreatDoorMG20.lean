/-
  Several texts as one.
-/
import Derived.Test.YtgmehlgfilpleaaGreatDoorProC
import Derived.Lib.SliceRun
import Derived.Test.YtgmehlgfilpleaaGreatDoorMG18
namespace Go.Proofs.YtgmehlgfilpleaaGreatDoor
open Go.RowKit
set_option linter.unusedVariables false
set_option linter.unusedSimpArgs false
theorem infoLegI:(Tryz.prog.info? 65).map (fun i=>(i.zero,i.size,i.bytes))=some (some (.agg #[.int .u8 0,.string ⟨#[]⟩,.string ⟨#[]⟩,.int .u8 0,.bool false,.int .i64 0,.int .i64 0,.int .i64 0,.int .i64 0,.int .i64 0,.int .i64 0,.int .i64 0,.int .i64 0]),13,112):=by kernel_rfl
def ClPost (n:Nat) (w:World) (e:Ending) (w':World):Prop:=∃A c,e=.returned (.slice A n c)∧Below w.heap.size w w'
set_option maxRecDepth 100000 in
set_option maxHeartbeats 4000000 in
theorem cloneLg_any (v:Value) (l:List Lg) (w:World) (h:LgsR w v l) (hN:l.length≤1000000) :
  Calls Tryz.prog 89 #[v] w (ClPost l.length w):=by
 obtain⟨i0,hi,hz0,hz1,hz2⟩:=info_parts infoLegI
 obtain⟨⟨hlen,A,c,rfl,hc,hm,hr⟩,-⟩:=h
 unfold maxLen at hm
 have HL:=Lib.hid hlen
 have HR:=Lib.hid hr
 have hnil:∀W,(binOp .eql 60 (.slice A l.length c) (.slice none 0 0)).run Tryz.prog W=.ok (.bool A.isNone) W:=fun W=>Lib.run_eql_slice_nil W _ _ _ _ _ _ _ Tryz.underlying60
 obtain⟨n,hn⟩:∃n,l.length=n:=⟨_,rfl⟩
 have HN:=Lib.hid hn
 rw[hn] at hc hN hnil ⊢
 have HEMP:=Lib.hid (World.ownsRow_lit (base:=w.heap.size) (e:=65) (size:=13) w #[] 0 (Nat.le_refl _) (by unfold maxLen;omega) rfl)
 clear hlen hr hn
 rcases Nat.eq_zero_or_pos n with h0|h0
 ·subst h0
  cases A
  ·go_enter Tryz.func89,Tryz.ntmps89
   go_wp2
   go_ret
   exact⟨_,_,rfl,Below.refl _ _⟩
  ·go_enter Tryz.func89,Tryz.ntmps89
   go_wp2
   go_ret
   exact⟨_,_,rfl,(Below.refl _ _).alloc (Nat.le_refl _) _⟩
 ·obtain⟨g,o,rfl,hg,hx⟩:=HR.out (by rw[HN.out];omega)
  have HX:Hid (∀j u,(l.flatMap lgc)[j]? = some u→(w.alloc (.cells #[] 65)).cell? ((⟨g,o,none⟩:Addr).add j)=some u):=by
   intro j u hu
   have h2:=(((Below.refl _ w).alloc (Nat.le_refl _) (.cells #[] 65)).cell (p:=⟨g,o+j,none⟩) hg).trans (hx j u hu)
   simp only[Addr.add]
   split
   ·rename_i hj0
    rw[hj0] at h2
    exact h2
   ·exact h2
  have HC5:Hid (∀u∈l.flatMap lgc,u.oneCell'=true):=flatC_one lgc_one l
  have HL2:Hid ((l.flatMap lgc).length=n*13):=by unfold Hid;rw[flatC_len lgc 13 lgC_len,HN.out]
  clear hx
  go_enter Tryz.func89,Tryz.ntmps89
  go_wp2_with (at_builtin;(refine wpList_append_own _ rfl _ _ 60 rfl w.heap.size 65 i0 (.agg #[.int .u8 0,.string ⟨#[]⟩,.string ⟨#[]⟩,.int .u8 0,.bool false,.int .i64 0,.int .i64 0,.int .i64 0,.int .i64 0,.int .i64 0,.int .i64 0,.int .i64 0,.int .i64 0]) 13 112 Tryz.underlying60 hi hz0 hz1 hz2 rfl (by decide) _ _ _ rfl HEMP.out ⟨g,o,none⟩ n c (l.flatMap lgc) rfl HL2.out HX.out HC5.out ?c3 ?c4 ?c5 ?_))
  case c3=>unfold maxLen;omega
  case c4=>omega
  intro v' w' hown' hgrow _
  have HB:Hid (Below w.heap.size w w'):=(((Below.refl _ _).alloc (Nat.le_refl _) _).grown hgrow (by simp) (fun k hk=>by cases hk;exact Nat.le_refl _))
  have HF:Hid (∃A2 c2,v'=.slice A2 n c2):=by
   obtain⟨A2,c2,h1,_,_⟩:=(Rd.of_own hown').form
   try rw[Nat.zero_add] at h1
   exact⟨A2,c2,h1⟩
  clear hown' hgrow
  go_wp2
  go_ret
  obtain⟨A2,c2,h1⟩:=HF.out
  exact⟨A2,c2,by rw[←h1];rfl,HB.out⟩
theorem cmn_step {l:List Pa} {k:Nat} (hk:k<l.length):cmnB (l.drop k)=((l[k].kd == 2&&decide (l[k].nm=[])) || cmnB (l.drop (k+1))):=by
 rw[List.drop_eq_getElem_cons hk];rfl
theorem cmn_end {l:List Pa} {k:Nat} (hk:l.length≤k):cmnB (l.drop k)=false:=by rw[List.drop_eq_nil_of_le hk];rfl
def CmPost (b:Bool) (w:World) (e:Ending) (w':World):Prop:=∃(k:Int) (s:ByteArray) (A:Option Addr) (n c:Nat),e=.returned (.tuple #[.agg #[.int .u8 k,.string s,.slice A n c],.bool b])∧Below w.heap.size w w'
set_option maxRecDepth 100000 in
set_option maxHeartbeats 8000000 in
theorem common_any (pv:Value) (p:Prc) (w:World) (h:PasR w pv p.pa) (hN:p.pa.length≤1000) (hL:∀x∈p.pa,x.lg.length≤1000000) :
  Calls Tryz.prog 72 #[.agg (prc (pv,p)).toArray,.int .u8 2,.string ⟨#[]⟩] w (CmPost (cmnB p.pa) w):=by
 obtain⟨ap,nm,kd,l⟩:=p
 simp only at h hN hL ⊢
 unfold prc
 simp only
 obtain⟨A,c,rfl,hc,hm⟩:=h.form
 unfold maxLen at hm
 obtain⟨n,hn⟩:∃n,l.length=n:=⟨_,rfl⟩
 have HN2:=Lib.hid hn
 rw[hn] at hN hc
 have HH:=Lib.hid h
 have HLL:=Lib.hid hL
 rw[hn] at HH
 rw[hn]
 clear h hn hL
 have HPO:=Lib.hid (fun(b:Bool) (k:Int) (s:ByteArray) (A:Option Addr) (n c:Nat) (W:World) (hb:Below w.heap.size w W)=>(⟨k,s,A,n,c,rfl,hb⟩:CmPost b w (.returned (.tuple #[.agg #[.int .u8 k,.string s,.slice A n c],.bool b])) W))
 obtain⟨R,hR⟩:∃R,cmnB l=R:=⟨_,rfl⟩
 have HR0:Hid (cmnB (l.drop 0)=R):=hR
 rw[hR]
 clear hR
 obtain⟨w0,hw0⟩:∃W,(w.alloc (.cells #[.string (sb ap),.string (sb nm),.int .u8 (kd:Int),.slice A n c] 57)).alloc (.cells #[.int .u8 0,.string ⟨#[]⟩,.slice none 0 0] 62)=W:=⟨_,rfl⟩
 have hb0:Below w.heap.size w w0:=by rw[←hw0];exact((Below.refl _ _).alloc (Nat.le_refl _) _).alloc (by simp) _
 have X0:Hid (Bx w.heap.size #[.string (sb ap),.string (sb nm),.int .u8 (kd:Int),.slice A n c] 57 w0):=by rw[←hw0];exact(Bx.last w _ _).grow _
 have Y0:Hid (Bx (w.heap.size+1) #[.int .u8 0,.string ⟨#[]⟩,.slice none 0 0] 62 w0):=by rw[←hw0];exact Bx.last2 w _ _ _
 obtain⟨q6,hq6⟩:∃q,w.heap.size+1=q:=⟨_,rfl⟩
 rw[hq6] at Y0
 have B0:=Lib.hid hb0
 have HW0:=Lib.hid hw0
 have HQ6:=Lib.hid hq6
 have x3:=X0.out.cell 3 (u:=.slice A n c) rfl
 have xl:=X0.out.lt
 clear hw0 hb0 hq6
 go_enter Tryz.func72,Tryz.ntmps72
 go_upto_region 1 with fail
 rw[HW0.out,HQ6.out]
 clear HW0
 go_wp2_with fail
 go_loopw [13] (fun iv wr=>∃k:Nat,k≤n∧iv=.int .i64 (k:Int)∧Hid (cmnB (l.drop k)=R)∧Hid (Below w0.heap.size w0 wr)) (fun iv _=>n-(intOf iv).toNat)
 case atStart=>exact⟨0,Nat.zero_le _,rfl,HR0.out,Below.refl _ _⟩
 case round =>
  obtain⟨k,hk,rfl,hR,hb⟩:=hrel
  have BR:=Lib.hid (Below.then_ B0.out hb.out)
  have XR:=Lib.hid (X0.out.via hb.out)
  have YR:=Lib.hid (Y0.out.via hb.out)
  have hql:w.heap.size≤q6:=by have:=HQ6.out;omega
  clear x3 xl
  by_cases hlt:k<n
  ·have hki:(k:Int)<(n:Int):=by omega
   have hkl:k<l.length:=by rw[HN2.out];exact hlt
   have HP:=Lib.hid (HH.out.below BR.out)
   obtain⟨g,o,c',lv,hv,hg,hat,hnm,hkd,hlg⟩:=HP.out.at_ hkl
   rw[HN2.out] at hv
   simp only[Value.slice.injEq,true_and] at hv
   obtain⟨rfl,rfl⟩:=hv
   have hst:=cmn_step hkl
   have hll:=HLL.out _ (List.getElem_mem hkl)
   obtain⟨x,hx⟩:∃x,l[k]=x:=⟨_,rfl⟩
   rw[hx] at hat hnm hkd hlg hst hll
   obtain⟨Al,cl,rfl,_,_⟩:=hlg.form
   have HLG:=Lib.hid hlg
   obtain⟨m,hm2⟩:∃m,x.lg.length=m:=⟨_,rfl⟩
   rw[hm2] at hat
   have HM:=Lib.hid hm2
   obtain⟨a0,a1,a2⟩:=hat
   have HST:Hid (R=((x.kd == 2&&decide (x.nm=[])) || cmnB (l.drop (k+1)))):=hR.out.symm.trans hst
   obtain⟨q9,hq9⟩:∃q,wr.heap.size=q:=⟨_,rfl⟩
   obtain⟨wA,hwA⟩:∃W,wr.alloc (.cells #[.int .u8 (x.kd:Int),.string (sb x.nm),.slice Al m cl] 62)=W:=⟨_,rfl⟩
   have hbA:Below wr.heap.size wr wA:=by rw[←hwA];exact(Below.refl _ _).alloc (Nat.le_refl _) _
   have BA:=Lib.hid (Below.then_ BR.out hbA)
   have BA0:=Lib.hid (Below.then_ hb.out hbA)
   have YA:=Lib.hid (YR.out.via hbA)
   have ZA:Hid (Bx q9 #[.int .u8 (x.kd:Int),.string (sb x.nm),.slice Al m cl] 62 wA):=by rw[←hwA,←hq9];exact Bx.last wr _ _
   have HLA:=Lib.hid (HLG.out.below hbA)
   have HWA:=Lib.hid hwA
   have HQ9:=Lib.hid hq9
   have hq69:q6<q9:=by rw[←hq9];exact YR.out.lt
   have hgw:g<wr.heap.size:=hg
   have s2:=u8_beq x.kd 2
   have sn:=str_nil (a:=x.nm)
   replace s2:((x.kd:Int) == 2)=(x.kd == 2):=s2
   obtain⟨K2,hK2⟩:∃b,(x.kd == 2)=b:=⟨_,rfl⟩
   obtain⟨E,hE⟩:∃b,decide (x.nm=[])=b:=⟨_,rfl⟩
   rw[hK2] at s2 HST
   rw[hE] at sn HST
   clear hwA hbA hq9 hx hm2 hlg hst hg HP hK2 hE
   go_upto_region 4 with fail
   rw[HWA.out,HQ9.out]
   clear HWA HQ9 a0 a1 a2
   obtain⟨⟨z0,z1,z2⟩,_⟩:=ZA.out.cells3
   have zl:=ZA.out.lt
   cases K2
   ·have HV:Hid (cmnB (l.drop (k+1))=R):=by unfold Hid;rw[HST.out];simp
    go_wp2
    go_roundw
    case rel=>exact⟨k+1,hlt,by go_num,HV,BA0⟩
    case measure=>simp[intOf];omega
   ·cases E
    ·have HV:Hid (cmnB (l.drop (k+1))=R):=by unfold Hid;rw[HST.out];simp
     go_wp2
     go_roundw
     case rel=>exact⟨k+1,hlt,by go_num,HV,BA0⟩
     case measure=>simp[intOf];omega
    ·have HV:Hid (R=true):=by unfold Hid;rw[HST.out];simp
     have hcl:=cloneLg_any _ _ wA HLA.out hll
     rw[HM.out] at hcl
     have HCL:=Lib.hid hcl
     clear hcl
     go_wp2_with fail
     refine HCL.out.mono ?_
     rintro e wB ⟨A3,c3,rfl,hbB⟩
     have BB:=Lib.hid (Below.then_ BA.out hbB)
     have YB:=Lib.hid (YA.out.via hbB)
     have ZB:=Lib.hid (ZA.out.via hbB)
     clear HCL hbB z0 z1 z2 zl
     obtain⟨⟨z0,z1,z2⟩,zf0,zf1,zf2⟩:=ZB.out.cells3
     have zl:=ZB.out.lt
     obtain⟨wC,hwC⟩:∃W,wB.setCell ⟨q9,2,none⟩ (.slice A3 m c3)=W:=⟨_,rfl⟩
     have ZC:Hid (Bx q9 #[.int .u8 (x.kd:Int),.string (sb x.nm),.slice A3 m c3] 62 wC):=by rw[←hwC];exact ZB.out.set 2 _
     have YC:Hid (Bx q6 #[.int .u8 0,.string ⟨#[]⟩,.slice none 0 0] 62 wC):=by rw[←hwC];exact(heap_setCell_other _ ⟨q9,2,none⟩ _ _ (by show q6≠q9;omega)).trans YB.out
     have BC:Hid (Below w.heap.size w wC):=by rw[←hwC];exact BB.out.setCell (by show w.heap.size≤q9;omega) _
     have HWC:=Lib.hid hwC
     clear hwC
     go_upto_region 6 with fail
     rw[HWC.out]
     clear HWC z0 z1 z2 zf0 zf1 zf2 zl
     obtain⟨⟨z0,z1,z2⟩,zf0,zf1,zf2⟩:=ZC.out.cells3
     have zl:=ZC.out.lt
     obtain⟨⟨y0,y1,y2⟩,yf0,yf1,yf2⟩:=YC.out.cells3
     have yl:=YC.out.lt
     have hy:=Bx.set3 YC.out (.int .u8 (x.kd:Int)) (.string (sb x.nm)) (.slice A3 m c3)
     have HB:=Lib.hid (bel_set3 BC.out hql (.int .u8 (x.kd:Int)) (.string (sb x.nm)) (.slice A3 m c3))
     go_wp2
     obtain⟨⟨t0,t1,t2⟩,_⟩:=hy.cells3
     refine bodyPost_ret (v:=.tuple #[.agg #[.int .u8 (x.kd:Int),.string (sb x.nm),.slice A3 m c3],.bool true]) (by simp[results,Tryz.results72,go_sem,t0,t1,t2];try rfl) rfl ?_
     rw[HV.out]
     exact HPO.out _ _ _ _ _ _ _ HB.out
  ·have HV:Hid (R=false):=by unfold Hid;rw[←hR.out];exact cmn_end (by rw[HN2.out];omega)
   have hki:¬(k:Int)<(n:Int):=by omega
   obtain⟨⟨y0,y1,y2⟩,yf0,yf1,yf2⟩:=YR.out.cells3
   have yl:=YR.out.lt
   have hy:=Bx.set3 YR.out (.int .u8 0) (.string ⟨#[]⟩) (.slice none 0 0)
   have HB:=Lib.hid (bel_set3 BR.out hql (.int .u8 0) (.string ⟨#[]⟩) (.slice none 0 0))
   go_wp2
   obtain⟨⟨t0,t1,t2⟩,_⟩:=hy.cells3
   refine bodyPost_ret (v:=.tuple #[.agg #[.int .u8 0,.string ⟨#[]⟩,.slice none 0 0],.bool false]) (by simp[results,Tryz.results72,go_sem,t0,t1,t2];try rfl) rfl ?_
   rw[HV.out]
   exact HPO.out _ _ _ _ _ _ _ HB.out
theorem pa1E_in {pk:Nat} {l:List Pa} {i:Nat} (hi:i<l.length) (h:pa1E pk l i=0):(l.getD i pa0).kd∈kndL pk:=by
 unfold pa1E at h
 by_cases h1:(l.getD i pa0).kd∈kndL pk
 ·exact h1
 ·rw[if_neg h1,fstE_n (by decide)] at h;cases h
theorem fst6 (a b c d e f:Int):fstE [a,b,c,d,e,f]=if a=0 then (if b=0 then (if c=0 then (if d=0 then (if e=0 then f else e) else d) else c) else b) else a:=by
 unfold fstE fstE fstE fstE fstE fstE fstE
 by_cases hf:f=0
 ·rw[if_pos hf,hf]
 ·rw[if_neg hf]
set_option maxRecDepth 100000 in
set_option maxHeartbeats 8000000 in
theorem prcCheck_any (pv:Value) (p:Prc) (w:World) (hT:LegT w) (h:PasR w pv p.pa) (hk:p.kd<256) (h1:p.ap.length≤maxLen) (h2:p.nm.length≤maxLen) (hL:∀x∈p.pa,x.lg.length≤1000000) (hN0:p.pa.length≤1000000) :
  Calls Tryz.prog 17 #[.agg (prc (pv,p)).toArray] w fun e w'=>e=.returned (.int .i64 (prcE p))∧Below w.heap.size w w':=by
 have HE:Hid (prcE p=if nameB p.ap 6=true then (if nameB p.nm 8=true then (if kndL p.kd≠[] then (if 12<p.pa.length then 3 else if allE (pa1E p.kd p.pa) p.pa.length=0 then (if p.pa.length=0 then 6 else if p.kd=3∧cmnB p.pa=false then 6 else 0) else allE (pa1E p.kd p.pa) p.pa.length) else 17) else 5) else 5):=by
  unfold Hid prcE
  rw[fst6]
  have hkn:kndL p.kd≠[]↔(p.kd=1∨p.kd=2∨p.kd=3):=by
   unfold kndL
   by_cases h1:p.kd=1
   ·simp[h1]
   ·by_cases h2:p.kd=2
    ·simp[h2]
    ·by_cases h3:p.kd=3
     ·simp[h3]
     ·simp[h1,h2,h3]
  cases hn1:nameB p.ap 6
  ·simp
  ·cases hn2:nameB p.nm 8
   ·simp
   ·by_cases hkd:p.kd=1∨p.kd=2∨p.kd=3
    ·rw[if_pos (show kndL p.kd≠[] from hkn.2 hkd)]
     simp only[Bool.and_self,if_true,if_pos hkd]
     by_cases h12:12<p.pa.length
     ·simp[h12]
     ·simp only[if_neg h12,if_true]
      by_cases ha:allE (pa1E p.kd p.pa) p.pa.length=0
      ·simp only[if_pos ha]
       by_cases h0:p.pa.length=0
       ·simp[h0]
       ·simp[h0]
      ·simp only[if_neg ha]
    ·rw[if_neg (show ¬kndL p.kd≠[] from fun h=>hkd (hkn.1 h))]
     simp[hkd]
 obtain⟨R,hR⟩:∃R,prcE p=R:=⟨_,rfl⟩
 rw[hR] at HE
 rw[hR]
 clear hR
 have nmA:=fun w=>name_any (sb p.ap) 6 w h1
 have nmB:=fun w=>name_any (sb p.nm) 8 w h2
 rw[bl_sb] at nmA nmB
 obtain⟨N1,hN1⟩:∃b,nameB p.ap 6=b:=⟨_,rfl⟩
 obtain⟨N2,hN2⟩:∃b,nameB p.nm 8=b:=⟨_,rfl⟩
 rw[hN1] at nmA HE
 rw[hN2] at nmB HE
 obtain⟨A,c,rfl,hc,hm⟩:=h.form
 unfold maxLen at hm
 obtain⟨n,hn⟩:∃n,p.pa.length=n:=⟨_,rfl⟩
 have HNL:=Lib.hid hn
 have HH:=Lib.hid h
 have HTT:=Lib.hid hT
 have HLL:=Lib.hid hL
 have HKD:=Lib.hid hk
 rw[hn] at HE hc hN0
 rw[hn]
 have HKO:=Lib.hid (porder_any p.kd)
 have HCP:=Lib.hid (fun i=>checkPart_any (.slice A p.pa.length c) p i)
 have HCM:=Lib.hid (common_any (.slice A p.pa.length c) p)
 rw[hn] at HCP HCM HH
 obtain⟨w0,hw0⟩:∃W,w.alloc (.cells #[.string (sb p.ap),.string (sb p.nm),.int .u8 (p.kd:Int),.slice A n c] 57)=W:=⟨_,rfl⟩
 have B0:Hid (Below w.heap.size w w0):=by rw[←hw0];exact(Below.refl _ _).alloc (Nat.le_refl _) _
 have X0:Hid (Bx w.heap.size #[.string (sb p.ap),.string (sb p.nm),.int .u8 (p.kd:Int),.slice A n c] 57 w0):=by rw[←hw0];exact Bx.last w _ _
 obtain⟨x0,x1,x2,x3⟩:=X0.out.cells4
 have xl:=X0.out.lt
 have HW0:=Lib.hid hw0
 unfold prc
 unfold prc at HCP HCM
 simp only at HCP HCM ⊢
 have hnilE:∀W B C D,(binOp .eql 116 (.slice B C D) (.slice none 0 0)).run Tryz.prog W=.ok (.bool B.isNone) W:=fun W B C D=>Lib.run_eql_slice_nil W _ _ _ _ _ _ _ Tryz.underlying116
 clear hw0 h hT hL hk h1 h2 hN1 hN2 hn
 go_enter Tryz.func17,Tryz.ntmps17
 go_wp2_with fail
 rw[HW0.out]
 clear HW0
 refine(nmA _).mono ?_
 rintro e w1 ⟨rfl,rfl⟩
 cases N1
 ·have HV:Hid (R=5):=by unfold Hid;rw[HE.out];rfl
  go_wp2
  go_ret
  exact⟨ret_int HV.out.symm,B0.out⟩
 go_wp2_with fail
 refine(nmB _).mono ?_
 rintro e w1 ⟨rfl,rfl⟩
 cases N2
 ·have HV:Hid (R=5):=by unfold Hid;rw[HE.out];rfl
  go_wp2
  go_ret
  exact⟨ret_int HV.out.symm,B0.out⟩
 simp only[if_true] at HE
 go_wp2_with fail
 refine(HKO.out _ HKD.out).mono ?_
 rintro e w2 ⟨kv,rfl,hkn,hkv,hb2⟩
 have B2:=Lib.hid (Below.then_ B0.out hb2)
 have X2:=Lib.hid (X0.out.via hb2)
 clear hb2 B0 X0 x0 x1 x2 x3 xl HKO nmA nmB
 obtain⟨x0,x1,x2,x3⟩:=X2.out.cells4
 have xl:=X2.out.lt
 rcases hkn with ⟨hkk,rfl⟩|⟨gk,ka,kb,kd2,rfl,_,hkk,_,_,_⟩
 ·have HV:Hid (R=17):=by unfold Hid;rw[HE.out,if_neg (by rw[hkk];simp)]
  clear hkk hkv
  go_wp2
  go_ret
  exact⟨ret_int HV.out.symm,B2.out⟩
 rw[if_pos (by rw[hkk];simp)] at HE
 clear hkk hkv
 by_cases h12:12<n
 ·have HV:Hid (R=3):=by unfold Hid;rw[HE.out,if_pos h12]
  have e12:(12:Int)<(n:Int):=by omega
  clear h12
  go_wp2
  go_ret
  exact⟨ret_int HV.out.symm,B2.out⟩
 rw[if_neg h12] at HE
 have e12:¬(12:Int)<(n:Int):=by omega
 have hn12:n≤12:=by omega
 clear h12
 go_wp2_with fail
 go_loopw [31] (fun iv wr=>∃k:Nat,k≤n∧iv=.int .i64 (k:Int)∧Hid (allE (pa1E p.kd p.pa) n=fsE (pa1E p.kd p.pa) k (n-k))∧Hid (∀j,j<k→pa1E p.kd p.pa j=0)∧Hid (Below w2.heap.size w2 wr)) (fun iv _=>n-(intOf iv).toNat)
 case atStart=>exact⟨0,Nat.zero_le _,rfl,rfl,fun j hj=>absurd hj (Nat.not_lt_zero _),Below.refl _ _⟩
 case round =>
  obtain⟨k,hkn,rfl,hfs,hz,hb⟩:=hrel
  have BR:=Lib.hid (Below.then_ B2.out hb.out)
  have XR:=Lib.hid (X2.out.via hb.out)
  clear x0 x1 x2 x3 xl
  obtain⟨x0,x1,x2,x3⟩:=XR.out.cells4
  have xl:=XR.out.lt
  by_cases hlt:k<n
  ·have hki:(k:Int)<(n:Int):=by omega
   have hcp:=HCP.out k wr (HTT.out.below BR.out) (HH.out.below BR.out) hlt (by omega) HKD.out (fun h0=>pa1E_in (by rw[HNL.out];omega) (hz.out (k-1) (by omega)))
   obtain⟨er,her⟩:∃e,pa1E p.kd p.pa k=e:=⟨_,rfl⟩
   rw[her] at hcp
   have HER:=Lib.hid her
   have HCK:=Lib.hid hcp
   clear her hcp
   go_wp2_with fail
   refine HCK.out.mono ?_
   rintro e w3 ⟨rfl,hb3⟩
   have B3:=Lib.hid (Below.then_ BR.out hb3)
   have B32:=Lib.hid (Below.then_ hb.out hb3)
   clear hb3 HCK
   by_cases h0:er=0
   ·have HF:Hid (allE (pa1E p.kd p.pa) n=fsE (pa1E p.kd p.pa) (k+1) (n-(k+1))):=by unfold Hid;rw[hfs.out,fsE_step hlt (by rw[HER.out];exact h0)]
    have HZ:Hid (∀j,j<k+1→pa1E p.kd p.pa j=0):=fun j hj=>by
     by_cases hjk:j<k
     ·exact hz.out j hjk
     ·rw[show j=k by omega,HER.out];exact h0
    subst h0
    go_wp2
    go_roundw
    case rel=>exact⟨k+1,hlt,by go_num,HF,HZ,B32⟩
    case measure=>simp[intOf];omega
   ·have HV:Hid (R=er):=by
     have h1:allE (pa1E p.kd p.pa) n=er:=by rw[hfs.out,fsE_hit hlt (by rw[HER.out];exact h0),HER.out]
     unfold Hid;rw[HE.out,h1,if_neg h0]
    have e0:(er != 0)=true:=bne_iff_ne.2 h0
    clear h0
    go_wp2
    go_ret
    exact⟨ret_int HV.out.symm,B3.out⟩
  ·have hki:¬(k:Int)<(n:Int):=by omega
   have HA:Hid (allE (pa1E p.kd p.pa) n=0):=by unfold Hid;rw[hfs.out,fsE_end (by omega)]
   rw[HA.out,if_pos rfl] at HE
   by_cases h0:n=0
   ·have HV:Hid (R=6):=by unfold Hid;rw[HE.out,if_pos h0]
    subst h0
    go_wp2
    go_ret
    exact⟨ret_int HV.out.symm,BR.out⟩
   ·rw[if_neg h0] at HE
    have e0:((n:Int) == 0)=false:=beq_eq_false_iff_ne.2 (by omega)
    clear h0
    have hcm:=HCM.out wr (HH.out.below BR.out) (by omega) HLL.out
    obtain⟨C,hC⟩:∃b,cmnB p.pa=b:=⟨_,rfl⟩
    rw[hC] at hcm HE
    have HCC:=Lib.hid hcm
    clear hcm hC
    go_wp2_with fail
    refine HCC.out.mono ?_
    rintro e w3 ⟨kk,ss,AA,nn,cc,rfl,hb3⟩
    have B3:=Lib.hid (Below.then_ BR.out hb3)
    have X3:=Lib.hid (XR.out.via hb3)
    clear hb3 HCC x0 x1 x2 x3 xl
    obtain⟨w4,hw4⟩:∃W,w3.alloc (.cells #[.int .u8 kk,.string ss,.slice AA nn cc] 62)=W:=⟨_,rfl⟩
    have hb4:Below w3.heap.size w3 w4:=by rw[←hw4];exact(Below.refl _ _).alloc (Nat.le_refl _) _
    have B4:=Lib.hid (Below.then_ B3.out hb4)
    have X4:=Lib.hid (X3.out.via hb4)
    have HW4:=Lib.hid hw4
    clear hw4 hb4
    go_upto_region 17 with fail
    rw[HW4.out]
    clear HW4
    obtain⟨x0,x1,x2,x3⟩:=X4.out.cells4
    have xl:=X4.out.lt
    by_cases h3:p.kd=3
    ·have x2':w4.cell? ⟨w.heap.size,2,none⟩=some (.int .u8 3):=by rw[x2,h3];rfl
     clear x2
     cases C
     ·have HV:Hid (R=6):=by unfold Hid;rw[HE.out,if_pos ⟨h3,rfl⟩]
      clear h3
      go_wp2
      go_ret
      exact⟨ret_int HV.out.symm,B4.out⟩
     ·have HV:Hid (R=0):=by unfold Hid;rw[HE.out,if_neg (by simp)]
      clear h3
      go_wp2
      go_ret
      exact⟨ret_int HV.out.symm,B4.out⟩
    ·have HV:Hid (R=0):=by unfold Hid;rw[HE.out,if_neg (by simp[h3])]
     have e3:((p.kd:Int) == 3)=false:=beq_eq_false_iff_ne.2 (by omega)
     clear h3
     go_wp2
     go_ret
     exact⟨ret_int HV.out.symm,B4.out⟩
theorem cmpB_eq:∀(a b:List UInt8),Lib.compareBytes a b=cmpS a b
 | [],[]=>by simp[Lib.compareBytes,cmpS]
 | [],b::bs=>by simp[Lib.compareBytes,cmpS]
 | a::al,[]=>by simp[Lib.compareBytes,cmpS]
 | a::al,b::bl2=>by
  show(if a<b then -1 else if b<a then 1 else Lib.compareBytes al bl2)=_
  rw[cmpB_eq al bl2]
  unfold cmpS
  simp only[List.cons_lt_cons_iff]
  by_cases h1:a<b
  ·simp[h1]
  ·by_cases h2:b<a
   ·have hne:¬a=b:=fun e=>by subst e;exact h1 h2
    simp[h1,h2,hne]
   ·have he:a=b:=UInt8.le_antisymm (UInt8.not_lt.1 h2) (UInt8.not_lt.1 h1)
    subst he
    simp[h1]
theorem cmpStrings_any (a b:List UInt8) (w:World):Calls Tryz.prog 122 #[.string (sb a),.string (sb b)] w fun e w'=>e=.returned (.int .i64 (cmpS a b))∧Below w.heap.size w w':=by
 refine(Tryz.strings_Compare (sb a) (sb b) w).mono ?_
 rintro e w' ⟨rfl,rfl⟩
 refine⟨?_,Below.refl _ _⟩
 have h:=cmpB_eq (bl (sb a)) (bl (sb b))
 rw[bl_sb,bl_sb] at h
 rw[←h];rfl
theorem isNaNk_any (k:Nat) (w:World):Calls Tryz.prog 200 #[.int .u8 (k:Int)] w fun e w'=>e=.returned (.bool false)∧w'=w:=by
 go_enter Tryz.func200,Tryz.ntmps200
 go_wp2
 go_ret
 exact⟨by simp,rfl⟩
def cmpN (a b:Nat):Int:=if a<b then -1 else if b<a then 1 else 0
theorem cmpKind_any (a b:Nat) (w:World):Calls Tryz.prog 123 #[.int .u8 (a:Int),.int .u8 (b:Int)] w fun e w'=>e=.returned (.int .i64 (cmpN a b))∧Below w.heap.size w w':=by
 have HV:Hid (cmpN a b=if a<b then -1 else if b<a then 1 else 0):=rfl
 have n1:=isNaNk_any a
 have n2:=isNaNk_any b
 rcases Nat.lt_trichotomy a b with h|h|h
 ·have c1:(a:Int)<(b:Int):=by omega
  have HE:Hid (cmpN a b = -1):=by unfold Hid;rw[HV.out,if_pos h]
  clear h
  go_enter Tryz.func123,Tryz.ntmps123
  go_wp2_with fail
  refine(n1 _).mono ?_
  rintro e w1 ⟨rfl,rfl⟩
  go_wp2_with fail
  refine(n2 _).mono ?_
  rintro e w1 ⟨rfl,rfl⟩
  go_wp2
  go_ret
  exact⟨ret_int HE.out.symm,Below.refl _ _⟩
 ·have c1:¬(a:Int)<(b:Int):=by omega
  have c2:¬(b:Int)<(a:Int):=by omega
  have HE:Hid (cmpN a b=0):=by unfold Hid;rw[HV.out,if_neg (by omega),if_neg (by omega)]
  clear h
  go_enter Tryz.func123,Tryz.ntmps123
  go_wp2_with fail
  refine(n1 _).mono ?_
  rintro e w1 ⟨rfl,rfl⟩
  go_wp2_with fail
  refine(n2 _).mono ?_
  rintro e w1 ⟨rfl,rfl⟩
  go_wp2
  go_ret
  exact⟨ret_int HE.out.symm,Below.refl _ _⟩
 ·have c1:¬(a:Int)<(b:Int):=by omega
  have c2:(b:Int)<(a:Int):=by omega
  have HE:Hid (cmpN a b=1):=by unfold Hid;rw[HV.out,if_neg (by omega),if_pos h]
  clear h
  go_enter Tryz.func123,Tryz.ntmps123
  go_wp2_with fail
  refine(n1 _).mono ?_
  rintro e w1 ⟨rfl,rfl⟩
  go_wp2_with fail
  refine(n2 _).mono ?_
  rintro e w1 ⟨rfl,rfl⟩
  go_wp2
  go_ret
  exact⟨ret_int HE.out.symm,Below.refl _ _⟩
set_option maxHeartbeats 1000000 in
theorem cmpOr_any (g:Nat) (a b c:Int) (w:World) (h0:w.cell? ⟨g,0,none⟩=some (.int .i64 a)) (h1:w.cell? ⟨g,1,none⟩=some (.int .i64 b)) (h2:w.cell? ⟨g,2,none⟩=some (.int .i64 c)) (hg:g<w.heap.size) :
  Calls Tryz.prog 121 #[.slice (some ⟨g,0,none⟩) 3 3] w fun e w'=>e=.returned (.int .i64 (if a≠0 then a else if b≠0 then b else c))∧w=w':=by
 obtain⟨R,hR⟩:∃R:Int,(if a≠0 then a else if b≠0 then b else c)=R:=⟨_,rfl⟩
 have HR:=Lib.hid hR
 rw[hR]
 clear hR
 go_enter Tryz.func121,Tryz.ntmps121
 go_wp2
 go_loopw [8] (fun iv wr=>w=wr∧((iv=.int .i64 0∧Hid True)∨(iv=.int .i64 1∧Hid (a=0))∨(iv=.int .i64 2∧Hid (a=0∧b=0))∨(iv=.int .i64 3∧Hid (a=0∧b=0∧c=0)))) (fun iv _=>3-(intOf iv).toNat)
 case atStart=>exact⟨rfl,.inl ⟨rfl,trivial⟩⟩
 case round =>
  obtain⟨rfl,⟨rfl,hx⟩|⟨rfl,hx⟩|⟨rfl,hx⟩|⟨rfl,hx⟩⟩:=hrel
  ·by_cases ha:a=0
   ·have e:(a != 0)=false:=by simp[ha]
    have HX:=Lib.hid ha
    clear ha hx
    go_wp2
    go_roundw
    case rel=>exact⟨by first|rfl|trivial,.inr (.inl ⟨by first|rfl|go_num,HX⟩)⟩
    case measure=>simp[intOf]
   ·have e:(a != 0)=true:=bne_iff_ne.2 ha
    have HE:Hid (R=a):=by unfold Hid;rw[←HR.out,if_pos ha]
    clear ha
    go_wp2
    go_ret
    exact⟨ret_int HE.out.symm,rfl⟩
  ·by_cases ha:b=0
   ·have e:(b != 0)=false:=by simp[ha]
    have HX:Hid (a=0∧b=0):=⟨hx.out,ha⟩
    clear ha hx
    go_wp2
    go_roundw
    case rel=>exact⟨by first|rfl|trivial,.inr (.inr (.inl ⟨by first|rfl|go_num,HX⟩))⟩
    case measure=>simp[intOf]
   ·have e:(b != 0)=true:=bne_iff_ne.2 ha
    have HE:Hid (R=b):=by unfold Hid;rw[←HR.out,if_neg (by simp[hx.out]),if_pos ha]
    clear ha
    go_wp2
    go_ret
    exact⟨ret_int HE.out.symm,rfl⟩
  ·by_cases ha:c=0
   ·have e:(c != 0)=false:=by simp[ha]
    have HX:Hid (a=0∧b=0∧c=0):=⟨hx.out.1,hx.out.2,ha⟩
    clear ha hx
    go_wp2
    go_roundw
    case rel=>exact⟨by first|rfl|trivial,.inr (.inr (.inr ⟨by first|rfl|go_num,HX⟩))⟩
    case measure=>simp[intOf]
   ·have e:(c != 0)=true:=bne_iff_ne.2 ha
    have HE:Hid (R=c):=by unfold Hid;rw[←HR.out,if_neg (by simp[hx.out.1]),if_neg (by simp[hx.out.2])]
    clear ha
    go_wp2
    go_ret
    exact⟨ret_int HE.out.symm,rfl⟩
  ·have HE:Hid (R=0):=by unfold Hid;rw[←HR.out,if_neg (by simp[hx.out.1]),if_neg (by simp[hx.out.2.1]),hx.out.2.2]
   go_wp2
   go_ret
   exact⟨ret_int HE.out.symm,rfl⟩
theorem cmpP_eq (p q:Prc):(if cmpS p.ap q.ap≠0 then cmpS p.ap q.ap else if cmpN p.kd q.kd≠0 then cmpN p.kd q.kd else cmpS p.nm q.nm)=cmpP p q:=by
 unfold cmpP cmpN
 by_cases h1:cmpS p.ap q.ap≠0
 ·rw[if_pos h1,if_pos h1]
 ·rw[if_neg h1,if_neg h1]
  rcases Nat.lt_trichotomy p.kd q.kd with h|h|h
  ·simp[h]
  ·simp[h]
  ·simp[h,show ¬p.kd<q.kd by omega]
set_option maxRecDepth 100000 in
set_option maxHeartbeats 8000000 in
theorem pcompare_any (pv qv:Value) (p q:Prc) (w:World) (hp:pv.oneCell'=true) (hq:qv.oneCell'=true) :
  Calls Tryz.prog 46 #[.agg (prc (pv,p)).toArray,.agg (prc (qv,q)).toArray] w fun e w'=>e=.returned (.int .i64 (cmpP p q))∧Below w.heap.size w w':=by
 have HV:=Lib.hid (cmpP_eq p q)
 obtain⟨ap,nm,kd,pa⟩:=p
 obtain⟨bp,bm,ld,pb⟩:=q
 simp only at HV
 unfold prc
 simp only
 have c1:=fun w=>cmpStrings_any ap bp w
 have c2:=fun w=>cmpKind_any kd ld w
 have c3:=fun w=>cmpStrings_any nm bm w
 obtain⟨x,hx⟩:∃x,cmpS ap bp=x:=⟨_,rfl⟩
 obtain⟨y,hy⟩:∃x,cmpN kd ld=x:=⟨_,rfl⟩
 obtain⟨z,hz⟩:∃x,cmpS nm bm=x:=⟨_,rfl⟩
 rw[hx] at c1 HV
 rw[hy] at c2 HV
 rw[hz] at c3 HV
 rw[←HV.out]
 clear hx hy hz HV
 obtain⟨R,hR⟩:∃R,(if x≠0 then x else if y≠0 then y else z)=R:=⟨_,rfl⟩
 rw[hR]
 have HR:=Lib.hid hR
 clear hR
 obtain⟨w0,hw0⟩:∃W,(w.alloc (.cells #[.string (sb ap),.string (sb nm),.int .u8 (kd:Int),pv] 57)).alloc (.cells #[.string (sb bp),.string (sb bm),.int .u8 (ld:Int),qv] 57)=W:=⟨_,rfl⟩
 have B0:Hid (Below w.heap.size w w0):=by rw[←hw0];exact((Below.refl _ _).alloc (Nat.le_refl _) _).alloc (by simp) _
 have X0:Hid (Bx w.heap.size #[.string (sb ap),.string (sb nm),.int .u8 (kd:Int),pv] 57 w0):=by rw[←hw0];exact(Bx.last w _ _).grow _
 have Y0:Hid (Bx (w.heap.size+1) #[.string (sb bp),.string (sb bm),.int .u8 (ld:Int),qv] 57 w0):=by rw[←hw0];exact Bx.last2 w _ _ _
 have u0:=fun pb:BelBy w0=>(X0.out.via pb.h).cell 0 (u:=.string (sb ap)) rfl
 have u1:=fun pb:BelBy w0=>(X0.out.via pb.h).cell 1 (u:=.string (sb nm)) rfl
 have u2:=fun pb:BelBy w0=>(X0.out.via pb.h).cell 2 (u:=.int .u8 (kd:Int)) rfl
 have v0:=fun pb:BelBy w0=>(Y0.out.via pb.h).cell 0 (u:=.string (sb bp)) rfl
 have v1:=fun pb:BelBy w0=>(Y0.out.via pb.h).cell 1 (u:=.string (sb bm)) rfl
 have v2:=fun pb:BelBy w0=>(Y0.out.via pb.h).cell 2 (u:=.int .u8 (ld:Int)) rfl
 have HW0:=Lib.hid hw0
 clear hw0
 go_enter Tryz.func46,Tryz.ntmps46
 go_upto_region 1 with fail
 rw[HW0.out]
 clear HW0
 refine wp_region_bel_tail 15 (by kernel_rfl) (by kernel_rfl) ?_
 simp only[List.take_succ_cons,List.take_zero,List.drop_succ_cons,List.drop_zero]
 repeat(quiet_step (first|(go_at_call 122;first|with_reducible exact Calls.bel_of (c1 _)|with_reducible exact Calls.bel_of (c3 _))|(go_at_call 123;with_reducible exact Calls.bel_of (c2 _))))
 try refine wpQuiet_nil ?_
 rintro wz ⟨pb2,rfl⟩
 obtain⟨wa,hba⟩:=pb2
 show wpList _ _ _ _ _ wa
 have BA:=Lib.hid (Below.then_ B0.out hba)
 clear u0 u1 u2 v0 v1 v2 hba c1 c2 c3
 obtain⟨g,hg⟩:∃g,wa.heap.size=g:=⟨_,rfl⟩
 obtain⟨wb,hwb⟩:∃W,wa.alloc (.cells #[.int .i64 x,.int .i64 y,.int .i64 z] 3)=W:=⟨_,rfl⟩
 have BB:Hid (Below w.heap.size w wb):=by rw[←hwb];exact BA.out.alloc BA.out.size _
 have XB:Hid (Bx g #[.int .i64 x,.int .i64 y,.int .i64 z] 3 wb):=by rw[←hwb,←hg];exact Bx.last wa _ _
 have hor:=cmpOr_any g x y z wb (XB.out.cell 0 rfl) (XB.out.cell 1 rfl) (XB.out.cell 2 rfl) XB.out.lt
 rw[HR.out] at hor
 have HOR:=Lib.hid hor
 have HWB:=Lib.hid hwb
 have HG:=Lib.hid hg
 clear hwb hg hor
 go_wp2_with fail
 rw[HWB.out,HG.out]
 refine HOR.out.mono ?_
 rintro e w2 ⟨rfl,rfl⟩
 go_wp2
 go_ret
 exact⟨rfl,BB.out⟩
end Go.Proofs.YtgmehlgfilpleaaGreatDoor
