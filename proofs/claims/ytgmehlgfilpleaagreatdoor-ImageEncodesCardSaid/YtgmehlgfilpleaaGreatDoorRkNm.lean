/-
  Contracts: the reference's errors of a fix's place, and of what a leg and a procedure name.
-/
import Derived.Test.YtgmehlgfilpleaaGreatDoorMG02
import Derived.Test.YtgmehlgfilpleaaGreatDoorMG27
import Derived.Test.YtgmehlgfilpleaaGreatDoorProC
namespace Go.Proofs.YtgmehlgfilpleaaGreatDoor
open Go.RowKit
set_option linter.unusedVariables false
set_option linter.unusedSimpArgs false
def plR (f:Fx) (bf al:List Fx):Int:=if (f.kd == 5&&aptB bf f.id)=true then 7 else if (f.kd == 6 && !aptB al f.rg)=true then 6 else 0
set_option maxRecDepth 100000 in
set_option maxHeartbeats 8000000 in
theorem rplace_any (A:Option Addr) (n c:Nat) (l:List Fx) (i:Nat) (w:World) (h:FxsR w (.slice A n c) l) (hi:i<l.length) (hN:l.length≤1000000) :
  Calls Tryz.prog 53 #[.slice A n c,.int .i64 (i:Int)] w fun e w'=>e=.returned (.int .i64 (plR l[i] (l.take i) l))∧Below w.heap.size w w':=by
 obtain⟨A',c',hv,hcc,hm⟩:=h.form
 simp only[Value.slice.injEq] at hv
 obtain⟨rfl,rfl,rfl⟩:=hv
 obtain⟨g,o,c',hA,hg,hat⟩:=h.at_ hi
 simp only[Value.slice.injEq,true_and] at hA
 obtain⟨rfl,rfl⟩:=hA
 have H:=Lib.hid h
 have H2:=Lib.hid (h.take (k:=i) (by omega))
 have HN:=Lib.hid hN
 obtain⟨p,hp⟩:∃p,l[i]=p:=⟨_,rfl⟩
 rw[hp] at hat
 rw[hp]
 obtain⟨n,hn⟩:∃n,l.length=n:=⟨_,rfl⟩
 have HNL:=Lib.hid hn
 have hNn:n≤1000000:=by rw[←hn];exact hN
 rw[hn] at hcc H hi ⊢
 obtain⟨bf,hbf⟩:∃b,l.take i=b:=⟨_,rfl⟩
 have HBF:Hid (bf.length≤1000000000000):=by unfold Hid;rw[←hbf,List.length_take];omega
 rw[hbf] at H2
 rw[hbf]
 have HV:Hid (plR p bf l=if (p.kd == 5&&aptB bf p.id)=true then 7 else if (p.kd == 6 && !aptB l p.rg)=true then 6 else 0):=rfl
 obtain⟨R,hR⟩:∃R,plR p bf l=R:=⟨_,rfl⟩
 rw[hR] at HV
 rw[hR]
 obtain⟨c0,c1,c2,c3,c4,c5,c6⟩:=hat
 have k5:((p.kd:Int) == 5)=(p.kd == 5):=by rw[Bool.eq_iff_iff,beq_iff_eq,beq_iff_eq];omega
 have k6:((p.kd:Int) == 6)=(p.kd == 6):=by rw[Bool.eq_iff_iff,beq_iff_eq,beq_iff_eq];omega
 have k56:¬((p.kd == 5)=true∧(p.kd == 6)=true):=by rw[beq_iff_eq,beq_iff_eq];omega
 obtain⟨K5,hK5⟩:∃b,(p.kd == 5)=b:=⟨_,rfl⟩
 obtain⟨K6,hK6⟩:∃b,(p.kd == 6)=b:=⟨_,rfl⟩
 rw[hK5,hK6] at HV k56
 rw[hK5] at k5
 rw[hK6] at k6
 have AP1:=Lib.hid (fun W (h:FxsR W (.slice (some ⟨g,o,none⟩) i c) bf)=>(rairport_any _ bf (sb p.id) W h HBF.out).mono (R':=fun e w'=>e=.returned (.bool (aptB bf p.id))∧Below W.heap.size W w') (fun e w' h=>⟨by rw[h.1,bl_sb];rfl,h.2⟩))
 have AP2:=Lib.hid (fun W (h:FxsR W (.slice (some ⟨g,o,none⟩) n c) l)=>(rairport_any _ l (sb p.rg) W h (by rw[HNL.out];omega)).mono (R':=fun e w'=>e=.returned (.bool (aptB l p.rg))∧Below W.heap.size W w') (fun e w' h=>⟨by rw[h.1,bl_sb];rfl,h.2⟩))
 obtain⟨P1,hP1⟩:∃b,aptB bf p.id=b:=⟨_,rfl⟩
 obtain⟨P2,hP2⟩:∃b,aptB l p.rg=b:=⟨_,rfl⟩
 rw[hP1] at AP1 HV
 rw[hP2] at AP2 HV
 obtain⟨q,hq⟩:∃q,w.heap.size=q:=⟨_,rfl⟩
 obtain⟨wA,hwA⟩:∃W,w.alloc (.cells #[.string (sb p.id),.string (sb p.rg),.int .u8 (p.kd:Int),.int .i64 p.lat,.int .i64 p.lon,.int .i64 p.el,.int .i64 p.ra] 38)=W:=⟨_,rfl⟩
 have X1:Hid (FxBox wA q p):=by rw[←hwA,←hq];exact fxBox_new w p
 have XB:Hid (Below w.heap.size w wA):=by rw[←hwA];exact(Below.refl _ _).alloc (Nat.le_refl _) _
 have HW:=Lib.hid hwA
 have HQ:=Lib.hid hq
 have hii:(i:Int)<(n:Int):=by omega
 have hic:(i:Int)≤(c:Int):=by omega
 have hi0:(0:Int)≤(i:Int):=by omega
 clear h hp hn hbf hR hK5 hK6 hP1 hP2 hwA hq hN
 go_enter Tryz.func53,Tryz.ntmps53
 go_upto_region 2 with fail
 rw[HW.out,HQ.out]
 clear HW c0 c1 c2 c3 c4 c5 c6
 have HS1:=Lib.hid (H2.out.below XB.out)
 have HS2:=Lib.hid (H.out.below XB.out)
 have y0:=fun pb:BelBy wA=>(FxBox.below X1.out pb.h).cells.c0
 have y2:=fun pb:BelBy wA=>(FxBox.below X1.out pb.h).cells.c2
 have e1:IntKind.i64.wrap (i:Int)=(i:Int):=IntWalk.i64_in _ (by omega)
 go_cut [20] (fun v wx=>v=.bool (K5&&P1)∧Hid (Below wA.heap.size wA wx))
 case first =>
  cases K5
  ·refine wp_region_quiet_bel (by kernel_rfl) (by kernel_rfl) ?_
   iterate 3 (quiet_step (fail))
   refine wpQuiet_step (fun K hK => ?_)
   go_simp
   with_reducible refine hK _ ?_
   clear hK K
   iterate 6 (with_reducible refine wpQuiet_skipP (by kernel_rfl) ?_)
   simp only[Act.put,List.setIfInBounds_toArray,List.set_cons_succ,List.set_cons_zero]
   quiet_step (fail)
   refine wpQuiet_nil ?_
   rintro wz ⟨pw,hwz⟩
   have BZ:Hid (Below wA.heap.size wA wz):=by rw[hwz];exact pw.h
   clear hwz pw y0 y2 e1
   go_wp2
   go_meet
   exact⟨rfl,BZ.out⟩
  ·have ap:=fun(pb:BelBy wA) W (hW:pb.x=W)=>AP1.out W (by rw[←hW];exact HS1.out.below pb.h)
   have ap2:∀W,Below wA.heap.size wA W→Calls Tryz.prog 135 #[.slice (some ⟨g,o,none⟩) i c,.string (sb p.id)] W fun e w'=>e=.returned (.bool P1)∧Below W.heap.size W w':=fun W hb=>AP1.out W (HS1.out.below hb)
   clear ap
   refine wp_region_quiet_bel (by kernel_rfl) (by kernel_rfl) ?_
   repeat(quiet_step ((go_at_call 135;with_reducible exact Calls.bel_of (ap2 _ (BelBy.h _)))))
   refine wpQuiet_nil ?_
   rintro wz ⟨pw,hwz⟩
   have BZ:Hid (Below wA.heap.size wA wz):=by rw[hwz];exact pw.h
   clear hwz pw y0 y2 e1 ap2
   go_wp2
   go_meet
   exact⟨rfl,BZ.out⟩
 case rest =>
 obtain⟨rfl,hbz⟩:=hcut
 have BZ:=Lib.hid (Below.then_ XB.out hbz.out)
 have X2:Hid (FxBox wc q p):=FxBox.below X1.out hbz.out
 have HS3:=Lib.hid (HS2.out.below hbz.out)
 clear y0 y2 e1 hbz X1 XB HS1 HS2
 obtain⟨y0,y1,y2,y3,y4,y5,y6⟩:=X2.out.cells
 have hsz:=lt_heap X2.out
 cases K5 with
 | true =>
  obtain rfl:K6=false:=by cases K6;rfl;exact absurd ⟨rfl,rfl⟩ k56
  clear k56
  cases P1 with
  | true =>
   have HV2:Hid (R=7):=HV.out
   go_wp2
   go_ret
   exact⟨ret_int HV2.out.symm,BZ.out⟩
  | false =>
   have HV2:Hid (R=0):=HV.out
   go_wp2
   go_ret
   exact⟨ret_int HV2.out.symm,BZ.out⟩
 | false =>
  clear k56
  cases K6 with
  | false =>
   have HV2:Hid (R=0):=HV.out
   rw[show(false&&P1)=false from rfl]
   go_wp2
   go_ret
   exact⟨ret_int HV2.out.symm,BZ.out⟩
  | true =>
   rw[show(false&&P1)=false from rfl]
   go_wp2_with fail
   refine(AP2.out _ HS3.out).mono ?_
   rintro e wd ⟨rfl,hbd⟩
   have BD:=Lib.hid (Below.then_ BZ.out hbd)
   clear hbd
   cases P2 with
   | true =>
    have HV2:Hid (R=0):=HV.out
    go_wp2
    go_ret
    exact⟨ret_int HV2.out.symm,BD.out⟩
   | false =>
    have HV2:Hid (R=6):=HV.out
    go_wp2
    go_ret
    exact⟨ret_int HV2.out.symm,BD.out⟩
set_option maxRecDepth 100000 in
set_option maxHeartbeats 8000000 in
theorem rlegN_any (v:Value) (fx:List Fx) (g:Lg) (w:World) (h:FxsR w v fx) (hz:SzL fx) (hN:fx.length≤1000000) (hok:LgOk g) :
  Calls Tryz.prog 142 #[v,.agg (lgc g).toArray] w fun e w'=>e=.returned (.int .i64 (if lgOkB fx g=true then 0 else 6))∧Below w.heap.size w w':=by
 obtain⟨ty,fi,ce,tn,ov,cr,ds,ra,th,lo,hi,sp,rn⟩:=g
 obtain⟨A,c,rfl,hcc,hm⟩:=h.form
 have HV:Hid (lgOkB fx ⟨ty,fi,ce,tn,ov,cr,ds,ra,th,lo,hi,sp,rn⟩=((decide (fi=[]) || rfsB fx fi)&&(decide (ce=[]) || rfsB fx ce))):=rfl
 have KN:=Lib.hid (fun W (h:FxsR W (.slice A fx.length c) fx) (t:List UInt8)=>(rknown_any _ fx (sb t) W h hz (by omega)).mono (R':=fun e w'=>e=.returned (.bool (rfsB fx t))∧Below W.heap.size W w') (fun e w' h=>⟨by rw[h.1,bl_sb];rfl,h.2⟩))
 have H:=Lib.hid h
 obtain⟨w1,hw1⟩:∃W,w.alloc (.cells #[.int .u8 (ty:Int),.string (sb fi),.string (sb ce),.int .u8 (tn:Int),.bool ov,.int .i64 cr,.int .i64 ds,.int .i64 ra,.int .i64 th,.int .i64 lo,.int .i64 hi,.int .i64 sp,.int .i64 rn] 65)=W:=⟨_,rfl⟩
 obtain⟨q,hq⟩:∃x,w.heap.size=x:=⟨_,rfl⟩
 have B1:Hid (Below w.heap.size w w1):=by rw[←hw1];exact(Below.refl _ _).alloc (Nat.le_refl _) _
 have X1:Hid (Bx q #[.int .u8 (ty:Int),.string (sb fi),.string (sb ce),.int .u8 (tn:Int),.bool ov,.int .i64 cr,.int .i64 ds,.int .i64 ra,.int .i64 th,.int .i64 lo,.int .i64 hi,.int .i64 sp,.int .i64 rn] 65 w1):=by rw[←hw1,←hq];exact Bx.last w _ _
 have H1:=Lib.hid (H.out.below B1.out)
 have HW:=Lib.hid hw1
 have HQ:=Lib.hid hq
 have s1:=str_nil (a:=fi)
 have s2:=str_nil (a:=ce)
 obtain⟨FI,hFI⟩:∃b,decide (fi=[])=b:=⟨_,rfl⟩
 obtain⟨CE,hCE⟩:∃b,decide (ce=[])=b:=⟨_,rfl⟩
 rw[hFI] at s1 HV
 rw[hCE] at s2 HV
 have K1:=Lib.hid (fun W h=>KN.out W h fi)
 have K2:=Lib.hid (fun W h=>KN.out W h ce)
 obtain⟨F,hF⟩:∃b,rfsB fx fi=b:=⟨_,rfl⟩
 obtain⟨C,hC⟩:∃b,rfsB fx ce=b:=⟨_,rfl⟩
 rw[hF] at K1 HV
 rw[hC] at K2 HV
 rw[HV.out]
 obtain⟨Z,hZ⟩:∃Z:Int,(if ((FI || F)&&(CE || C))=true then (0:Int) else 6)=Z:=⟨_,rfl⟩
 have HZ:=Lib.hid hZ
 rw[hZ]
 clear hZ
 obtain⟨n,hn⟩:∃n,fx.length=n:=⟨_,rfl⟩
 rw[hn] at H1 K1 K2 ⊢
 have x1:=X1.out.cell 1 (u:=.string (sb fi)) rfl
 have x2:=X1.out.cell 2 (u:=.string (sb ce)) rfl
 have xl:=X1.out.lt
 unfold lgc
 clear h hz hN hok hcc hw1 hq hFI hCE hF hC KN HV H hn
 go_enter Tryz.func142,Tryz.ntmps142
 go_upto_region 1 with fail
 rw[HW.out,HQ.out]
 clear HW
 go_cut [26] (fun v wx=>v=.bool (!((FI || F)&&(CE || C)))∧Hid (Below w.heap.size w wx))
 case first =>
  cases FI
  ·go_wp2_with fail
   refine(K1.out _ H1.out).mono ?_
   rintro e w2 ⟨rfl,hb2⟩
   have B2:=Lib.hid (Below.then_ B1.out hb2)
   have X2:=Lib.hid (X1.out.via hb2)
   have H2:=Lib.hid (H1.out.below hb2)
   clear hb2 x1 x2 xl
   have x2:=X2.out.cell 2 (u:=.string (sb ce)) rfl
   have xl:=X2.out.lt
   cases F
   ·go_wp2
    go_meet
    exact⟨rfl,B2.out⟩
   ·cases CE
    ·go_wp2_with fail
     refine(K2.out _ H2.out).mono ?_
     rintro e w3 ⟨rfl,hb3⟩
     have B3:=Lib.hid (Below.then_ B2.out hb3)
     clear hb3 x2 xl
     cases C
     ·go_wp2
      go_meet
      exact⟨rfl,B3.out⟩
     ·go_wp2
      go_meet
      exact⟨rfl,B3.out⟩
    ·go_wp2
     go_meet
     exact⟨rfl,B2.out⟩
  ·cases CE
   ·go_wp2_with fail
    refine(K2.out _ H1.out).mono ?_
    rintro e w3 ⟨rfl,hb3⟩
    have B3:=Lib.hid (Below.then_ B1.out hb3)
    clear hb3 x1 x2 xl
    cases C
    ·go_wp2
     go_meet
     exact⟨rfl,B3.out⟩
    ·go_wp2
     go_meet
     exact⟨rfl,B3.out⟩
   ·go_wp2
    go_meet
    exact⟨rfl,B1.out⟩
 case rest =>
 obtain⟨rfl,hb⟩:=hcut
 obtain⟨G,hG⟩:∃b,((FI || F)&&(CE || C))=b:=⟨_,rfl⟩
 rw[hG] at HZ
 rw[hG]
 clear hG s1 s2 x1 x2 xl
 cases G
 ·go_wp2
  go_ret
  exact⟨ret_int HZ.out,hb.out⟩
 ·go_wp2
  go_ret
  exact⟨ret_int HZ.out,hb.out⟩
theorem all_step {α : Type} {l:List α} {k:Nat} (p : α → Bool) (hk:k<l.length):(l.drop k).all p=(p l[k]&&(l.drop (k+1)).all p):=by
 rw[List.drop_eq_getElem_cons hk];rfl
theorem all_end {α : Type} {l:List α} {k:Nat} (p : α → Bool) (hk:l.length≤k):(l.drop k).all p=true:=by
 rw[List.drop_eq_nil_of_le hk];rfl
structure NmS (w:World) (b:Nat) (pv:Value) (p:Prc) (wr:World):Prop where
 pb:Bx b #[.string (sb p.ap),.string (sb p.nm),.int .u8 (p.kd:Int),pv] 57 wr
 be:Below w.heap.size w wr
theorem NmS.below {w:World} {b:Nat} {pv:Value} {p:Prc} {wr w':World} (h:NmS w b pv p wr) (hb:Below wr.heap.size wr w'):NmS w b pv p w':=⟨h.pb.via hb,Below.then_ h.be hb⟩
set_option maxRecDepth 100000 in
set_option maxHeartbeats 16000000 in
theorem rnamed_any (v pv:Value) (fx:List Fx) (p:Prc) (w:World) (h:FxsR w v fx) (hz:SzL fx) (hN:fx.length≤1000000) (hp:PasR w pv p.pa) (hL:∀x∈p.pa,x.lg.length≤1000000) (hP:p.pa.length≤1000000) :
  Calls Tryz.prog 58 #[v,.agg (prc (pv,p)).toArray] w fun e w'=>e=.returned (.int .i64 (nmpE fx p))∧Below w.heap.size w w':=by
 obtain⟨R1,hR1⟩:∃b,(p.pa.all fun x=>rwOkR fx p x)=b:=⟨_,rfl⟩
 obtain⟨R2,hR2⟩:∃b,(p.pa.all fun x=>x.lg.all fun g=>lgOkB fx g)=b:=⟨_,rfl⟩
 obtain⟨RA,hRA⟩:∃b,aptB fx p.ap=b:=⟨_,rfl⟩
 have HE:Hid (nmpE fx p=if RA=false then 6 else if R1=false then 6 else if R2=false then 6 else 0):=by
  unfold Hid nmpE nmdL
  rw[hR1,hR2,hRA]
  cases RA <;> cases R1 <;> cases R2 <;> rfl
 obtain⟨R,hR⟩:∃R,nmpE fx p=R:=⟨_,rfl⟩
 rw[hR] at HE
 rw[hR]
 have H10:Hid ((p.pa.drop 0).all (fun x=>rwOkR fx p x)=R1):=hR1
 have H20:Hid ((p.pa.drop 0).all (fun x=>x.lg.all fun g=>lgOkB fx g)=R2):=hR2
 obtain⟨A,c,rfl,hcc,hm⟩:=h.form
 obtain⟨Ap,cp,rfl,hcp,hmp⟩:=hp.form
 unfold maxLen at hmp
 have AP:=Lib.hid (fun W (h:FxsR W (.slice A fx.length c) fx)=>(rairport_any _ fx (sb p.ap) W h (by omega)).mono (R':=fun e w'=>e=.returned (.bool (aptB fx p.ap))∧Below W.heap.size W w') (fun e w' h=>⟨by rw[h.1,bl_sb];rfl,h.2⟩))
 rw[hRA] at AP
 have RW:=Lib.hid (fun(x:Pa) W (h:FxsR W (.slice A fx.length c) fx)=>(rrunwayF_any _ fx (sb p.ap) (sb x.nm) W h (by omega)).mono (R':=fun e w'=>e=.returned (.bool (rwR fx p.ap x.nm))∧Below W.heap.size W w') (fun e w' h=>⟨by rw[h.1,bl_sb,bl_sb];rfl,h.2⟩))
 have LN:=Lib.hid (fun(g:Lg) W (h:FxsR W (.slice A fx.length c) fx) (hok:LgOk g)=>rlegN_any _ fx g W h hz hN hok)
 have H:=Lib.hid h
 have HP:=Lib.hid hp
 have HL:=Lib.hid hL
 obtain⟨n,hn⟩:∃n,fx.length=n:=⟨_,rfl⟩
 obtain⟨m,hmm⟩:∃m,p.pa.length=m:=⟨_,rfl⟩
 have HM:=Lib.hid hmm
 rw[hn] at H AP RW LN ⊢
 rw[hmm] at HP hcp ⊢
 have hmb:m≤1000000:=by rw[←hmm];exact hP
 obtain⟨q,hq⟩:∃q,w.heap.size=q:=⟨_,rfl⟩
 obtain⟨w0,hw0⟩:∃W,w.alloc (.cells #[.string (sb p.ap),.string (sb p.nm),.int .u8 (p.kd:Int),.slice Ap m cp] 57)=W:=⟨_,rfl⟩
 have S0:Hid (NmS w q (.slice Ap m cp) p w0):=⟨by rw[←hw0,←hq];exact Bx.last w _ _,by rw[←hw0];exact(Below.refl _ _).alloc (Nat.le_refl _) _⟩
 have HW:=Lib.hid hw0
 have HQ:=Lib.hid hq
 unfold prc
 simp only
 clear h hz hN hp hL hP hR1 hR2 hRA hR hn hmm hw0 hq hcc
 go_enter Tryz.func58,Tryz.ntmps58
 go_upto_region 1 with fail
 rw[HW.out,HQ.out]
 clear HW
 have x0:=S0.out.pb.cell 0 (u:=.string (sb p.ap)) rfl
 have xl:=S0.out.pb.lt
 go_wp2_with fail
 refine(AP.out _ (H.out.below S0.out.be)).mono ?_
 rintro e w1 ⟨rfl,hb1⟩
 have S1:=Lib.hid (S0.out.below hb1)
 clear hb1 S0 x0 xl AP
 cases RA with
 | false =>
  have HV:Hid (R=6):=HE.out
  have BE:=Lib.hid S1.out.be
  go_wp2
  go_ret
  exact⟨ret_int HV.out.symm,BE.out⟩
 | true =>
 rw[if_neg (by decide)] at HE
 have x3:=S1.out.pb.cell 3 (u:=.slice Ap m cp) rfl
 have xl:=S1.out.pb.lt
 go_wp2_with fail
 go_loopw [19] (fun iv wr=>∃k:Nat,k≤m∧iv=.int .i64 (k:Int)∧Hid ((p.pa.drop k).all (fun x=>rwOkR fx p x)=R1)∧Hid (NmS w q (.slice Ap m cp) p wr)) (fun iv _=>m-(intOf iv).toNat)
 case atStart=>exact⟨0,Nat.zero_le _,rfl,H10.out,S1.out⟩
 case round =>
  obtain⟨k,hk,rfl,hr,hs⟩:=hrel
  clear x3 xl
  by_cases hlt:k<m
  ·have hki:(k:Int)<(m:Int):=by omega
   have hkl:k<p.pa.length:=by rw[HM.out];exact hlt
   have HP2:=Lib.hid (HP.out.below hs.out.be)
   obtain⟨g,o,c',lv,hv,hg,hat,hnm,hkd,hlg⟩:=HP2.out.at_ hkl
   rw[HM.out] at hv
   simp only[Value.slice.injEq,true_and] at hv
   obtain⟨rfl,rfl⟩:=hv
   have HST:=Lib.hid (all_step (fun x=>rwOkR fx p x) hkl)
   obtain⟨x,hx⟩:∃x,p.pa[k]=x:=⟨_,rfl⟩
   rw[hx] at hat hnm hkd hlg HST
   obtain⟨Al,cl,rfl,_,_⟩:=hlg.form
   obtain⟨ml,hml⟩:∃m2,x.lg.length=m2:=⟨_,rfl⟩
   rw[hml] at hat
   obtain⟨a0,a1,a2⟩:=hat
   have k1:=u8_beq x.kd 1
   replace k1:((x.kd:Int) == 1)=(x.kd == 1):=k1
   have HRX:Hid (rwOkR fx p x=(!(x.kd == 1) || rwR fx p.ap x.nm)):=rfl
   have RWX:=Lib.hid (RW.out x)
   obtain⟨K1,hK1⟩:∃b,(x.kd == 1)=b:=⟨_,rfl⟩
   obtain⟨F,hF⟩:∃b,rwR fx p.ap x.nm=b:=⟨_,rfl⟩
   rw[hK1] at k1 HRX
   rw[hF] at HRX RWX
   rw[HRX.out] at HST
   obtain⟨q6,hq6⟩:∃q,wr.heap.size=q:=⟨_,rfl⟩
   obtain⟨wA,hwA⟩:∃W,wr.alloc (.cells #[.int .u8 (x.kd:Int),.string (sb x.nm),.slice Al ml cl] 62)=W:=⟨_,rfl⟩
   have hbA:Below wr.heap.size wr wA:=by rw[←hwA];exact(Below.refl _ _).alloc (Nat.le_refl _) _
   have SA:=Lib.hid (hs.out.below hbA)
   have ZA:Hid (Bx q6 #[.int .u8 (x.kd:Int),.string (sb x.nm),.slice Al ml cl] 62 wA):=by rw[←hwA,←hq6];exact Bx.last wr _ _
   have HWA:=Lib.hid hwA
   have HQ6:=Lib.hid hq6
   have hgw:g<wr.heap.size:=hg
   clear hx hml hlg hK1 hF HRX hwA hq6 hbA HP2 hg
   go_upto_region 6 with fail
   rw[HWA.out,HQ6.out]
   clear HWA HQ6 a0 a1 a2 hgw
   obtain⟨⟨z0,z1,z2⟩,_⟩:=ZA.out.cells3
   have zl:=ZA.out.lt
   have x0:=SA.out.pb.cell 0 (u:=.string (sb p.ap)) rfl
   have xl:=SA.out.pb.lt
   cases K1 with
   | false =>
    have HV:Hid ((p.pa.drop (k+1)).all (fun x=>rwOkR fx p x)=R1):=by unfold Hid;rw[←hr.out,HST.out];rfl
    go_wp2
    go_roundw
    case rel=>exact⟨k+1,hlt,by go_num,HV,SA⟩
    case measure=>simp[intOf];omega
   | true =>
    go_wp2_with fail
    refine(RWX.out _ (H.out.below SA.out.be)).mono ?_
    rintro e wB ⟨rfl,hbB⟩
    have SB:=Lib.hid (SA.out.below hbB)
    clear hbB SA ZA z0 z1 z2 zl x0 xl
    cases F with
    | true =>
     have HV:Hid ((p.pa.drop (k+1)).all (fun x=>rwOkR fx p x)=R1):=by unfold Hid;rw[←hr.out,HST.out];rfl
     go_wp2
     go_roundw
     case rel=>exact⟨k+1,hlt,by go_num,HV,SB⟩
     case measure=>simp[intOf];omega
    | false =>
     have HV:Hid (R=6):=by
      have h1:R1=false:=by rw[←hr.out,HST.out];rfl
      unfold Hid;rw[HE.out,if_pos h1]
     have BE:=Lib.hid SB.out.be
     go_wp2
     go_ret
     exact⟨ret_int HV.out.symm,BE.out⟩
  ·have hki:¬(k:Int)<(m:Int):=by omega
   have h1:R1=true:=by rw[←hr.out];exact all_end _ (by rw[HM.out];omega)
   rw[h1,if_neg (by decide)] at HE
   have SS:=Lib.hid hs.out
   have x3:=hs.out.pb.cell 3 (u:=.slice Ap m cp) rfl
   have xl:=hs.out.pb.lt
   clear h1 hr hlt hk H10
   go_wp2_with fail
   go_loopw [39] (fun iv wr=>∃k:Nat,k≤m∧iv=.int .i64 (k:Int)∧Hid ((p.pa.drop k).all (fun x=>x.lg.all fun g=>lgOkB fx g)=R2)∧Hid (NmS w q (.slice Ap m cp) p wr)) (fun iv _=>m-(intOf iv).toNat)
   case atStart=>exact⟨0,Nat.zero_le _,rfl,H20.out,SS.out⟩
   case round =>
    obtain⟨k2,hk,rfl,hr,hs2⟩:=hrel
    clear x3 xl hki hs SS
    by_cases hlt:k2<m
    ·have hki:(k2:Int)<(m:Int):=by omega
     have hkl:k2<p.pa.length:=by rw[HM.out];exact hlt
     have HP2:=Lib.hid (HP.out.below hs2.out.be)
     obtain⟨g,o,c',lv,hv,hg,hat,hnm,hkd,hlg⟩:=HP2.out.at_ hkl
     rw[HM.out] at hv
     simp only[Value.slice.injEq,true_and] at hv
     obtain⟨rfl,rfl⟩:=hv
     have HST:=Lib.hid (all_step (fun x:Pa=>x.lg.all fun g=>lgOkB fx g) hkl)
     have hll:=HL.out _ (List.getElem_mem hkl)
     obtain⟨x,hx⟩:∃x,p.pa[k2]=x:=⟨_,rfl⟩
     rw[hx] at hat hnm hkd hlg HST hll
     obtain⟨Al,cl,rfl,hcl,hmcl⟩:=hlg.form
     unfold maxLen at hmcl
     have HLG:=Lib.hid hlg
     obtain⟨RL,hRL⟩:∃b,(x.lg.all fun g=>lgOkB fx g)=b:=⟨_,rfl⟩
     have HRL0:Hid ((x.lg.drop 0).all (fun g=>lgOkB fx g)=RL):=hRL
     rw[hRL] at HST
     obtain⟨ml,hml⟩:∃m2,x.lg.length=m2:=⟨_,rfl⟩
     rw[hml] at hat hcl hll HLG
     have HML:=Lib.hid hml
     obtain⟨a0,a1,a2⟩:=hat
     obtain⟨q6,hq6⟩:∃q,wr.heap.size=q:=⟨_,rfl⟩
     obtain⟨wA,hwA⟩:∃W,wr.alloc (.cells #[.int .u8 (x.kd:Int),.string (sb x.nm),.slice Al ml cl] 62)=W:=⟨_,rfl⟩
     have hbA:Below wr.heap.size wr wA:=by rw[←hwA];exact(Below.refl _ _).alloc (Nat.le_refl _) _
     have SA:=Lib.hid (hs2.out.below hbA)
     have LA:=Lib.hid (HLG.out.below hbA)
     have ZA:Hid (Bx q6 #[.int .u8 (x.kd:Int),.string (sb x.nm),.slice Al ml cl] 62 wA):=by rw[←hwA,←hq6];exact Bx.last wr _ _
     have HWA:=Lib.hid hwA
     have HQ6:=Lib.hid hq6
     have hgw:g<wr.heap.size:=hg
     clear hx hml hlg hRL hwA hq6 hbA HP2 hg HLG
     go_upto_region 12 with fail
     rw[HWA.out,HQ6.out]
     clear HWA HQ6 a0 a1 a2 hgw
     obtain⟨⟨z0,z1,z2⟩,_⟩:=ZA.out.cells3
     have zl:=ZA.out.lt
     go_wp2_with fail
     go_loopw [46] (fun iv wy=>∃j:Nat,j≤ml∧iv=.int .i64 (j:Int)∧Hid ((x.lg.drop j).all (fun g=>lgOkB fx g)=RL)∧Hid (NmS w q (.slice (some ⟨g,o,none⟩) m cp) p wy)∧Hid (Below wA.heap.size wA wy)) (fun iv _=>ml-(intOf iv).toNat)
     case atStart=>exact⟨0,Nat.zero_le _,rfl,HRL0.out,SA.out,Below.refl _ _⟩
     case round =>
      obtain⟨j,hj,rfl,hrl,hsy,hby⟩:=hrel
      clear z0 z1 z2 zl
      by_cases hjt:j<ml
      ·have hji:(j:Int)<(ml:Int):=by omega
       have hjl:j<x.lg.length:=by rw[HML.out];exact hjt
       have L2:Hid (LgsR wr (.slice Al ml cl) x.lg):=LA.out.below hby.out
       obtain⟨g2,o2,c2,hv2,hg2,hat2,hok2⟩:=L2.out.at_ hjl
       rw[HML.out] at hv2
       simp only[Value.slice.injEq,true_and] at hv2
       obtain⟨rfl,rfl⟩:=hv2
       have HSL:=Lib.hid (all_step (fun g:Lg=>lgOkB fx g) hjl)
       obtain⟨y,hy⟩:∃y,x.lg[j]=y:=⟨_,rfl⟩
       rw[hy] at hat2 hok2 HSL
       have HAT:Hid (∀j2 u,(lgc y)[j2]? = some u→wr.cell? ⟨g2,o2+j*13+j2,none⟩=some u):=hat2
       have HONE:Hid (∀u∈lgc y,u.oneCell'=true):=lgc_one y
       obtain⟨q10,hq10⟩:∃q,wr.heap.size=q:=⟨_,rfl⟩
       obtain⟨wB,hwB⟩:∃W,wr.alloc (.cells (lgc y).toArray 65)=W:=⟨_,rfl⟩
       have hbB:Below wr.heap.size wr wB:=by rw[←hwB];exact(Below.refl _ _).alloc (Nat.le_refl _) _
       have SB:=Lib.hid (hsy.out.below hbB)
       have BB:=Lib.hid (Below.then_ hby.out hbB)
       have XB:Hid (Bx q10 (lgc y).toArray 65 wB):=by rw[←hwB,←hq10];exact Bx.last wr _ _
       have HWB:=Lib.hid hwB
       have HQ10:=Lib.hid hq10
       have LNY:=Lib.hid (fun W h=>LN.out y W h hok2)
       have hgw2:g2<wr.heap.size:=hg2
       obtain⟨FL,hFL⟩:∃b,lgOkB fx y=b:=⟨_,rfl⟩
       rw[hFL] at LNY HSL
       clear hat2 hy hwB hq10 hbB hg2 L2 hok2 hFL
       go_upto_region 15 with (first|(with_reducible refine wpList_load_wide rfl 65 (.tmp 48) rfl g2 (o2+j*13) rfl (lgc y) 13 rfl (aggLegD _) (sizeLegD _) HAT.out ?_)|(refine wpList_store_last wr _ rfl 65 (.tmp 10) (.tmp 49) rfl rfl (lgc y) rfl infoLegSD rfl HONE.out ?_))
       rw[HWB.out,HQ10.out]
       clear HWB
       have xl:=XB.out.lt
       have XC:Hid (∀j u,(lgc y)[j]? = some u→wB.cell? ⟨q10,0+j,none⟩=some u):=fun j u hu=>by
        rw[Nat.zero_add];exact Bx.cell XB.out j (by rw[List.getElem?_toArray];exact hu)
       go_wp2_with (with_reducible refine wpList_load_wide rfl 65 (.tmp 10) rfl q10 0 rfl (lgc y) 13 rfl (aggLegD _) (sizeLegD _) XC.out ?_)
       refine(LNY.out _ (H.out.below SB.out.be)).mono ?_
       rintro e wC ⟨rfl,hbC⟩
       have SC:=Lib.hid (SB.out.below hbC)
       have BC:=Lib.hid (Below.then_ BB.out hbC)
       clear hbC SB BB XB XC xl HAT LNY HQ10 hgw2
       cases FL with
       | true =>
        have HV:Hid ((x.lg.drop (j+1)).all (fun g=>lgOkB fx g)=RL):=by unfold Hid;rw[←hrl.out,HSL.out];rfl
        rw[if_pos rfl]
        go_wp2
        go_roundw
        case rel=>exact⟨j+1,hjt,by go_num,HV,SC,BC⟩
        case measure=>simp[intOf];omega
       | false =>
        have HV:Hid (R=6):=by
         have h1:RL=false:=by rw[←hrl.out,HSL.out];rfl
         have h2:R2=false:=by rw[←hr.out,HST.out,h1];rfl
         unfold Hid;rw[HE.out,if_pos h2]
        have BE:=Lib.hid SC.out.be
        rw[if_neg (by decide)]
        go_wp2
        go_ret
        exact⟨ret_int HV.out.symm,BE.out⟩
      ·have hji:¬(j:Int)<(ml:Int):=by omega
       have h1:RL=true:=by rw[←hrl.out];exact all_end _ (by rw[HML.out];omega)
       have HV:Hid ((p.pa.drop (k2+1)).all (fun x=>x.lg.all fun g=>lgOkB fx g)=R2):=by unfold Hid;rw[←hr.out,HST.out,h1];rfl
       have SY:=Lib.hid hsy.out
       clear h1 hjt hrl
       go_wp2
       go_roundw
       case rel=>exact⟨k2+1,hlt,by go_num,HV,SY⟩
       case measure=>simp[intOf];omega
    ·have hki:¬(k2:Int)<(m:Int):=by omega
     have HV:Hid (R=0):=by
      have h1:R2=true:=by rw[←hr.out];exact all_end _ (by rw[HM.out];omega)
      unfold Hid;rw[HE.out,h1];rfl
     have BE:=Lib.hid hs2.out.be
     go_wp2
     go_ret
     exact⟨ret_int HV.out.symm,BE.out⟩
end Go.Proofs.YtgmehlgfilpleaaGreatDoor
