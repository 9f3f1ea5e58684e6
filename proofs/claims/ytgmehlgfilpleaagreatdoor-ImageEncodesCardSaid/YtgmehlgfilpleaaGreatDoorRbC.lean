/-
  Contract: the four sections' bytes (the reference's writing of an image). Printed by gen-con.py.
-/
import Derived.Test.YtgmehlgfilpleaaGreatDoorRbM
import Derived.Test.YtgmehlgfilpleaaGreatDoorImF
namespace Go.Proofs.YtgmehlgfilpleaaGreatDoor
open Go.RowKit
set_option linter.unusedVariables false
set_option linter.unusedSimpArgs false
structure CoW (w0 wB:World) (q:Nat) (db:Array Value) (out:List UInt8) (v:Value) (wr:World):Prop where
 b0:Below w0.heap.size w0 wB
 x0:Bx q db 30 wB
 f:Below wB.heap.size wB wr
 r:RowB wB.heap.size out v wr
section
variable {w0 wB wr w':World} {q:Nat} {db:Array Value} {out out':List UInt8} {v v':Value}
theorem CoW.be (h:CoW w0 wB q db out v wr):Below w0.heap.size w0 wr:=Below.then_ h.b0 h.f
theorem CoW.x (h:CoW w0 wB q db out v wr):Bx q db 30 wr:=h.x0.via h.f
theorem CoW.below (h:CoW w0 wB q db out v wr) (hb:Below wr.heap.size wr w'):CoW w0 wB q db out v w':=⟨h.b0,h.x0,Below.then_ h.f hb,h.r.below hb⟩
theorem CoW.push (h:CoW w0 wB q db out v wr) (R:RowB wB.heap.size out' v' w') (G:Fw wB.heap.size wr w'):CoW w0 wB q db out' v' w':=⟨h.b0,h.x0,h.f.trans G.be,R⟩
end
section
variable {w:World} {ops:Array Oper} {rest:List Oper} {o:Oper} {a:Act} {Q:Exit→Act→World→Prop}
theorem wpList_co (hgd:o.guard=none) (s x:Operand) (ho:o.op=.call {callee:=.builtin .append,args := #[s,x],argTypes := #[68,68]})
  (w0 wB:World) (q:Nat) (db:Array Value) (out src:List UInt8) (v y:Value) (hs:a.eval s=v) (hC:CoW w0 wB q db out v w) (hx:a.eval x=y) (hS:SrcB src y w) (hN:out.length+src.length≤1000000) (res:List UInt8) (hres:out++src=res)
  (h:∀A c w',Hid (CoW w0 wB q db res (.slice A res.length c) w')→Hid (Fw wB.heap.size w w')→wpList Tryz.prog ops Q rest (a.put o.dst (.slice A res.length c)) w'):wpList Tryz.prog ops Q (o::rest) a w :=
 wpList_appB hgd s x ho wB.heap.size out src v y hs hC.r hx hS (by omega) hC.f.size res res.length hres rfl fun A c w' R G=>h A c w' (hC.push R.out G.out) G
end
theorem take_leB {α : Type} (c : α → List UInt8) (l:List α) {k:Nat} (hk:k<l.length):((l.take k).flatMap c).length+(c l[k]).length≤(l.flatMap c).length:=by
 have h1:l.flatMap c=(l.take k).flatMap c++(c l[k]++(l.drop (k+1)).flatMap c):=by
  rw[←List.flatMap_cons,←List.flatMap_append,←List.drop_eq_getElem_cons hk,List.take_append_drop]
 rw[h1,List.length_append,List.length_append];omega
theorem take_moreB {α : Type} (c : α → List UInt8) (l:List α) {k:Nat} (hk:k<l.length):(l.take (k+1)).flatMap c=(l.take k).flatMap c++c l[k]:=by
 rw[List.take_succ_eq_append_getElem hk,List.flatMap_append,List.flatMap_cons,List.flatMap_nil,List.append_nil]
theorem dbB_partsB {D:DbD} (h:(dbB D).length≤900000):(lowB (D.fx.length:Int) 2++D.fx.flatMap fxB).length+(lowB (D.aw.length:Int) 2++D.aw.flatMap awB).length+(lowB (D.pr.length:Int) 2++D.pr.flatMap prB).length+(hdB D.hd).length+19≤900000:=by
 unfold dbB conB secsB secsB secsB secsB secsB at h
 simp only[List.length_append,secB_len] at h ⊢
 simp only[List.length_nil] at h
 have e:magicL.length=4:=rfl
 omega
def ConPost (D:DbD) (w:World) (e:Ending) (w':World):Prop:=∃(g na nb nc nd ca cb cc cd:Nat) (Aa Ab Ac Ad:Option Addr),e=.returned (.slice (some ⟨g,0,none⟩) 4 4)∧Bx g #[.slice Aa na ca,.slice Ab nb cb,.slice Ac nc cc,.slice Ad nd cd] 68 w' ∧
 RowB w.heap.size (hdB D.hd) (.slice Aa na ca) w'∧RowB w.heap.size (lowB (D.fx.length:Int) 2++D.fx.flatMap fxB) (.slice Ab nb cb) w'∧RowB w.heap.size (lowB (D.aw.length:Int) 2++D.aw.flatMap awB) (.slice Ac nc cc) w'∧RowB w.heap.size (lowB (D.pr.length:Int) 2++D.pr.flatMap prB) (.slice Ad nd cd) w'∧Below w.heap.size w w'
set_option maxRecDepth 100000 in
set_option maxHeartbeats 80000000 in
theorem rcontents_any (D:DbD) (f a p:Value) (w:World) (h:DbV w f a p D) (hdb:DbB D) (hN:(dbB D).length≤900000) :
  Calls Tryz.prog 159 #[.agg (dbC D.hd f a p).toArray] w (ConPost D w):=by
 have HH:=Lib.hid h
 obtain⟨Af,cf,rfl,hcf,hmf⟩:=h.fx.1.form
 obtain⟨Aa,ca,rfl,hca,hma⟩:=h.aw.form
 obtain⟨Ap,cp,rfl,hcp,hmp⟩:=h.pr.form
 unfold maxLen at hmf hma hmp
 have HPT:=dbB_partsB hN
 obtain⟨n,hn⟩:∃n,D.fx.length=n:=⟨_,rfl⟩
 obtain⟨na,hna⟩:∃n,D.aw.length=n:=⟨_,rfl⟩
 obtain⟨np,hnp⟩:∃n,D.pr.length=n:=⟨_,rfl⟩
 rw[hn,hna,hnp] at HH HPT
 rw[hn] at hcf
 rw[hna] at hca
 rw[hnp] at hcp
 rw[hn,hna,hnp]
 replace HPT:=Lib.hid HPT
 have HNF:=Lib.hid hn
 have HNA:=Lib.hid hna
 have HNP:=Lib.hid hnp
 have HDB:=Lib.hid hdb
 obtain⟨w1,hw1⟩:∃W,w.alloc (.cells (dbA D.hd (.slice Af n cf) (.slice Aa na ca) (.slice Ap np cp)) 30)=W:=⟨_,rfl⟩
 have HB1:Hid (Below w.heap.size w w1):=by rw[←hw1];exact(Below.refl _ _).alloc (Nat.le_refl _) _
 obtain⟨q,hq⟩:∃q,w.heap.size=q:=⟨_,rfl⟩
 have X1:Hid (Bx q (dbA D.hd (.slice Af n cf) (.slice Aa na ca) (.slice Ap np cp)) 30 w1):=by rw[←hw1,←hq];exact Bx.last w _ _
 have x0:=X1.out.cell 0 (u:=.string (sb D.hd.nm)) rfl
 have x1:=X1.out.cell 1 (u:=.int .i64 D.hd.cy) rfl
 have x2:=X1.out.cell 2 (u:=.int .i64 D.hd.fr) rfl
 have x3:=X1.out.cell 3 (u:=.int .i64 D.hd.tu) rfl
 have x4:=X1.out.cell 4 (u:=.int .i64 D.hd.la) rfl
 have x5:=X1.out.cell 5 (u:=.int .i64 D.hd.lo) rfl
 have xl:=Bx.lt X1.out
 have HQ:=Lib.hid hq
 rw[dbA_eq]
 unfold dbA
 unfold dbA at hw1
 have HW1:=Lib.hid hw1
 obtain⟨w2,hw2⟩:∃W,w1.alloc (.cells (hdA D.hd) 25)=W:=⟨_,rfl⟩
 have hb2:Below w1.heap.size w1 w2:=by rw[←hw2];exact(Below.refl _ _).alloc (Nat.le_refl _) _
 obtain⟨qh,hqh⟩:∃x,w1.heap.size=x:=⟨_,rfl⟩
 have Y2:Hid (Bx qh (hdA D.hd) 25 w2):=by rw[←hw2,←hqh];exact Bx.last w1 _ _
 have X2:=Lib.hid (X1.out.via hb2)
 have B2:=Lib.hid (Below.then_ HB1.out hb2)
 have Zw2:Hid (w.heap.size≤w2.heap.size):=B2.out.size
 unfold hdA at hw2
 have HW2:=Lib.hid hw2
 have HQH:=Lib.hid hqh
 clear h hw1 hq hn hna hnp hN hdb hw2 hqh hb2
 go_enter Tryz.func159,Tryz.ntmps159
 go_upto_region 1 with fail
 rw[HW1.out,HQ.out]
 clear HW1
 go_upto_region 2 with fail
 rw[HW2.out,HQH.out]
 clear HW2 HQH x0 x1 x2 x3 x4 x5 xl HB1 X1 HQ
 have y0:=Y2.out.cell 0 (u:=.string (sb D.hd.nm)) rfl
 have yl:=Y2.out.lt
 go_wp2_with fail
 refine(rstrL_any D.hd.nm _ HDB.out.nm).mono ?_
 rintro e wa ⟨A1,c1,rfl,ho,hb⟩
 have h0:CoW w w2 q (dbA D.hd (.slice Af n cf) (.slice Aa na ca) (.slice Ap np cp)) (tx1 D.hd.nm) (.slice A1 (tx1 D.hd.nm).length c1) wa:=⟨B2.out,X2.out,hb,ho⟩
 have Y1:=Lib.hid (Y2.out.via hb)
 obtain⟨OA,hOA⟩:∃L,tx1 D.hd.nm=L:=⟨_,rfl⟩
 have HBN:Hid (OA.length+40≤900000):=by rw[←hOA];unfold Hid;rw[tx1_len];have:=HDB.out.nm;omega
 rw[hOA] at h0 ⊢
 have POA:=Lib.hid hOA
 have C1:=Lib.hid h0
 clear hOA h0 ho hb Y2 X2 B2 y0 yl
 -- the header's section
 obtain⟨xs1,hxs⟩:∃xs,[D.hd.cy,D.hd.fr,D.hd.tu,D.hd.la,D.hd.lo]=xs:=⟨_,rfl⟩
 have HXS1:=Lib.hid hxs
 have HXN1:Hid (xs1.length=5):=by rw[←hxs];rfl
 clear hxs
 have y1:=Y1.out.cell 1 (u:=.int .i64 D.hd.cy) rfl
 have y2:=Y1.out.cell 2 (u:=.int .i64 D.hd.fr) rfl
 have y3:=Y1.out.cell 3 (u:=.int .i64 D.hd.tu) rfl
 have y4:=Y1.out.cell 4 (u:=.int .i64 D.hd.la) rfl
 have y5:=Y1.out.cell 5 (u:=.int .i64 D.hd.lo) rfl
 have yl:=Y1.out.lt
 go_wp2
 go_loopw [4,43] (fun v iv wr=>∃(j:Nat) (out:List UInt8) (A:Option Addr) (c:Nat),j≤5∧iv=.int .i64 (j:Int)∧v=.slice A out.length c∧Hid (out=OA++numB (xs1.take j))∧Hid (CoW w w2 q (dbA D.hd (.slice Af n cf) (.slice Aa na ca) (.slice Ap np cp)) out (.slice A out.length c) wr)∧Hid (NumRow wa.heap.size xs1 wr)) (fun _ iv _=>5-(intOf iv).toNat)
 case atStart =>
  have ba:=(Below.refl wa.heap.size wa).alloc (Nat.le_refl _) (.cells #[.int .i64 D.hd.cy,.int .i64 D.hd.fr,.int .i64 D.hd.tu,.int .i64 D.hd.la,.int .i64 D.hd.lo] 2)
  exact⟨0,OA,_,_,Nat.zero_le _,rfl,rfl,by unfold Hid;rw[List.take_zero];simp[numB],C1.out.below ba,by unfold Hid NumRow;rw[←HXS1.out];exact Bx.last _ _ _⟩
 case round =>
 clear y1 y2 y3 y4 y5 yl C1 Y1
 obtain⟨j,outj,Aj,cj,hj,rfl,rfl,hoj,hCj,hnr⟩:=hrel
 have hxn:=HXN1.out
 by_cases hlj:j<5
 ·have hji:(j:Int)<5:=by omega
  obtain⟨x,hx⟩:∃x,xs1[j]? = some x:=⟨_,List.getElem?_eq_getElem (by omega)⟩
  have hc:=hnr.out.cell hx
  have HXK:=Lib.hid hx
  have HLJ:=Lib.hid hlj
  have L9:Hid (outj.length=OA.length+8*j):=by unfold Hid;rw[hoj.out,List.length_append,numB_len,List.length_take];omega
  have P9:Hid (outj++lowB x 8=OA++numB (xs1.take (j+1))):=by unfold Hid;rw[numB_step hx,hoj.out,List.append_assoc]
  clear hx hxn hoj
  go_wp2_with fail
  refine(rlow8_any x _).mono ?_
  rintro e u9 ⟨B9,b9,rfl,ho,hb⟩
  have K9:=Lib.hid (hCj.out.below hb)
  have S9:=Lib.hid ho.src
  have N9:=Lib.hid (Bx.via hb hnr.out)
  obtain⟨O9,hO⟩:∃L,outj++lowB x 8=L:=⟨_,rfl⟩
  have Q9:=Lib.hid hO
  rw[hO] at P9
  clear ho hb hCj hnr hc hO
  go_wp2_with (at_builtin;refine wpList_co rfl _ _ rfl w w2 q (dbA D.hd (.slice Af n cf) (.slice Aa na ca) (.slice Ap np cp)) outj (lowB x 8) _ _ rfl K9.out rfl S9.out ?d1 O9 Q9.out ?_)
  case d1=>rw[lowB_len];have h9:=HBN.out;have h8:=L9.out;omega
  intro A10 c10 w10 C10 G10
  have N10:Hid (NumRow wa.heap.size xs1 w10):=NumRow.fw N9.out G10.out
  clear K9 S9 N9 G10 L9 Q9
  go_wp2
  go_roundw
  case rel=>exact⟨j+1,O9,A10,c10,HLJ.out,by first|rfl|go_num,rfl,P9,C10,N10⟩
  case measure=>simp[intOf];omega
 ·have ej:j=5:=by omega
  subst ej
  have HE1:Hid (outj=OA++numB xs1):=by unfold Hid;rw[hoj.out,List.take_of_length_le (by omega)]
  clear hoj hnr hxn hlj hj
  have HRA:Hid (RowB w2.heap.size (hdB D.hd) (.slice Aj outj.length cj) wr):=by
   have h:=hCj.out.r
   rw[show outj=hdB D.hd by rw[HE1.out,←POA.out,←HXS1.out];unfold hdB;rw[txtT_one]] at h ⊢;exact h
  obtain⟨NA,hNA⟩:∃m,outj.length=m:=⟨_,rfl⟩
  rw[hNA] at HRA ⊢
  have HNAL:=Lib.hid hNA
  have HB2:=Lib.hid hCj.out.be
  have HX2:=Lib.hid hCj.out.x
  obtain⟨wB,rfl⟩:∃W,W=wr:=⟨_,rfl⟩
  have ZwB:Hid (w.heap.size≤wB.heap.size):=HB2.out.size
  obtain⟨AA,rfl⟩:∃X,X=Aj:=⟨_,rfl⟩
  obtain⟨cA,rfl⟩:∃X,X=cj:=⟨_,rfl⟩
  clear hCj hNA HE1 HXS1 HXN1 HBN
  -- the fixes' section
  have x:=HX2.out.cell 6 (u:=.slice Af n cf) rfl
  have xl:=HX2.out.lt
  go_wp2_with fail
  refine(rlow2_any (n:Int) _).mono ?_
  rintro e u2 ⟨A2,c2,rfl,ho,hb⟩
  have h0:CoW w wB q (dbA D.hd (.slice Af n cf) (.slice Aa na ca) (.slice Ap np cp)) (lowB (n:Int) 2) (.slice A2 (lowB (n:Int) 2).length c2) u2:=⟨HB2.out,HX2.out,hb,ho⟩
  obtain⟨O2,hO⟩:∃L,lowB (n:Int) 2=L:=⟨_,rfl⟩
  rw[hO] at h0 ⊢
  have C2:=Lib.hid h0
  have P2:=Lib.hid hO
  have x2:=C2.out.x.cell 6 (u:=.slice Af n cf) rfl
  have xl2:=C2.out.x.lt
  clear ho hb h0 hO x xl
  try clear hki
  go_wp2
  go_loopw [7,59] (fun v iv wr=>∃(k:Nat) (out:List UInt8) (A:Option Addr) (c:Nat),k≤n∧iv=.int .i64 (k:Int)∧v=.slice A out.length c∧Hid (out=lowB (n:Int) 2++(D.fx.take k).flatMap fxB)∧Hid (CoW w wB q (dbA D.hd (.slice Af n cf) (.slice Aa na ca) (.slice Ap np cp)) out (.slice A out.length c) wr)) (fun _ iv _=>n-(intOf iv).toNat)
  case atStart=>exact⟨0,O2,A2,c2,Nat.zero_le _,rfl,rfl,by unfold Hid;rw[List.take_zero,List.flatMap_nil,List.append_nil,P2.out],C2.out⟩
  case round =>
  clear x2 xl2 C2 P2
  obtain⟨k,out,A,c,hk,rfl,rfl,ho,hC⟩:=hrel
  by_cases hlt:k<n
  ·have hkl:k<D.fx.length:=by rw[HNF.out];exact hlt
   have HR2:=Lib.hid (HH.out.fx.1.below hC.out.be)
   obtain⟨g,o,c',hA,hgl,hat⟩:=FxsR.at_ (by have:=HR2.out;rw[←HNF.out] at this;exact this:FxsR wr (.slice Af D.fx.length cf) D.fx) hkl
   rw[HNF.out] at hA
   simp only[Value.slice.injEq,true_and] at hA
   obtain⟨rfl,rfl⟩:=hA
   have hbd:=HDB.out.fx _ (List.getElem_mem hkl)
   have HTL:=Lib.hid (take_leB fxB D.fx hkl)
   have HTM:=Lib.hid (take_moreB fxB D.fx hkl)
   obtain⟨f,hf⟩:∃f,D.fx[k]=f:=⟨_,rfl⟩
   rw[hf] at hat hbd HTL HTM
   obtain⟨y0,y1,y2,y3,y4,y5,y6⟩:=hat
   have hki:(k:Int)<(n:Int):=by omega
   obtain⟨wA,hwA⟩:∃W,wr.alloc (.cells #[.string (sb f.id),.string (sb f.rg),.int .u8 (f.kd:Int),.int .i64 f.lat,.int .i64 f.lon,.int .i64 f.el,.int .i64 f.ra] 38)=W:=⟨_,rfl⟩
   have ba:Below wr.heap.size wr wA:=by rw[←hwA];exact(Below.refl _ _).alloc (Nat.le_refl _) _
   obtain⟨qf,hqf⟩:∃q,wr.heap.size=q:=⟨_,rfl⟩
   have XA:Hid (Bx qf #[.string (sb f.id),.string (sb f.rg),.int .u8 (f.kd:Int),.int .i64 f.lat,.int .i64 f.lon,.int .i64 f.el,.int .i64 f.ra] 38 wA):=by rw[←hwA,←hqf];exact Bx.last wr _ _
   have CA:=Lib.hid (hC.out.below ba)
   have HWA:=Lib.hid hwA
   have HQF:=Lib.hid hqf
   have HFX:Hid (fxB f=(tx1 f.id++tx1 f.rg)++([u8b f.kd]++numB [f.lat,f.lon,f.el,f.ra])):=by unfold Hid fxB;rw[txtT_two]
   have HBN:Hid (out.length+(f.id.length+f.rg.length+35)≤900000):=by
    have h1:=HTL.out;have h2:=HPT.out;have h3:=congrArg List.length ho.out
    rw[HFX.out] at h1
    simp only[List.length_append,List.length_cons,List.length_nil,numB_len,tx1_len,lowB_len] at h1 h2 h3
    unfold Hid;omega
   have HBD:=Lib.hid hbd
   have HLT:=Lib.hid hlt
   clear hqf hf hwA hC hbd HR2 HTL hkl ba hlt
   go_upto_region 12 with fail
   rw[HWA.out,HQF.out]
   clear HWA y0 y1 y2 y3 y4 y5 y6
   have y:=XA.out.cell 0 (u:=.string (sb f.id)) rfl
   have yl:=XA.out.lt
   go_wp2_with fail
   refine(rstrL_any f.id _ HBD.out.id).mono ?_
   rintro e u3 ⟨B3,b3,rfl,ho,hb⟩
   have K3:=Lib.hid (CA.out.below hb)
   have S3:=Lib.hid ho.src
   have Y3:=Lib.hid (XA.out.via hb)
   obtain⟨O3,hO⟩:∃L,out++tx1 f.id=L:=⟨_,rfl⟩
   have P3:=Lib.hid hO
   have L3:Hid (O3.length=out.length+(f.id.length+1)):=by unfold Hid;rw[←hO,List.length_append];rw[tx1_len]
   clear hO ho hb CA XA y yl
   go_wp2_with (at_builtin;go_loud (refine wpList_co rfl _ _ rfl w wB q (dbA D.hd (.slice (some ⟨g,o,none⟩) n cf) (.slice Aa na ca) (.slice Ap np cp)) out (tx1 f.id) _ _ rfl K3.out rfl S3.out ?d1 O3 P3.out ?_))
   case d1=>rw[tx1_len];have h9:=HBN.out;omega
   intro A3 c3 w3 C3 G
   have X3:=Lib.hid (G.out.bx _ _ _ (by decide) Y3.out)
   clear K3 S3 Y3 G
   have y:=X3.out.cell 1 (u:=.string (sb f.rg)) rfl
   have yl:=X3.out.lt
   go_wp2_with fail
   refine(rstrL_any f.rg _ HBD.out.rg).mono ?_
   rintro e u4 ⟨B4,b4,rfl,ho,hb⟩
   have K4:=Lib.hid (C3.out.below hb)
   have S4:=Lib.hid ho.src
   have Y4:=Lib.hid (X3.out.via hb)
   obtain⟨O4,hO⟩:∃L,O3++tx1 f.rg=L:=⟨_,rfl⟩
   have P4:=Lib.hid hO
   have L4:Hid (O4.length=O3.length+(f.rg.length+1)):=by unfold Hid;rw[←hO,List.length_append];rw[tx1_len]
   clear hO ho hb C3 X3 y yl
   go_wp2_with (at_builtin;go_loud (refine wpList_co rfl _ _ rfl w wB q (dbA D.hd (.slice (some ⟨g,o,none⟩) n cf) (.slice Aa na ca) (.slice Ap np cp)) O3 (tx1 f.rg) _ _ rfl K4.out rfl S4.out ?d1 O4 P4.out ?_))
   case d1=>rw[tx1_len];have h9:=HBN.out;have:=L3.out;omega
   intro A4 c4 w4 C4 G
   have X4:=Lib.hid (G.out.bx _ _ _ (by decide) Y4.out)
   clear K4 S4 Y4 G
   have y:=X4.out.cell 2 (u:=.int .u8 (f.kd:Int)) rfl
   have yl:=X4.out.lt
   have S5:=Lib.hid (SrcB.one w4 HBD.out.kd)
   have ba:=(Below.refl w4.heap.size w4).alloc (Nat.le_refl _) (.cells #[.int .u8 (f.kd:Int)] 5)
   have K5:=Lib.hid (C4.out.below ba)
   have Y5:=Lib.hid (X4.out.via ba)
   obtain⟨O5,hO⟩:∃L,O4++[u8b f.kd]=L:=⟨_,rfl⟩
   have P5:=Lib.hid hO
   have L5:Hid (O5.length=O4.length+1):=by unfold Hid;rw[←hO,List.length_append];rfl
   clear hO ba C4 X4
   go_wp2_with (at_builtin;go_loud (refine wpList_co rfl _ _ rfl w wB q (dbA D.hd (.slice (some ⟨g,o,none⟩) n cf) (.slice Aa na ca) (.slice Ap np cp)) O4 ([u8b f.kd]) _ _ rfl K5.out rfl S5.out ?d1 O5 P5.out ?_))
   case d1 =>  have h9:=HBN.out;have:=L3.out;have:=L4.out;(try simp only[List.length_cons,List.length_nil]);omega
   intro A5 c5 w5 C5 G
   have X5:=Lib.hid (G.out.bx _ _ _ (by decide) Y5.out)
   clear K5 S5 Y5 G
   clear y yl
   obtain⟨out0,hout0⟩:∃L,L=out:=⟨_,rfl⟩
   have HO0:=Lib.hid hout0
   obtain⟨xs6,hxs⟩:∃xs,[f.lat,f.lon,f.el,f.ra]=xs:=⟨_,rfl⟩
   have HXS6:=Lib.hid hxs
   have HXN6:Hid (xs6.length=4):=by rw[←hxs];rfl
   clear hxs
   have y3:=X5.out.cell 3 (u:=.int .i64 f.lat) rfl
   have y4:=X5.out.cell 4 (u:=.int .i64 f.lon) rfl
   have y5:=X5.out.cell 5 (u:=.int .i64 f.el) rfl
   have y6:=X5.out.cell 6 (u:=.int .i64 f.ra) rfl
   have yl:=X5.out.lt
   go_wp2
   go_loopw [7,90] (fun v iv wr=>∃(j:Nat) (out:List UInt8) (A:Option Addr) (c:Nat),j≤4∧iv=.int .i64 (j:Int)∧v=.slice A out.length c∧Hid (out=O5++numB (xs6.take j))∧Hid (CoW w wB q (dbA D.hd (.slice (some ⟨g,o,none⟩) n cf) (.slice Aa na ca) (.slice Ap np cp)) out (.slice A out.length c) wr)∧Hid (NumRow w5.heap.size xs6 wr)) (fun _ iv _=>4-(intOf iv).toNat)
   case atStart =>
    have ba:=(Below.refl w5.heap.size w5).alloc (Nat.le_refl _) (.cells #[.int .i64 f.lat,.int .i64 f.lon,.int .i64 f.el,.int .i64 f.ra] 2)
    exact⟨0,O5,_,_,Nat.zero_le _,rfl,rfl,by unfold Hid;rw[List.take_zero];simp[numB],C5.out.below ba,by unfold Hid NumRow;rw[←HXS6.out];exact Bx.last _ _ _⟩
   case round =>
   clear y3 y4 y5 y6 yl C5 X5
   obtain⟨j,outj,Aj,cj,hj,rfl,rfl,hoj,hCj,hnr⟩:=hrel
   have hxn:=HXN6.out
   by_cases hlj:j<4
   ·have hji:(j:Int)<4:=by omega
    obtain⟨x,hx⟩:∃x,xs6[j]? = some x:=⟨_,List.getElem?_eq_getElem (by omega)⟩
    have hc:=hnr.out.cell hx
    have HXK:=Lib.hid hx
    have HLJ:=Lib.hid hlj
    have L9:Hid (outj.length=O5.length+8*j):=by unfold Hid;rw[hoj.out,List.length_append,numB_len,List.length_take];omega
    have P9:Hid (outj++lowB x 8=O5++numB (xs6.take (j+1))):=by unfold Hid;rw[numB_step hx,hoj.out,List.append_assoc]
    clear hx hxn hoj
    go_wp2_with fail
    refine(rlow8_any x _).mono ?_
    rintro e u9 ⟨B9,b9,rfl,ho,hb⟩
    have K9:=Lib.hid (hCj.out.below hb)
    have S9:=Lib.hid ho.src
    have N9:=Lib.hid (Bx.via hb hnr.out)
    obtain⟨O9,hO⟩:∃L,outj++lowB x 8=L:=⟨_,rfl⟩
    have Q9:=Lib.hid hO
    rw[hO] at P9
    clear ho hb hCj hnr hc hO
    go_wp2_with (at_builtin;refine wpList_co rfl _ _ rfl w wB q (dbA D.hd (.slice (some ⟨g,o,none⟩) n cf) (.slice Aa na ca) (.slice Ap np cp)) outj (lowB x 8) _ _ rfl K9.out rfl S9.out ?d1 O9 Q9.out ?_)
    case d1=>rw[lowB_len];have h9:=HBN.out;have h8:=L9.out;have:=L3.out;have:=L4.out;have:=L5.out;omega
    intro A10 c10 w10 C10 G10
    have N10:Hid (NumRow w5.heap.size xs6 w10):=NumRow.fw N9.out G10.out
    clear K9 S9 N9 G10 L9 Q9
    go_wp2
    go_roundw
    case rel=>exact⟨j+1,O9,A10,c10,HLJ.out,by first|rfl|go_num,rfl,P9,C10,N10⟩
    case measure=>simp[intOf];omega
   ·have ej:j=4:=by omega
    subst ej
    have HE6:Hid (outj=O5++numB xs6):=by unfold Hid;rw[hoj.out,List.take_of_length_le (by omega)]
    clear hoj hnr hxn hlj hj
    have HRS:Hid (outj=lowB (n:Int) 2++(D.fx.take (k+1)).flatMap fxB):=by
     unfold Hid;rw[HE6.out,←P5.out,←P4.out,←P3.out,←HXS6.out,ho.out,HTM.out,HFX.out];simp only[List.append_assoc]
    go_wp2
    go_roundw
    case rel=>exact⟨k+1,outj,Aj,cj,HLT.out,by go_num,rfl,HRS,hCj⟩
    case measure=>simp[intOf];omega
  ·skip
   have hki:¬(k:Int)<(n:Int):=by omega
   have hkn:D.fx.take k=D.fx:=List.take_of_length_le (by rw[HNF.out];omega)
   have HRB:Hid (RowB wB.heap.size (lowB (n:Int) 2++D.fx.flatMap fxB) (.slice A out.length c) wr):=by have h:=hC.out.r;have h2:=ho.out;rw[hkn] at h2;rw[←h2];exact h
   have LB:Hid (out.length=(lowB (n:Int) 2++D.fx.flatMap fxB).length):=by have h2:=ho.out;rw[hkn] at h2;unfold Hid;rw[←h2]
   obtain⟨NB,hNB⟩:∃m,out.length=m:=⟨_,rfl⟩
   rw[hNB] at HRB LB ⊢
   replace HRA:=Lib.hid (HRA.out.below hC.out.f)
   have HB2:=Lib.hid hC.out.be
   have HX2:=Lib.hid hC.out.x
   obtain⟨wC,rfl⟩:∃W,W=wr:=⟨_,rfl⟩
   have ZwC:Hid (w.heap.size≤wC.heap.size):=HB2.out.size
   obtain⟨AB,rfl⟩:∃X,X=A:=⟨_,rfl⟩
   obtain⟨cB,rfl⟩:∃X,X=c:=⟨_,rfl⟩
   clear hC ho hkn hlt hk hNB
   -- the airways' section
   have x:=HX2.out.cell 7 (u:=.slice Aa na ca) rfl
   have xl:=HX2.out.lt
   go_wp2_with fail
   refine(rlow2_any (na:Int) _).mono ?_
   rintro e u7 ⟨A7,c7,rfl,ho,hb⟩
   have h0:CoW w wC q (dbA D.hd (.slice Af n cf) (.slice Aa na ca) (.slice Ap np cp)) (lowB (na:Int) 2) (.slice A7 (lowB (na:Int) 2).length c7) u7:=⟨HB2.out,HX2.out,hb,ho⟩
   obtain⟨O7,hO⟩:∃L,lowB (na:Int) 2=L:=⟨_,rfl⟩
   rw[hO] at h0 ⊢
   have C7:=Lib.hid h0
   have P7:=Lib.hid hO
   have x2:=C7.out.x.cell 7 (u:=.slice Aa na ca) rfl
   have xl2:=C7.out.x.lt
   clear ho hb h0 hO x xl
   try clear hki
   go_wp2
   go_loopw [12,107] (fun v iv wr=>∃(k:Nat) (out:List UInt8) (A:Option Addr) (c:Nat),k≤na∧iv=.int .i64 (k:Int)∧v=.slice A out.length c∧Hid (out=lowB (na:Int) 2++(D.aw.take k).flatMap awB)∧Hid (CoW w wC q (dbA D.hd (.slice Af n cf) (.slice Aa na ca) (.slice Ap np cp)) out (.slice A out.length c) wr)) (fun _ iv _=>na-(intOf iv).toNat)
   case atStart=>exact⟨0,O7,A7,c7,Nat.zero_le _,rfl,rfl,by unfold Hid;rw[List.take_zero,List.flatMap_nil,List.append_nil,P7.out],C7.out⟩
   case round =>
   clear x2 xl2 C7 P7
   obtain⟨k,out,A,c,hk,rfl,rfl,ho,hC⟩:=hrel
   by_cases hlt:k<na
   ·have hkl:k<D.aw.length:=by rw[HNA.out];exact hlt
    have HR2:=Lib.hid HH.out.aw
    obtain⟨g,o,c',av,hA,hgl,hat,hnl,hps⟩:=AwsD.at_ (by have:=HR2.out;rw[←HNA.out] at this;exact this:AwsD w (.slice Aa D.aw.length ca) D.aw) hkl
    rw[HNA.out] at hA
    simp only[Value.slice.injEq,true_and] at hA
    obtain⟨rfl,rfl⟩:=hA
    have hbd:=HDB.out.aw _ (List.getElem_mem hkl)
    have HTL:=Lib.hid (take_leB awB D.aw hkl)
    have HTM:=Lib.hid (take_moreB awB D.aw hkl)
    obtain⟨x,hx⟩:∃x,D.aw[k]=x:=⟨_,rfl⟩
    rw[hx] at hat hps HTL HTM hbd
    obtain⟨nm,ps⟩:=x
    simp only at hps
    obtain⟨Av,cv,rfl,hcv,hmv⟩:=hps.form
    unfold maxLen at hmv
    obtain⟨m,hm⟩:∃m,ps.length=m:=⟨_,rfl⟩
    have HPS:=Lib.hid hps
    obtain⟨y0,y1⟩:=hat.below hgl hC.out.be
    simp only at y0
    rw[hm] at hcv y1 HPS
    have HM:=Lib.hid hm
    have hgw:g<wr.heap.size:=Nat.lt_of_lt_of_le hgl hC.out.be.size
    have hki:(k:Int)<(na:Int):=by omega
    obtain⟨wA,hwA⟩:∃W,wr.alloc (.cells #[.string (sb nm),.slice Av m cv] 48)=W:=⟨_,rfl⟩
    have ba:Below wr.heap.size wr wA:=by rw[←hwA];exact(Below.refl _ _).alloc (Nat.le_refl _) _
    obtain⟨qf,hqf⟩:∃q,wr.heap.size=q:=⟨_,rfl⟩
    have XA:Hid (Bx qf #[.string (sb nm),.slice Av m cv] 48 wA):=by rw[←hwA,←hqf];exact Bx.last wr _ _
    have CA:=Lib.hid (hC.out.below ba)
    have HWA:=Lib.hid hwA
    have HQF:=Lib.hid hqf
    have HFX:Hid (awB ⟨nm,ps⟩=tx1 nm++(lowB (m:Int) 2++ps.flatMap ptB)):=by unfold Hid awB;rw[txtT_one,hm]
    have HBN:Hid (out.length+(nm.length+3+(ps.flatMap ptB).length)≤900000):=by
     have h1:=HTL.out;have h2:=HPT.out;have h3:=congrArg List.length ho.out
     rw[HFX.out] at h1
     simp only[List.length_append,List.length_cons,List.length_nil,numB_len,tx1_len,lowB_len] at h1 h2 h3
     unfold Hid;omega
    have hnm:nm.length≤255:=hbd.nm
    have HNM:=Lib.hid hnm
    have HBD:=Lib.hid hbd.ps
    have HLT:=Lib.hid hlt
    clear hqf hx hwA hC hps hat HR2 HTL hm hnl ba hbd hkl hnm hlt
    go_upto_region 25 with fail
    rw[HWA.out,HQF.out]
    clear HWA y0 y1
    have y:=XA.out.cell 0 (u:=.string (sb nm)) rfl
    have yl:=XA.out.lt
    go_wp2_with fail
    refine(rstrL_any nm _ HNM.out).mono ?_
    rintro e u8 ⟨B8,b8,rfl,ho,hb⟩
    have K8:=Lib.hid (CA.out.below hb)
    have S8:=Lib.hid ho.src
    have Y8:=Lib.hid (XA.out.via hb)
    obtain⟨O8,hO⟩:∃L,out++tx1 nm=L:=⟨_,rfl⟩
    have P8:=Lib.hid hO
    have L8:Hid (O8.length=out.length+(nm.length+1)):=by unfold Hid;rw[←hO,List.length_append];rw[tx1_len]
    clear hO ho hb CA XA y yl
    go_wp2_with (at_builtin;go_loud (refine wpList_co rfl _ _ rfl w wC q (dbA D.hd (.slice Af n cf) (.slice (some ⟨g,o,none⟩) na ca) (.slice Ap np cp)) out (tx1 nm) _ _ rfl K8.out rfl S8.out ?d1 O8 P8.out ?_))
    case d1=>rw[tx1_len];have h9:=HBN.out;omega
    intro A8 c8 w8 C8 G
    have X8:=Lib.hid (G.out.bx _ _ _ (by decide) Y8.out)
    clear K8 S8 Y8 G
    have y:=X8.out.cell 1 (u:=.slice Av m cv) rfl
    have yl:=X8.out.lt
    go_wp2_with fail
    refine(rlow2_any (m:Int) _).mono ?_
    rintro e u9 ⟨B9,b9,rfl,ho,hb⟩
    have K9:=Lib.hid (C8.out.below hb)
    have S9:=Lib.hid ho.src
    have Y9:=Lib.hid (X8.out.via hb)
    obtain⟨O9,hO⟩:∃L,O8++lowB (m:Int) 2=L:=⟨_,rfl⟩
    have P9:=Lib.hid hO
    have L9:Hid (O9.length=O8.length+2):=by unfold Hid;rw[←hO,List.length_append];rw[lowB_len]
    clear hO ho hb C8 X8 y yl
    go_wp2_with (at_builtin;go_loud (refine wpList_co rfl _ _ rfl w wC q (dbA D.hd (.slice Af n cf) (.slice (some ⟨g,o,none⟩) na ca) (.slice Ap np cp)) O8 (lowB (m:Int) 2) _ _ rfl K9.out rfl S9.out ?d1 O9 P9.out ?_))
    case d1=>rw[lowB_len];have h9:=HBN.out;have:=L8.out;omega
    intro A9 c9 w9 C9 G
    have X9:=Lib.hid (G.out.bx _ _ _ (by decide) Y9.out)
    clear K9 S9 Y9 G
    have y:=X9.out.cell 1 (u:=.slice Av m cv) rfl
    have yl:=X9.out.lt
    have HPL10:Hid (O9.length+(ps.flatMap ptB).length≤900000):=by
     have h9:=HBN.out;have:=L8.out;have:=L9.out;unfold Hid;omega
    go_wp2_with fail
    go_loopw [12,125] (fun v iv wr=>∃(i:Nat) (out:List UInt8) (A:Option Addr) (c:Nat),i≤m∧iv=.int .i64 (i:Int)∧v=.slice A out.length c∧Hid (out=O9++(ps.take i).flatMap ptB)∧Hid (CoW w wC q (dbA D.hd (.slice Af n cf) (.slice (some ⟨g,o,none⟩) na ca) (.slice Ap np cp)) out (.slice A out.length c) wr)) (fun _ iv _=>m-(intOf iv).toNat)
    case atStart=>exact⟨0,O9,_,_,Nat.zero_le _,rfl,rfl,by unfold Hid;rw[List.take_zero,List.flatMap_nil,List.append_nil],C9.out⟩
    case round =>
    clear y yl C9 X9
    obtain⟨i,outi,Ai,ci,hi,rfl,rfl,hoi,hCi⟩:=hrel
    by_cases hlm:i<m
    ·have hil:i<ps.length:=by rw[HM.out];exact hlm
     have HR3:=Lib.hid (HPS.out.below hCi.out.be)
     obtain⟨g2,o2,c2',hA2,hgl2,u0,u1,u2,u3⟩:=PtsR.at_ (by have:=HR3.out;rw[←HM.out] at this;exact this:PtsR wr (.slice Av ps.length cv) ps) hil
     rw[HM.out] at hA2
     simp only[Value.slice.injEq,true_and] at hA2
     obtain⟨rfl,rfl⟩:=hA2
     have hbp:=HBD.out _ (List.getElem_mem hil)
     have HTL:=Lib.hid (take_leB ptB ps hil)
     have HTN:=Lib.hid (take_moreB ptB ps hil)
     obtain⟨p,hp⟩:∃p,ps[i]=p:=⟨_,rfl⟩
     rw[hp] at u0 u1 u2 u3 hbp HTL HTN
     obtain⟨pr,pl,ph,pd⟩:=p
     simp only at u0 u1 u2 u3
     have him:(i:Int)<(m:Int):=by omega
     obtain⟨wA2,hwA2⟩:∃W,wr.alloc (.cells #[.string (sb pr),.int .i64 pl,.int .i64 ph,.int .u8 (pd:Int)] 53)=W:=⟨_,rfl⟩
     have ba:Below wr.heap.size wr wA2:=by rw[←hwA2];exact(Below.refl _ _).alloc (Nat.le_refl _) _
     obtain⟨q8,hq8⟩:∃q,wr.heap.size=q:=⟨_,rfl⟩
     have XB2:Hid (Bx q8 #[.string (sb pr),.int .i64 pl,.int .i64 ph,.int .u8 (pd:Int)] 53 wA2):=by rw[←hwA2,←hq8];exact Bx.last wr _ _
     have CB2:=Lib.hid (hCi.out.below ba)
     have HWA2:=Lib.hid hwA2
     have HQ8:=Lib.hid hq8
     have HPB:Hid (ptB ⟨pr,pl,ph,pd⟩=tx1 pr++((lowB pl 8++lowB ph 8)++[u8b pd])):=by unfold Hid ptB;rw[txtT_one];simp[numB]
     have HBI:Hid (outi.length+(pr.length+18)≤900000):=by
      have h1:=HTL.out;have h2:=HPL10.out;have h3:=congrArg List.length hoi.out
      rw[HPB.out] at h1
      simp only[List.length_append,List.length_cons,List.length_nil,tx1_len,lowB_len] at h1 h3
      unfold Hid;omega
     have hpr:pr.length≤255:=hbp.ref
     have hpd:pd<256:=hbp.dir
     have HPR:=Lib.hid hpr
     have HPD:=Lib.hid hpd
     have HLM:=Lib.hid hlm
     clear hq8 hp hwA2 hCi hbp HR3 HTL hpr hpd ba hil hlm
     go_upto_region 30 with fail
     rw[HWA2.out,HQ8.out]
     clear HWA2 u0 u1 u2 u3
     have y:=XB2.out.cell 0 (u:=.string (sb pr)) rfl
     have yl:=XB2.out.lt
     go_wp2_with fail
     refine(rstrL_any pr _ HPR.out).mono ?_
     rintro e u11 ⟨B11,b11,rfl,ho,hb⟩
     have K11:=Lib.hid (CB2.out.below hb)
     have S11:=Lib.hid ho.src
     have Y11:=Lib.hid (XB2.out.via hb)
     obtain⟨O11,hO⟩:∃L,outi++tx1 pr=L:=⟨_,rfl⟩
     have P11:=Lib.hid hO
     have L11:Hid (O11.length=outi.length+(pr.length+1)):=by unfold Hid;rw[←hO,List.length_append];rw[tx1_len]
     clear hO ho hb CB2 XB2 y yl
     go_wp2_with (at_builtin;go_loud (refine wpList_co rfl _ _ rfl w wC q (dbA D.hd (.slice Af n cf) (.slice (some ⟨g,o,none⟩) na ca) (.slice Ap np cp)) outi (tx1 pr) _ _ rfl K11.out rfl S11.out ?d1 O11 P11.out ?_))
     case d1=>rw[tx1_len];have h9:=HBI.out;omega
     intro A11 c11 w11 C11 G
     have X11:=Lib.hid (G.out.bx _ _ _ (by decide) Y11.out)
     clear K11 S11 Y11 G
     have y:=X11.out.cell 1 (u:=.int .i64 pl) rfl
     have yl:=X11.out.lt
     go_wp2_with fail
     refine(rlow8_any pl _).mono ?_
     rintro e u12 ⟨B12,b12,rfl,ho,hb⟩
     have K12:=Lib.hid (C11.out.below hb)
     have S12:=Lib.hid ho.src
     have Y12:=Lib.hid (X11.out.via hb)
     obtain⟨O12,hO⟩:∃L,O11++lowB pl 8=L:=⟨_,rfl⟩
     have P12:=Lib.hid hO
     have L12:Hid (O12.length=O11.length+8):=by unfold Hid;rw[←hO,List.length_append];rw[lowB_len]
     clear hO ho hb C11 X11 y yl
     go_wp2_with (at_builtin;go_loud (refine wpList_co rfl _ _ rfl w wC q (dbA D.hd (.slice Af n cf) (.slice (some ⟨g,o,none⟩) na ca) (.slice Ap np cp)) O11 (lowB pl 8) _ _ rfl K12.out rfl S12.out ?d1 O12 P12.out ?_))
     case d1=>rw[lowB_len];have h9:=HBI.out;have:=L11.out;omega
     intro A12 c12 w12 C12 G
     have X12:=Lib.hid (G.out.bx _ _ _ (by decide) Y12.out)
     clear K12 S12 Y12 G
     have y:=X12.out.cell 2 (u:=.int .i64 ph) rfl
     have yl:=X12.out.lt
     go_wp2_with fail
     refine(rlow8_any ph _).mono ?_
     rintro e u13 ⟨B13,b13,rfl,ho,hb⟩
     have K13:=Lib.hid (C12.out.below hb)
     have S13:=Lib.hid ho.src
     have Y13:=Lib.hid (X12.out.via hb)
     obtain⟨O13,hO⟩:∃L,O12++lowB ph 8=L:=⟨_,rfl⟩
     have P13:=Lib.hid hO
     have L13:Hid (O13.length=O12.length+8):=by unfold Hid;rw[←hO,List.length_append];rw[lowB_len]
     clear hO ho hb C12 X12 y yl
     go_wp2_with (at_builtin;go_loud (refine wpList_co rfl _ _ rfl w wC q (dbA D.hd (.slice Af n cf) (.slice (some ⟨g,o,none⟩) na ca) (.slice Ap np cp)) O12 (lowB ph 8) _ _ rfl K13.out rfl S13.out ?d1 O13 P13.out ?_))
     case d1=>rw[lowB_len];have h9:=HBI.out;have:=L11.out;have:=L12.out;omega
     intro A13 c13 w13 C13 G
     have X13:=Lib.hid (G.out.bx _ _ _ (by decide) Y13.out)
     clear K13 S13 Y13 G
     have y:=X13.out.cell 3 (u:=.int .u8 (pd:Int)) rfl
     have yl:=X13.out.lt
     have S14:=Lib.hid (SrcB.one w13 HPD.out)
     have ba:=(Below.refl w13.heap.size w13).alloc (Nat.le_refl _) (.cells #[.int .u8 (pd:Int)] 5)
     have K14:=Lib.hid (C13.out.below ba)
     have Y14:=Lib.hid (X13.out.via ba)
     obtain⟨O14,hO⟩:∃L,O13++[u8b pd]=L:=⟨_,rfl⟩
     have P14:=Lib.hid hO
     have L14:Hid (O14.length=O13.length+1):=by unfold Hid;rw[←hO,List.length_append];rfl
     clear hO ba C13 X13
     go_wp2_with (at_builtin;go_loud (refine wpList_co rfl _ _ rfl w wC q (dbA D.hd (.slice Af n cf) (.slice (some ⟨g,o,none⟩) na ca) (.slice Ap np cp)) O13 ([u8b pd]) _ _ rfl K14.out rfl S14.out ?d1 O14 P14.out ?_))
     case d1 =>  have h9:=HBI.out;have:=L11.out;have:=L12.out;have:=L13.out;(try simp only[List.length_cons,List.length_nil]);omega
     intro A14 c14 w14 C14 G
     have X14:=Lib.hid (G.out.bx _ _ _ (by decide) Y14.out)
     clear K14 S14 Y14 G
     clear y yl
     have HRS:Hid (O14=O9++(ps.take (i+1)).flatMap ptB):=by
      unfold Hid;rw[←P14.out,←P13.out,←P12.out,←P11.out,hoi.out,HTN.out,HPB.out];simp only[List.append_assoc]
     go_wp2
     go_roundw
     case rel=>exact⟨i+1,O14,_,_,HLM.out,by go_num,rfl,HRS,C14⟩
     case measure=>simp[intOf];omega
    ·have him:¬(i:Int)<(m:Int):=by omega
     have HRS:Hid (outi=lowB (na:Int) 2++(D.aw.take (k+1)).flatMap awB):=by
      unfold Hid;rw[hoi.out,List.take_of_length_le (by rw[HM.out];omega),←P9.out,←P8.out,ho.out,HTM.out,HFX.out];simp only[List.append_assoc]
     go_wp2
     go_roundw
     case rel=>exact⟨k+1,outi,Ai,ci,HLT.out,by go_num,rfl,HRS,hCi⟩
     case measure=>simp[intOf];omega
   ·skip
    have hki:¬(k:Int)<(na:Int):=by omega
    have hkn:D.aw.take k=D.aw:=List.take_of_length_le (by rw[HNA.out];omega)
    have HRC:Hid (RowB wC.heap.size (lowB (na:Int) 2++D.aw.flatMap awB) (.slice A out.length c) wr):=by have h:=hC.out.r;have h2:=ho.out;rw[hkn] at h2;rw[←h2];exact h
    have LC:Hid (out.length=(lowB (na:Int) 2++D.aw.flatMap awB).length):=by have h2:=ho.out;rw[hkn] at h2;unfold Hid;rw[←h2]
    obtain⟨NC,hNC⟩:∃m,out.length=m:=⟨_,rfl⟩
    rw[hNC] at HRC LC ⊢
    replace HRA:=Lib.hid (HRA.out.below hC.out.f)
    replace HRB:=Lib.hid (HRB.out.below hC.out.f)
    have HB2:=Lib.hid hC.out.be
    have HX2:=Lib.hid hC.out.x
    obtain⟨wD,rfl⟩:∃W,W=wr:=⟨_,rfl⟩
    have ZwD:Hid (w.heap.size≤wD.heap.size):=HB2.out.size
    obtain⟨AC,rfl⟩:∃X,X=A:=⟨_,rfl⟩
    obtain⟨cC,rfl⟩:∃X,X=c:=⟨_,rfl⟩
    clear hC ho hkn hlt hk hNC
    -- the procedures' section
    have x:=HX2.out.cell 8 (u:=.slice Ap np cp) rfl
    have xl:=HX2.out.lt
    go_wp2_with fail
    refine(rlow2_any (np:Int) _).mono ?_
    rintro e u15 ⟨A15,c15,rfl,ho,hb⟩
    have h0:CoW w wD q (dbA D.hd (.slice Af n cf) (.slice Aa na ca) (.slice Ap np cp)) (lowB (np:Int) 2) (.slice A15 (lowB (np:Int) 2).length c15) u15:=⟨HB2.out,HX2.out,hb,ho⟩
    obtain⟨O15,hO⟩:∃L,lowB (np:Int) 2=L:=⟨_,rfl⟩
    rw[hO] at h0 ⊢
    have C15:=Lib.hid h0
    have P15:=Lib.hid hO
    have x2:=C15.out.x.cell 8 (u:=.slice Ap np cp) rfl
    have xl2:=C15.out.x.lt
    clear ho hb h0 hO x xl
    try clear hki
    go_wp2
    go_loopw [17,160] (fun v iv wr=>∃(k:Nat) (out:List UInt8) (A:Option Addr) (c:Nat),k≤np∧iv=.int .i64 (k:Int)∧v=.slice A out.length c∧Hid (out=lowB (np:Int) 2++(D.pr.take k).flatMap prB)∧Hid (CoW w wD q (dbA D.hd (.slice Af n cf) (.slice Aa na ca) (.slice Ap np cp)) out (.slice A out.length c) wr)) (fun _ iv _=>np-(intOf iv).toNat)
    case atStart=>exact⟨0,O15,A15,c15,Nat.zero_le _,rfl,rfl,by unfold Hid;rw[List.take_zero,List.flatMap_nil,List.append_nil,P15.out],C15.out⟩
    case round =>
    clear x2 xl2 C15 P15
    obtain⟨k,out,A,c,hk,rfl,rfl,ho,hC⟩:=hrel
    by_cases hlt:k<np
    ·have hkl:k<D.pr.length:=by rw[HNP.out];exact hlt
     have HR2:=Lib.hid HH.out.pr
     obtain⟨g,o,c',pv,hA,hgl,hat,hap,hnm,hkd,hpa⟩:=PrcsR.at_ (by have:=HR2.out;rw[←HNP.out] at this;exact this:PrcsR w (.slice Ap D.pr.length cp) D.pr) hkl
     rw[HNP.out] at hA
     simp only[Value.slice.injEq,true_and] at hA
     obtain⟨rfl,rfl⟩:=hA
     have hbd:=HDB.out.pr _ (List.getElem_mem hkl)
     have HTL:=Lib.hid (take_leB prB D.pr hkl)
     have HTM:=Lib.hid (take_moreB prB D.pr hkl)
     obtain⟨x,hx⟩:∃x,D.pr[k]=x:=⟨_,rfl⟩
     rw[hx] at hat hkd hpa HTL HTM hbd
     obtain⟨ap,nm,kd,pa⟩:=x
     simp only at hpa hkd
     obtain⟨Av,cv,rfl,hcv,hmv⟩:=hpa.form
     unfold maxLen at hmv
     obtain⟨m,hm⟩:∃m,pa.length=m:=⟨_,rfl⟩
     have HPS:=Lib.hid hpa
     obtain⟨y0,y1,y2,y3⟩:=hat.below hgl hC.out.be
     simp only at y0 y1 y2
     rw[hm] at hcv y3 HPS
     have HM:=Lib.hid hm
     have hgw:g<wr.heap.size:=Nat.lt_of_lt_of_le hgl hC.out.be.size
     have hki:(k:Int)<(np:Int):=by omega
     obtain⟨wA,hwA⟩:∃W,wr.alloc (.cells #[.string (sb ap),.string (sb nm),.int .u8 (kd:Int),.slice Av m cv] 57)=W:=⟨_,rfl⟩
     have ba:Below wr.heap.size wr wA:=by rw[←hwA];exact(Below.refl _ _).alloc (Nat.le_refl _) _
     obtain⟨qf,hqf⟩:∃q,wr.heap.size=q:=⟨_,rfl⟩
     have XA:Hid (Bx qf #[.string (sb ap),.string (sb nm),.int .u8 (kd:Int),.slice Av m cv] 57 wA):=by rw[←hwA,←hqf];exact Bx.last wr _ _
     have CA:=Lib.hid (hC.out.below ba)
     have HWA:=Lib.hid hwA
     have HQF:=Lib.hid hqf
     have HFX:Hid (prB ⟨ap,nm,kd,pa⟩=(tx1 ap++tx1 nm)++([u8b kd]++(lowB (m:Int) 2++pa.flatMap paB))):=by unfold Hid prB;rw[txtT_two,hm]
     have HBN:Hid (out.length+(ap.length+nm.length+5+(pa.flatMap paB).length)≤900000):=by
      have h1:=HTL.out;have h2:=HPT.out;have h3:=congrArg List.length ho.out
      rw[HFX.out] at h1
      simp only[List.length_append,List.length_cons,List.length_nil,numB_len,tx1_len,lowB_len] at h1 h2 h3
      unfold Hid;omega
     have h255:ap.length≤255∧nm.length≤255∧kd<256:=⟨hbd.ap,hbd.nm,hbd.kd⟩
     have HNM:=Lib.hid h255
     have HBD:=Lib.hid hbd.pa
     have HLT:=Lib.hid hlt
     clear hqf hx hwA hC hpa hat HR2 HTL hm hnm hap hkd ba hbd hkl h255 hlt
     go_upto_region 40 with fail
     rw[HWA.out,HQF.out]
     clear HWA y0 y1 y2 y3
     have y:=XA.out.cell 0 (u:=.string (sb ap)) rfl
     have yl:=XA.out.lt
     go_wp2_with fail
     refine(rstrL_any ap _ HNM.out.1).mono ?_
     rintro e u16 ⟨B16,b16,rfl,ho,hb⟩
     have K16:=Lib.hid (CA.out.below hb)
     have S16:=Lib.hid ho.src
     have Y16:=Lib.hid (XA.out.via hb)
     obtain⟨O16,hO⟩:∃L,out++tx1 ap=L:=⟨_,rfl⟩
     have P16:=Lib.hid hO
     have L16:Hid (O16.length=out.length+(ap.length+1)):=by unfold Hid;rw[←hO,List.length_append];rw[tx1_len]
     clear hO ho hb CA XA y yl
     go_wp2_with (at_builtin;go_loud (refine wpList_co rfl _ _ rfl w wD q (dbA D.hd (.slice Af n cf) (.slice Aa na ca) (.slice (some ⟨g,o,none⟩) np cp)) out (tx1 ap) _ _ rfl K16.out rfl S16.out ?d1 O16 P16.out ?_))
     case d1=>rw[tx1_len];have h9:=HBN.out;omega
     intro A16 c16 w16 C16 G
     have X16:=Lib.hid (G.out.bx _ _ _ (by decide) Y16.out)
     clear K16 S16 Y16 G
     have y:=X16.out.cell 1 (u:=.string (sb nm)) rfl
     have yl:=X16.out.lt
     go_wp2_with fail
     refine(rstrL_any nm _ HNM.out.2.1).mono ?_
     rintro e u17 ⟨B17,b17,rfl,ho,hb⟩
     have K17:=Lib.hid (C16.out.below hb)
     have S17:=Lib.hid ho.src
     have Y17:=Lib.hid (X16.out.via hb)
     obtain⟨O17,hO⟩:∃L,O16++tx1 nm=L:=⟨_,rfl⟩
     have P17:=Lib.hid hO
     have L17:Hid (O17.length=O16.length+(nm.length+1)):=by unfold Hid;rw[←hO,List.length_append];rw[tx1_len]
     clear hO ho hb C16 X16 y yl
     go_wp2_with (at_builtin;go_loud (refine wpList_co rfl _ _ rfl w wD q (dbA D.hd (.slice Af n cf) (.slice Aa na ca) (.slice (some ⟨g,o,none⟩) np cp)) O16 (tx1 nm) _ _ rfl K17.out rfl S17.out ?d1 O17 P17.out ?_))
     case d1=>rw[tx1_len];have h9:=HBN.out;have:=L16.out;omega
     intro A17 c17 w17 C17 G
     have X17:=Lib.hid (G.out.bx _ _ _ (by decide) Y17.out)
     clear K17 S17 Y17 G
     have y:=X17.out.cell 2 (u:=.int .u8 (kd:Int)) rfl
     have yl:=X17.out.lt
     have S18:=Lib.hid (SrcB.one w17 HNM.out.2.2)
     have ba:=(Below.refl w17.heap.size w17).alloc (Nat.le_refl _) (.cells #[.int .u8 (kd:Int)] 5)
     have K18:=Lib.hid (C17.out.below ba)
     have Y18:=Lib.hid (X17.out.via ba)
     obtain⟨O18,hO⟩:∃L,O17++[u8b kd]=L:=⟨_,rfl⟩
     have P18:=Lib.hid hO
     have L18:Hid (O18.length=O17.length+1):=by unfold Hid;rw[←hO,List.length_append];rfl
     clear hO ba C17 X17
     go_wp2_with (at_builtin;go_loud (refine wpList_co rfl _ _ rfl w wD q (dbA D.hd (.slice Af n cf) (.slice Aa na ca) (.slice (some ⟨g,o,none⟩) np cp)) O17 ([u8b kd]) _ _ rfl K18.out rfl S18.out ?d1 O18 P18.out ?_))
     case d1 =>  have h9:=HBN.out;have:=L16.out;have:=L17.out;(try simp only[List.length_cons,List.length_nil]);omega
     intro A18 c18 w18 C18 G
     have X18:=Lib.hid (G.out.bx _ _ _ (by decide) Y18.out)
     clear K18 S18 Y18 G
     clear y yl
     have y:=X18.out.cell 3 (u:=.slice Av m cv) rfl
     have yl:=X18.out.lt
     go_wp2_with fail
     refine(rlow2_any (m:Int) _).mono ?_
     rintro e u19 ⟨B19,b19,rfl,ho,hb⟩
     have K19:=Lib.hid (C18.out.below hb)
     have S19:=Lib.hid ho.src
     have Y19:=Lib.hid (X18.out.via hb)
     obtain⟨O19,hO⟩:∃L,O18++lowB (m:Int) 2=L:=⟨_,rfl⟩
     have P19:=Lib.hid hO
     have L19:Hid (O19.length=O18.length+2):=by unfold Hid;rw[←hO,List.length_append];rw[lowB_len]
     clear hO ho hb C18 X18 y yl
     go_wp2_with (at_builtin;go_loud (refine wpList_co rfl _ _ rfl w wD q (dbA D.hd (.slice Af n cf) (.slice Aa na ca) (.slice (some ⟨g,o,none⟩) np cp)) O18 (lowB (m:Int) 2) _ _ rfl K19.out rfl S19.out ?d1 O19 P19.out ?_))
     case d1=>rw[lowB_len];have h9:=HBN.out;have:=L16.out;have:=L17.out;have:=L18.out;omega
     intro A19 c19 w19 C19 G
     have X19:=Lib.hid (G.out.bx _ _ _ (by decide) Y19.out)
     clear K19 S19 Y19 G
     have y:=X19.out.cell 3 (u:=.slice Av m cv) rfl
     have yl:=X19.out.lt
     have HPL20:Hid (O19.length+(pa.flatMap paB).length≤900000):=by
      have h9:=HBN.out;have:=L16.out;have:=L17.out;have:=L18.out;have:=L19.out;unfold Hid;omega
     go_wp2_with fail
     go_loopw [17,188] (fun v iv wr=>∃(i:Nat) (out:List UInt8) (A:Option Addr) (c:Nat),i≤m∧iv=.int .i64 (i:Int)∧v=.slice A out.length c∧Hid (out=O19++(pa.take i).flatMap paB)∧Hid (CoW w wD q (dbA D.hd (.slice Af n cf) (.slice Aa na ca) (.slice (some ⟨g,o,none⟩) np cp)) out (.slice A out.length c) wr)) (fun _ iv _=>m-(intOf iv).toNat)
     case atStart=>exact⟨0,O19,_,_,Nat.zero_le _,rfl,rfl,by unfold Hid;rw[List.take_zero,List.flatMap_nil,List.append_nil],C19.out⟩
     case round =>
     clear y yl C19 X19
     obtain⟨i,outi,Ai,ci,hi,rfl,rfl,hoi,hCi⟩:=hrel
     by_cases hlm:i<m
     ·have hil:i<pa.length:=by rw[HM.out];exact hlm
      obtain⟨g2,o2,c2',lv,hA2,hgl2,hpt,hxn,hxk,hlg⟩:=PasR.at_ (by have:=HPS.out;rw[←HM.out] at this;exact this:PasR w (.slice Av pa.length cv) pa) hil
      rw[HM.out] at hA2
      simp only[Value.slice.injEq,true_and] at hA2
      obtain⟨rfl,rfl⟩:=hA2
      have hbp:=HBD.out _ (List.getElem_mem hil)
      have HTL:=Lib.hid (take_leB paB pa hil)
      have HTN:=Lib.hid (take_moreB paB pa hil)
      obtain⟨x,hx⟩:∃x,pa[i]=x:=⟨_,rfl⟩
      rw[hx] at hpt hxk hlg HTL HTN hbp
      obtain⟨xk,xn,lg⟩:=x
      simp only at hxk hlg
      obtain⟨Al,cl,rfl,hcl,hml⟩:=hlg.form
      unfold maxLen at hml
      obtain⟨M,hMe⟩:∃M,lg.length=M:=⟨_,rfl⟩
      obtain⟨u0,u1,u2⟩:=hpt.below hgl2 hCi.out.be
      simp only at u0 u1
      have HLG:=Lib.hid hlg
      rw[hMe] at u2 HLG hcl
      have HMM:=Lib.hid hMe
      have hg2w:g2<wr.heap.size:=Nat.lt_of_lt_of_le hgl2 hCi.out.be.size
      have him:(i:Int)<(m:Int):=by omega
      obtain⟨wA2,hwA2⟩:∃W,wr.alloc (.cells #[.int .u8 (xk:Int),.string (sb xn),.slice Al M cl] 62)=W:=⟨_,rfl⟩
      have ba:Below wr.heap.size wr wA2:=by rw[←hwA2];exact(Below.refl _ _).alloc (Nat.le_refl _) _
      obtain⟨q8,hq8⟩:∃q,wr.heap.size=q:=⟨_,rfl⟩
      have XB2:Hid (Bx q8 #[.int .u8 (xk:Int),.string (sb xn),.slice Al M cl] 62 wA2):=by rw[←hwA2,←hq8];exact Bx.last wr _ _
      have CB2:=Lib.hid (hCi.out.below ba)
      have HWA2:=Lib.hid hwA2
      have HQ8:=Lib.hid hq8
      have HPB:Hid (paB ⟨xk,xn,lg⟩=[u8b xk]++(tx1 xn++(lowB (M:Int) 2++lg.flatMap lgB))):=by unfold Hid paB;rw[txtT_one,hMe]
      have HBI:Hid (outi.length+(xn.length+4+(lg.flatMap lgB).length)≤900000):=by
       have h1:=HTL.out;have h2:=HPL20.out;have h3:=congrArg List.length hoi.out
       rw[HPB.out] at h1
       simp only[List.length_append,List.length_cons,List.length_nil,tx1_len,lowB_len] at h1 h3
       unfold Hid;omega
      have h255:xn.length≤255∧xk<256:=⟨hbp.nm,hbp.kd⟩
      have HXN:=Lib.hid h255
      have HBL:=Lib.hid hbp.lg
      have HLM:=Lib.hid hlm
      clear hq8 hx hwA2 hCi hbp HTL h255 ba hil hlm hlg hpt hxn hxk hMe
      go_upto_region 47 with fail
      rw[HWA2.out,HQ8.out]
      clear HWA2 u0 u1 u2
      have y:=XB2.out.cell 0 (u:=.int .u8 (xk:Int)) rfl
      have yl:=XB2.out.lt
      have S21:=Lib.hid (SrcB.one wA2 HXN.out.2)
      have ba:=(Below.refl wA2.heap.size wA2).alloc (Nat.le_refl _) (.cells #[.int .u8 (xk:Int)] 5)
      have K21:=Lib.hid (CB2.out.below ba)
      have Y21:=Lib.hid (XB2.out.via ba)
      obtain⟨O21,hO⟩:∃L,outi++[u8b xk]=L:=⟨_,rfl⟩
      have P21:=Lib.hid hO
      have L21:Hid (O21.length=outi.length+1):=by unfold Hid;rw[←hO,List.length_append];rfl
      clear hO ba CB2 XB2
      go_wp2_with (at_builtin;go_loud (refine wpList_co rfl _ _ rfl w wD q (dbA D.hd (.slice Af n cf) (.slice Aa na ca) (.slice (some ⟨g,o,none⟩) np cp)) outi ([u8b xk]) _ _ rfl K21.out rfl S21.out ?d1 O21 P21.out ?_))
      case d1 =>  have h9:=HBI.out;(try simp only[List.length_cons,List.length_nil]);omega
      intro A21 c21 w21 C21 G
      have X21:=Lib.hid (G.out.bx _ _ _ (by decide) Y21.out)
      clear K21 S21 Y21 G
      clear y yl
      have y:=X21.out.cell 1 (u:=.string (sb xn)) rfl
      have yl:=X21.out.lt
      go_wp2_with fail
      refine(rstrL_any xn _ HXN.out.1).mono ?_
      rintro e u22 ⟨B22,b22,rfl,ho,hb⟩
      have K22:=Lib.hid (C21.out.below hb)
      have S22:=Lib.hid ho.src
      have Y22:=Lib.hid (X21.out.via hb)
      obtain⟨O22,hO⟩:∃L,O21++tx1 xn=L:=⟨_,rfl⟩
      have P22:=Lib.hid hO
      have L22:Hid (O22.length=O21.length+(xn.length+1)):=by unfold Hid;rw[←hO,List.length_append];rw[tx1_len]
      clear hO ho hb C21 X21 y yl
      go_wp2_with (at_builtin;go_loud (refine wpList_co rfl _ _ rfl w wD q (dbA D.hd (.slice Af n cf) (.slice Aa na ca) (.slice (some ⟨g,o,none⟩) np cp)) O21 (tx1 xn) _ _ rfl K22.out rfl S22.out ?d1 O22 P22.out ?_))
      case d1=>rw[tx1_len];have h9:=HBI.out;have:=L21.out;omega
      intro A22 c22 w22 C22 G
      have X22:=Lib.hid (G.out.bx _ _ _ (by decide) Y22.out)
      clear K22 S22 Y22 G
      have y:=X22.out.cell 2 (u:=.slice Al M cl) rfl
      have yl:=X22.out.lt
      go_wp2_with fail
      refine(rlow2_any (M:Int) _).mono ?_
      rintro e u23 ⟨B23,b23,rfl,ho,hb⟩
      have K23:=Lib.hid (C22.out.below hb)
      have S23:=Lib.hid ho.src
      have Y23:=Lib.hid (X22.out.via hb)
      obtain⟨O23,hO⟩:∃L,O22++lowB (M:Int) 2=L:=⟨_,rfl⟩
      have P23:=Lib.hid hO
      have L23:Hid (O23.length=O22.length+2):=by unfold Hid;rw[←hO,List.length_append];rw[lowB_len]
      clear hO ho hb C22 X22 y yl
      go_wp2_with (at_builtin;go_loud (refine wpList_co rfl _ _ rfl w wD q (dbA D.hd (.slice Af n cf) (.slice Aa na ca) (.slice (some ⟨g,o,none⟩) np cp)) O22 (lowB (M:Int) 2) _ _ rfl K23.out rfl S23.out ?d1 O23 P23.out ?_))
      case d1=>rw[lowB_len];have h9:=HBI.out;have:=L21.out;have:=L22.out;omega
      intro A23 c23 w23 C23 G
      have X23:=Lib.hid (G.out.bx _ _ _ (by decide) Y23.out)
      clear K23 S23 Y23 G
      have y:=X23.out.cell 2 (u:=.slice Al M cl) rfl
      have yl:=X23.out.lt
      have HPL24:Hid (O23.length+(lg.flatMap lgB).length≤900000):=by
       have h9:=HBI.out;have:=L21.out;have:=L22.out;have:=L23.out;unfold Hid;omega
      go_wp2_with fail
      go_loopw [17,211] (fun v iv wr=>∃(i:Nat) (out:List UInt8) (A:Option Addr) (c:Nat),i≤M∧iv=.int .i64 (i:Int)∧v=.slice A out.length c∧Hid (out=O23++(lg.take i).flatMap lgB)∧Hid (CoW w wD q (dbA D.hd (.slice Af n cf) (.slice Aa na ca) (.slice (some ⟨g,o,none⟩) np cp)) out (.slice A out.length c) wr)) (fun _ iv _=>M-(intOf iv).toNat)
      case atStart=>exact⟨0,O23,_,_,Nat.zero_le _,rfl,rfl,by unfold Hid;rw[List.take_zero,List.flatMap_nil,List.append_nil],C23.out⟩
      case round =>
      clear y yl C23 X23
      obtain⟨j,outj,Aj,cj,hj,rfl,rfl,hoj,hCj⟩:=hrel
      by_cases hlj:j<M
      ·have hjl:j<lg.length:=by rw[HMM.out];exact hlj
       obtain⟨g3,o3,c3',hA3,hgl3,hat3,hok3⟩:=LgsR.at_ (by have:=HLG.out;rw[←HMM.out] at this;exact this:LgsR w (.slice Al lg.length cl) lg) hjl
       rw[HMM.out] at hA3
       simp only[Value.slice.injEq,true_and] at hA3
       obtain⟨rfl,rfl⟩:=hA3
       have hbl:=HBL.out _ (List.getElem_mem hjl)
       have HTL:=Lib.hid (take_leB lgB lg hjl)
       have HTO:=Lib.hid (take_moreB lgB lg hjl)
       obtain⟨l,hl⟩:∃l,lg[j]=l:=⟨_,rfl⟩
       rw[hl] at hat3 hok3 HTL HTO hbl
       have HAT:Hid (∀t u,(lgc l)[t]? = some u→wr.cell? ⟨g3,o3+j*13+t,none⟩=some u):=fun t u hu=>(hCj.out.be.cell (p:=⟨g3,o3+j*13+t,none⟩) hgl3).trans (hat3 t u hu)
       have HONE:=Lib.hid (lgc_one l)
       have hjM:(j:Int)<(M:Int):=by omega
       obtain⟨q9,hq9⟩:∃q,wr.heap.size=q:=⟨_,rfl⟩
       obtain⟨wJ,hwJ⟩:∃W,wr.alloc (.cells (lgc l).toArray 65)=W:=⟨_,rfl⟩
       have ba:Below wr.heap.size wr wJ:=by rw[←hwJ];exact(Below.refl _ _).alloc (Nat.le_refl _) _
       have CJ:=Lib.hid (hCj.out.below ba)
       have XJ:Hid (Bx q9 (lgc l).toArray 65 wJ):=by rw[←hwJ,←hq9];exact Bx.last wr _ _
       have HWJ:=Lib.hid hwJ
       have HQ9:=Lib.hid hq9
       have hg3w:g3<wr.heap.size:=Nat.lt_of_lt_of_le hgl3 hCj.out.be.size
       have HBJ:Hid (outj.length+(lgB l).length≤900000):=by
        have h1:=HTL.out;have h2:=HPL24.out;have h3:=congrArg List.length hoj.out
        simp only[List.length_append] at h3
        unfold Hid;omega
       have HBG:=Lib.hid hbl
       have HLJ:=Lib.hid hlj
       clear hat3 hok3 hl hwJ hq9 hCj HTL hbl ba hlj hjl
       go_upto_region 53 with (first|(with_reducible refine wpList_load_wide rfl 65 (.tmp 213) rfl g3 (o3+j*13) rfl (lgc l) 13 rfl (aggLegD _) (sizeLegD _) HAT.out ?_)|(refine wpList_store_last wr _ rfl 65 (.tmp 23) (.tmp 214) rfl rfl (lgc l) rfl infoLegSD rfl HONE.out ?_))
       rw[HWJ.out,HQ9.out]
       clear HWJ
       have yl:=XJ.out.lt
       have XC:Hid (∀t u,(lgc l)[t]? = some u→wJ.cell? ⟨q9,0+t,none⟩=some u):=fun t u hu=>by
        rw[Nat.zero_add];exact Bx.cell XJ.out t (by rw[List.getElem?_toArray];exact hu)
       go_wp2_with (with_reducible refine wpList_load_wide rfl 65 (.tmp 23) rfl q9 0 rfl (lgc l) 13 rfl (aggLegD _) (sizeLegD _) XC.out ?_)
       refine(rleg_any l _ HBG.out).mono ?_
       rintro e u9 ⟨B9,b9,rfl,ho9,hb9⟩
       have K9:=Lib.hid (CJ.out.below hb9)
       have S9:=Lib.hid ho9.src
       obtain⟨O9,hO9⟩:∃L,outj++lgB l=L:=⟨_,rfl⟩
       have P9:=Lib.hid hO9
       clear ho9 hb9 hO9 CJ XJ XC yl HAT
       go_wp2_with (at_builtin;go_loud (refine wpList_co rfl _ _ rfl w wD q (dbA D.hd (.slice Af n cf) (.slice Aa na ca) (.slice (some ⟨g,o,none⟩) np cp)) outj (lgB l) _ _ rfl K9.out rfl S9.out ?d1 O9 P9.out ?_))
       case d1=>have h9:=HBJ.out;omega
       intro A10 c10 w10 C10 G10
       clear K9 S9 G10
       have HRS:Hid (O9=O23++(lg.take (j+1)).flatMap lgB):=by unfold Hid;rw[←P9.out,hoj.out,HTO.out,List.append_assoc]
       go_wp2
       go_roundw
       case rel=>exact⟨j+1,O9,_,_,HLJ.out,by go_num,rfl,HRS,C10⟩
       case measure=>simp[intOf];omega
      ·have hjM:¬(j:Int)<(M:Int):=by omega
       have HRS:Hid (outj=O19++(pa.take (i+1)).flatMap paB):=by
        unfold Hid;rw[hoj.out,List.take_of_length_le (by rw[HMM.out];omega),←P23.out,←P22.out,←P21.out,hoi.out,HTN.out,HPB.out];simp only[List.append_assoc]
       go_wp2
       go_roundw
       case rel=>exact⟨i+1,outj,Aj,cj,HLM.out,by go_num,rfl,HRS,hCj⟩
       case measure=>simp[intOf];omega
     ·have him:¬(i:Int)<(m:Int):=by omega
      have HRS:Hid (outi=lowB (np:Int) 2++(D.pr.take (k+1)).flatMap prB):=by
       unfold Hid;rw[hoi.out,List.take_of_length_le (by rw[HM.out];omega),←P19.out,←P18.out,←P17.out,←P16.out,ho.out,HTM.out,HFX.out];simp only[List.append_assoc]
      go_wp2
      go_roundw
      case rel=>exact⟨k+1,outi,Ai,ci,HLT.out,by go_num,rfl,HRS,hCi⟩
      case measure=>simp[intOf];omega
    ·skip
     have hki:¬(k:Int)<(np:Int):=by omega
     have hkn:D.pr.take k=D.pr:=List.take_of_length_le (by rw[HNP.out];omega)
     have HRD:Hid (RowB wD.heap.size (lowB (np:Int) 2++D.pr.flatMap prB) (.slice A out.length c) wr):=by have h:=hC.out.r;have h2:=ho.out;rw[hkn] at h2;rw[←h2];exact h
     have LD:Hid (out.length=(lowB (np:Int) 2++D.pr.flatMap prB).length):=by have h2:=ho.out;rw[hkn] at h2;unfold Hid;rw[←h2]
     obtain⟨ND,hND⟩:∃m,out.length=m:=⟨_,rfl⟩
     rw[hND] at HRD LD ⊢
     replace HRA:=Lib.hid (HRA.out.below hC.out.f)
     replace HRB:=Lib.hid (HRB.out.below hC.out.f)
     replace HRC:=Lib.hid (HRC.out.below hC.out.f)
     have HB2:=Lib.hid hC.out.be
     have HX2:=Lib.hid hC.out.x
     obtain⟨wE,rfl⟩:∃W,W=wr:=⟨_,rfl⟩
     have ZwE:Hid (w.heap.size≤wE.heap.size):=HB2.out.size
     obtain⟨AD,rfl⟩:∃X,X=A:=⟨_,rfl⟩
     obtain⟨cD,rfl⟩:∃X,X=c:=⟨_,rfl⟩
     clear hC ho hkn hlt hk hND
     obtain⟨wF,hwF⟩:∃W,wE.alloc (.cells #[.slice AA NA cA,.slice AB NB cB,.slice AC NC cC,.slice AD ND cD] 68)=W:=⟨_,rfl⟩
     have ba:Below wE.heap.size wE wF:=by rw[←hwF];exact(Below.refl _ _).alloc (Nat.le_refl _) _
     have XF:Bx wE.heap.size #[.slice AA NA cA,.slice AB NB cB,.slice AC NC cC,.slice AD ND cD] 68 wF:=by rw[←hwF];exact Bx.last wE _ _
     have HF:Hid (ConPost D w (.returned (.slice (some ⟨wE.heap.size,0,none⟩) 4 4)) wF):=by
      unfold Hid ConPost
      rw[HNF.out,HNA.out,HNP.out]
      exact⟨_,_,_,_,_,_,_,_,_,_,_,_,_,rfl,XF,(HRA.out.base Zw2.out).below ba,(HRB.out.base ZwB.out).below ba,(HRC.out.base ZwC.out).below ba,(HRD.out.base ZwD.out).below ba,Below.then_ HB2.out ba⟩
     rw[←hwF] at HF
     clear hwF ba XF HRA HRB HRC HRD
     go_wp2
     go_ret
     exact HF.out
end Go.Proofs.YtgmehlgfilpleaaGreatDoor
