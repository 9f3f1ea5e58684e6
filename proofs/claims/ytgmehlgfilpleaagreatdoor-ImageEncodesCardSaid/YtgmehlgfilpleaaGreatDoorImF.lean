/-
  Contract: the image of any database is written (image.Encode).
-/
import Derived.Test.YtgmehlgfilpleaaGreatDoorCkP
import Derived.Test.YtgmehlgfilpleaaGreatDoorMG22
import Derived.Lib.SlBytesConst
namespace Go.Proofs.YtgmehlgfilpleaaGreatDoor
open Go.RowKit
set_option linter.unusedVariables false
set_option linter.unusedSimpArgs false
theorem WrTo.low {g B B0:Nat} {v v':Value} {out out0:List UInt8} {w w':World} (h:WrTo g B v out w v' w') (h0:WrR g B v out0 w) (hg:B0≤g) (hB:B0≤B) (hs:B0≤w.heap.size):Below B0 w w' :=
 h.f.below hs (fun k hk=>by
  rcases hk with e|e
  ·omega
  ·have:=(h0.own.lt k e).1;omega)
theorem WrR.new (w:World) (B:Nat) (hB:B≤w.heap.size):WrR w.heap.size B (.slice none 0 0) [] (w.alloc (.cells #[.slice none 0 0] 132)) :=
 ⟨Bx.last _ _ _,World.ownsRow_nil _ _ _ _,by simp;omega⟩
theorem WrR.bs {g B:Nat} {v:Value} {out:List UInt8} {w:World} (h:WrR g B v out w) (h0:0<out.length):∃b o c,v=.slice (some ⟨b,o,none⟩) out.length c∧out.length≤c∧c≤maxLen∧BsA w b o out:=by
 obtain⟨_,A,c,rfl,hc,hm,hx⟩:=Rd.of_own h.own
 obtain⟨b,o,rfl,hb,hcell⟩:=hx h0
 refine⟨b,o,c,rfl,hc,hm,hb,fun j u hu=>hcell j (u8c u) ?_⟩
 rw[List.getElem?_map,hu];rfl
structure EnS (w0:World) (qd gA:Nat) (db:Array Value) (vA:Value) (out:List UInt8) (w:World):Prop where
 x:Bx qd db 30 w
 a:WrR gA w0.heap.size vA out w
 be:Below w0.heap.size w0 w
 ne:qd≠gA
 lo:w0.heap.size≤gA
theorem EnS.below {w0 w w':World} {qd gA:Nat} {db:Array Value} {vA:Value} {out:List UInt8} (h:EnS w0 qd gA db vA out w) (hb:Below w.heap.size w w'):EnS w0 qd gA db vA out w' :=
 ⟨h.x.via hb,h.a.below hb,Below.then_ h.be hb,h.ne,h.lo⟩
structure EnW (w0:World) (qd gA gW:Nat) (db:Array Value) (vA:Value) (out:List UInt8) (vW:Value) (oW:List UInt8) (w:World):Prop where
 s:EnS w0 qd gA db vA out w
 w:WrR gW w0.heap.size vW oW w
 nA:gA≠gW
 nq:qd≠gW
 lo:w0.heap.size≤gW
 h1:vW.ownBlock≠some gA
 hd:∀b,vA.ownBlock=some b→vW.ownBlock≠some b∧b≠gW
theorem EnW.call {w0 w w':World} {qd gA gW:Nat} {db:Array Value} {vA vW vW':Value} {out oW oW':List UInt8} (h:EnW w0 qd gA gW db vA out vW oW w) (k:WrTo gW w0.heap.size vW oW' w vW' w'):EnW w0 qd gA gW db vA out vW' oW' w':=by
 have hs:=sep_to h.s.a h.h1 h.hd k.o
 exact⟨⟨k.box h.w h.s.x (by decide) h.nq,h.s.a.beside k h.nA h.h1 h.hd,h.s.be.trans (k.low h.w h.lo (Nat.le_refl _) h.s.be.size),h.s.ne,h.s.lo⟩,k.r,h.nA,h.nq,h.lo,hs.1,hs.2⟩
theorem EnS.new {w0 w:World} {qd gA:Nat} {db:Array Value} {vA:Value} {out:List UInt8} (h:EnS w0 qd gA db vA out w):EnW w0 qd gA w.heap.size db vA out (.slice none 0 0) [] (w.alloc (.cells #[.slice none 0 0] 132)):=by
 have hl:=h.a.bx.lt
 have hq:=h.x.lt
 refine⟨h.below ((Below.refl _ _).alloc (Nat.le_refl _) _),WrR.new w _ h.be.size,by omega,by omega,h.be.size,(by simp[Value.ownBlock]),fun b hb=>⟨by simp[Value.ownBlock],?_⟩⟩
 have:=(h.a.own.lt b hb).2
 omega
theorem EnW.close {w0 w w':World} {qd gA gW:Nat} {db:Array Value} {vA vA' vW:Value} {out out' oW:List UInt8} (h:EnW w0 qd gA gW db vA out vW oW w) (k:WrTo gA w0.heap.size vA out' w vA' w'):EnS w0 qd gA db vA' out' w' :=
 ⟨k.box h.s.a h.s.x (by decide) h.s.ne,k.r,h.s.be.trans (k.low h.s.a h.s.lo (Nat.le_refl _) h.s.be.size),h.s.ne,h.s.lo⟩
theorem EnW.sec {w0 w:World} {qd gA gW:Nat} {db:Array Value} {vA vW:Value} {out oW:List UInt8} (tag:UInt8) (h:EnW w0 qd gA gW db vA out vW oW w) (h0:0<oW.length) (hN:oW.length+out.length≤1000000) :
  Calls Tryz.prog 78 #[.pointer (some ⟨gW,0,none⟩),.pointer (some ⟨gA,0,none⟩),.int .u8 (tag.toNat:Int)] w fun e w'=>e=.returned (.tuple #[])∧∃vA',EnS w0 qd gA db vA' (out++secB tag oW) w' :=
 (wsection_any tag w h.w h.s.a (fun e=>h.nA e.symm) (fun e=>(h.hd gW e).2 rfl) (fun b hb=>⟨fun e=>(h.hd b e).1 hb,fun e=>h.h1 (e ▸ hb)⟩) h0 hN).mono (fun e w' hp=>by
  obtain⟨he,v',hk⟩:=hp
  exact⟨he,v',h.close hk⟩)
structure EnH (w0:World) (qd gA n2 gW qh:Nat) (db hd:Array Value) (vW:Value) (oW:List UInt8) (w:World):Prop where
 x:Bx qd db 30 w
 f:WrF gA (.slice (some ⟨n2,0,none⟩) 4 4) magicL w
 y:Bx qh hd 25 w
 r:WrR gW w0.heap.size vW oW w
 be:Below w0.heap.size w0 w
 ne:qd≠gA∧gA≠gW∧qd≠gW∧qh≠gW∧n2≠gW∧n2≠qd
 lo:w0.heap.size≤gA∧w0.heap.size≤gW∧w0.heap.size≤n2
 h1:vW.ownBlock≠some gA∧vW.ownBlock≠some n2
theorem EnH.call {w0 w w':World} {qd gA n2 gW qh:Nat} {db hd:Array Value} {vW vW':Value} {oW oW':List UInt8} (h:EnH w0 qd gA n2 gW qh db hd vW oW w) (k:WrTo gW w0.heap.size vW oW' w vW' w'):EnH w0 qd gA n2 gW qh db hd vW' oW' w':=by
 obtain⟨n1,n2',n3,n4,n5,n6⟩:=h.ne
 obtain⟨hx,b,hv,hbs⟩:=h.f
 injection hv with e1 e2 e3
 injection e1 with e1
 injection e1 with e1
 subst e1
 refine⟨k.box h.r h.x (by decide) n3,⟨(k.f.block gA hx.lt (fun e => ?_)).trans hx,n2,rfl,hbs.frm k.f (fun e => ?_)⟩,k.box h.r h.y (by decide) n4,k.r,h.be.trans (k.low h.r h.lo.2.1 (Nat.le_refl _) h.be.size),h.ne,h.lo,fun e => ?_,fun e => ?_⟩
 ·rcases e with e|e
  ·exact n2' e
  ·exact h.h1.1 e
 ·rcases e with e|e
  ·exact n5 e
  ·exact h.h1.2 e
 ·rcases k.o _ e with h2|h2
  ·exact h.h1.1 h2
  ·have:=hx.lt;omega
 ·rcases k.o _ e with h2|h2
  ·exact h.h1.2 h2
  ·have:=hbs.1;omega
theorem EnH.sec {w0 w:World} {qd gA n2 gW qh:Nat} {db hd:Array Value} {vW:Value} {oW:List UInt8} (h:EnH w0 qd gA n2 gW qh db hd vW oW w) (h0:0<oW.length) (hN:oW.length+4≤1000000) :
  Calls Tryz.prog 78 #[.pointer (some ⟨gW,0,none⟩),.pointer (some ⟨gA,0,none⟩),.int .u8 1] w fun e w'=>e=.returned (.tuple #[])∧∃vA',EnS w0 qd gA db vA' (magicL++secB 1 oW) w':=by
 obtain⟨n1,n2',n3,n4,n5,n6⟩:=h.ne
 refine(wsectionF_any (g1:=gW) (g2:=gA) (B2:=w0.heap.size) 1 w h.r h.f (fun e=>n2' e.symm) (by intro e;simp[Value.ownBlock] at e;omega) (fun b hb=>⟨by intro e;simp[Value.ownBlock] at e;subst e;exact h.h1.2 hb,fun e=>h.h1.1 (e ▸ hb)⟩) h0 hN h.be.size).mono ?_
 rintro e w' ⟨he,vA,ht⟩
 refine⟨he,vA,(ht.f.block qd h.x.lt (fun e => ?_)).trans h.x,ht.r,h.be.trans (ht.f.below h.be.size (fun k hk => ?_)),n1,h.lo.1⟩
 ·rcases e with e|e
  ·exact n1 e
  ·simp[Value.ownBlock] at e;omega
 ·have:=h.lo
  rcases hk with e|e
  ·omega
  ·simp[Value.ownBlock] at e;omega
def hdA (h:ImHd):Array Value := #[.string (sb h.nm),.int .i64 h.cy,.int .i64 h.fr,.int .i64 h.tu,.int .i64 h.la,.int .i64 h.lo]
theorem EnW.below {w0 w w':World} {qd gA gW:Nat} {db:Array Value} {vA vW:Value} {out oW:List UInt8} (h:EnW w0 qd gA gW db vA out vW oW w) (hb:Below w.heap.size w w'):EnW w0 qd gA gW db vA out vW oW w' :=
 ⟨h.s.below hb,h.w.below hb,h.nA,h.nq,h.lo,h.h1,h.hd⟩
theorem take_le {α : Type} (c : α → List UInt8) (l:List α) {k:Nat} (hk:k<l.length):((l.take k).flatMap c).length+(c l[k]).length≤(l.flatMap c).length:=by
 have h1:l.flatMap c=(l.take k).flatMap c++(c l[k]++(l.drop (k+1)).flatMap c):=by
  rw[←List.flatMap_cons,←List.flatMap_append,←List.drop_eq_getElem_cons hk,List.take_append_drop]
 rw[h1,List.length_append,List.length_append];omega
theorem take_more {α : Type} (c : α → List UInt8) (l:List α) {k:Nat} (hk:k<l.length):(l.take (k+1)).flatMap c=(l.take k).flatMap c++c l[k]:=by
 rw[List.take_succ_eq_append_getElem hk,List.flatMap_append,List.flatMap_cons,List.flatMap_nil,List.append_nil]
theorem txtL_two (a b:List UInt8):txtL [a,b]=txtB [sb a,sb b]:=by rw[show[sb a,sb b]=[a,b].map sb by rfl,txtB_map]
theorem txtL_one (a:List UInt8):txtL [a]=txtB [sb a]:=by rw[show[sb a]=[a].map sb by rfl,txtB_map]
theorem dbB_parts {D:DbD} (h:(dbB D).length≤900000):(lowB (D.fx.length:Int) 2++D.fx.flatMap fxB).length+(lowB (D.aw.length:Int) 2++D.aw.flatMap awB).length+(lowB (D.pr.length:Int) 2++D.pr.flatMap prB).length+(magicL++secB 1 (hdB D.hd)).length+15≤900000:=by
 unfold dbB conB secsB secsB secsB secsB secsB at h
 simp only[List.length_append,secB_len] at h ⊢
 simp only[List.length_nil] at h
 omega
set_option maxRecDepth 100000 in
set_option maxHeartbeats 80000000 in
theorem imEncode_any (D:DbD) (f a p:Value) (w:World) (hT:LegT w) (h:DbV w f a p D) (hz:SzD D) (hN:dbE D=0→(dbB D).length≤900000) :
  Calls Tryz.prog 20 #[.agg (dbC D.hd f a p).toArray] w fun e w'=>(dbE D≠0∧e=.returned (.tuple #[.slice none 0 0,.int .i64 (dbE D)])∧Below w.heap.size w w')∨(dbE D=0∧∃vp,e=.returned (.tuple #[vp,.int .i64 0])∧BsNew (sealL (dbB D)) w vp w'):=by
 obtain⟨R,hR⟩:∃R,dbE D=R:=⟨_,rfl⟩
 rw[hR] at hN
 rw[hR]
 have HH:=Lib.hid h
 obtain⟨Af,cf,rfl,hcf,hmf⟩:=h.fx.1.form
 obtain⟨Aa,ca,rfl,hca,hma⟩:=h.aw.form
 obtain⟨Ap,cp,rfl,hcp,hmp⟩:=h.pr.form
 unfold maxLen at hmf hma hmp
 obtain⟨n,hn⟩:∃n,D.fx.length=n:=⟨_,rfl⟩
 obtain⟨na,hna⟩:∃n,D.aw.length=n:=⟨_,rfl⟩
 obtain⟨np,hnp⟩:∃n,D.pr.length=n:=⟨_,rfl⟩
 rw[hn,hna,hnp] at HH
 rw[hn] at hcf
 rw[hna] at hca
 rw[hnp] at hcp
 rw[hn,hna,hnp]
 have HNF:=Lib.hid hn
 have HNA:=Lib.hid hna
 have HNP:=Lib.hid hnp
 have HN:=Lib.hid hN
 obtain⟨w1,hw1⟩:∃W,w.alloc (.cells (dbA D.hd (.slice Af n cf) (.slice Aa na ca) (.slice Ap np cp)) 30)=W:=⟨_,rfl⟩
 have HB1:Hid (Below w.heap.size w w1):=by rw[←hw1];exact(Below.refl _ _).alloc (Nat.le_refl _) _
 obtain⟨qd,hqd⟩:∃q,w.heap.size=q:=⟨_,rfl⟩
 have X1:Hid (Bx qd (dbA D.hd (.slice Af n cf) (.slice Aa na ca) (.slice Ap np cp)) 30 w1):=by rw[←hw1,←hqd];exact Bx.last w _ _
 have hck:=dbCheck_any D (.slice Af n cf) (.slice Aa na ca) (.slice Ap np cp) w1 (hT.below HB1.out) (HH.out.below HB1.out) hz
 rw[dbA_eq,hR] at hck
 have HCK:=Lib.hid hck
 have x0:=X1.out.cell 0 (u:=.string (sb D.hd.nm)) rfl
 have x1:=X1.out.cell 1 (u:=.int .i64 D.hd.cy) rfl
 have x2:=X1.out.cell 2 (u:=.int .i64 D.hd.fr) rfl
 have x3:=X1.out.cell 3 (u:=.int .i64 D.hd.tu) rfl
 have x4:=X1.out.cell 4 (u:=.int .i64 D.hd.la) rfl
 have x5:=X1.out.cell 5 (u:=.int .i64 D.hd.lo) rfl
 have x6:=X1.out.cell 6 (u:=.slice Af n cf) rfl
 have x7:=X1.out.cell 7 (u:=.slice Aa na ca) rfl
 have x8:=X1.out.cell 8 (u:=.slice Ap np cp) rfl
 have xl:=Bx.lt X1.out
 have HQD:=Lib.hid hqd
 have HR:=Lib.hid hR
 unfold dbA at hw1
 have HW1:=Lib.hid hw1
 rw[dbA_eq]
 unfold dbA
 unfold dbA at HCK
 clear h hw1 hqd hck hn hna hnp hN hR hT hz
 go_enter Tryz.func20,Tryz.ntmps20
 go_upto_region 1 with fail
 rw[HW1.out,HQD.out]
 clear HW1
 go_wp2_with fail
 refine HCK.out.mono ?_
 rintro e w2 ⟨rfl,hb2⟩
 have X2:=Lib.hid (X1.out.via hb2)
 have B2:=Lib.hid (Below.then_ HB1.out hb2)
 clear HCK x0 x1 x2 x3 x4 x5 x6 x7 x8 xl X1 HB1 hb2
 by_cases h0:R=0
 case neg =>
  have e0:(R != 0)=true:=bne_iff_ne.2 h0
  have H0:=Lib.hid h0
  clear h0
  go_wp2
  go_ret2
  exact .inl ⟨H0.out,rfl,B2.out⟩
 case pos =>
 have HL:Hid ((dbB D).length≤900000):=HN.out h0
 subst h0
 have kc:=Lib.run_convert_bytes_const (P:=Tryz.prog) w2 68 5 #[.int .u8 70,.int .u8 68,.int .u8 66,.int .u8 49] 4 4 Tryz.underlying68 Tryz.underlying5
 obtain⟨n2,hn2⟩:∃x,w2.heap.size=x:=⟨_,rfl⟩
 obtain⟨w3,hw3⟩:∃W,(w2.alloc (.cells #[.int .u8 70,.int .u8 68,.int .u8 66,.int .u8 49] 5 (4,5))).alloc (.cells #[.slice (some ⟨w2.heap.size,0,none⟩) 4 4] 132)=W:=⟨_,rfl⟩
 have hb3:Below w2.heap.size w2 w3:=by rw[←hw3];exact((Below.refl _ _).alloc (Nat.le_refl _) _).alloc (by simp) _
 have F3:Hid (WrF (n2+1) (.slice (some ⟨n2,0,none⟩) 4 4) magicL w3):=by
  have hx:Bx (n2+1) #[.slice (some ⟨n2,0,none⟩) 4 4] 132 w3:=by
   have h1:=Bx.last (w2.alloc (.cells #[.int .u8 70,.int .u8 68,.int .u8 66,.int .u8 49] 5 (4,5))) (#[.slice (some ⟨w2.heap.size,0,none⟩) 4 4]:Array Value) 132
   rw[hw3,World.size_alloc,hn2] at h1
   exact h1
  have h4:w3.heap[n2]? = some (.cells #[.int .u8 70,.int .u8 68,.int .u8 66,.int .u8 49] 5 (4,5)):=by
   have h5:(w2.alloc (.cells #[.int .u8 70,.int .u8 68,.int .u8 66,.int .u8 49] 5 (4,5))).heap[w2.heap.size]? = _:=heap_alloc_new w2 _
   have h6:=((Below.refl _ (w2.alloc (.cells #[.int .u8 70,.int .u8 68,.int .u8 66,.int .u8 49] 5 (4,5)))).alloc (Nat.le_refl _) (.cells #[.slice (some ⟨w2.heap.size,0,none⟩) 4 4] 132)).block w2.heap.size (by simp)
   rw[hw3] at h6
   rw[←hn2]
   exact h6.trans h5
  refine⟨hx,n2,rfl,heap_lt h4,fun j b hb => ?_⟩
  have h7:w3.cell? ⟨n2,j,none⟩=(#[.int .u8 70,.int .u8 68,.int .u8 66,.int .u8 49]:Array Value)[j]? := by simp[World.cell?,h4]
  rw[Nat.zero_add,h7]
  match j,hb with
  | 0,hb=>simp[magicL] at hb;subst hb;rfl
  | 1,hb=>simp[magicL] at hb;subst hb;rfl
  | 2,hb=>simp[magicL] at hb;subst hb;rfl
  | 3,hb=>simp[magicL] at hb;subst hb;rfl
  | j+4,hb=>simp[magicL] at hb
 have X3:=Lib.hid (X2.out.via hb3)
 have B3:=Lib.hid (Below.then_ B2.out hb3)
 have hs3:w3.heap.size=n2+1+1:=by rw[←hw3];simp only[World.size_alloc];omega
 have hqn:qd<n2:=by rw[←hn2];exact X2.out.lt
 have HW3:=Lib.hid hw3
 have HN2:=Lib.hid hn2
 have HS3:=Lib.hid hs3
 clear hb3 hs3 hw3 hn2 X2 B2
 go_upto_region 5 with fail
 rw[HW3.out,HN2.out]
 clear HW3 HN2 kc
 have x0:=X3.out.cell 0 (u:=.string (sb D.hd.nm)) rfl
 have x1:=X3.out.cell 1 (u:=.int .i64 D.hd.cy) rfl
 have x2:=X3.out.cell 2 (u:=.int .i64 D.hd.fr) rfl
 have x3:=X3.out.cell 3 (u:=.int .i64 D.hd.tu) rfl
 have x4:=X3.out.cell 4 (u:=.int .i64 D.hd.la) rfl
 have x5:=X3.out.cell 5 (u:=.int .i64 D.hd.lo) rfl
 have xl:=Bx.lt X3.out
 obtain⟨gA,hgA⟩:∃x,n2+1=x:=⟨_,rfl⟩
 rw[hgA] at F3 HS3 ⊢
 have hqA:qd<gA:=by omega
 have hnA:n2<gA:=by omega
 clear hgA
 obtain⟨w4,hw4⟩:∃W,w3.alloc (.cells (hdA D.hd) 25)=W:=⟨_,rfl⟩
 have hb4:Below w3.heap.size w3 w4:=by rw[←hw4];exact(Below.refl _ _).alloc (Nat.le_refl _) _
 obtain⟨qh,hqh⟩:∃x,w3.heap.size=x:=⟨_,rfl⟩
 have Y4:Hid (Bx qh (hdA D.hd) 25 w4):=by rw[←hw4,←hqh];exact Bx.last w3 _ _
 have F4:=Lib.hid (F3.out.below hb4)
 have X4:=Lib.hid (X3.out.via hb4)
 have B4:=Lib.hid (Below.then_ B3.out hb4)
 unfold hdA at hw4
 have HW4:=Lib.hid hw4
 have HQH:=Lib.hid hqh
 have hqhA:gA<qh:=by rw[←hqh,HS3.out];omega
 clear hb4 hw4 hqh F3 X3 B3 HS3
 go_upto_region 6 with fail
 rw[HW4.out,HQH.out]
 clear HW4 HQH x0 x1 x2 x3 x4 x5 xl
 obtain⟨w5,hw5⟩:∃W,w4.alloc (.cells #[.slice none 0 0] 132)=W:=⟨_,rfl⟩
 have hb5:Below w4.heap.size w4 w5:=by rw[←hw5];exact(Below.refl _ _).alloc (Nat.le_refl _) _
 obtain⟨gW,hgW⟩:∃x,w4.heap.size=x:=⟨_,rfl⟩
 have E5:Hid (EnH w qd gA n2 gW qh (dbA D.hd (.slice Af n cf) (.slice Aa na ca) (.slice Ap np cp)) (hdA D.hd) (.slice none 0 0) [] w5):=by
  have hl:=Y4.out.lt
  have h2:=HQD.out
  refine⟨X4.out.via hb5,F4.out.below hb5,Y4.out.via hb5,?_,Below.then_ B4.out hb5,by omega,by omega,by simp[Value.ownBlock],by simp[Value.ownBlock]⟩
  rw[←hgW,←hw5];exact WrR.new w4 _ B4.out.size
 have HW5:=Lib.hid hw5
 have HGW:=Lib.hid hgW
 clear hb5 hw5 hgW F4 X4 B4 Y4
 go_upto_region 7 with fail
 rw[HW5.out,HGW.out]
 clear HW5 HGW
 have y0:=E5.out.y.cell 0 (u:=.string (sb D.hd.nm)) rfl
 have yl:=E5.out.y.lt
 have HDB:Hid (hdB D.hd=txtB [sb D.hd.nm]++numB [D.hd.cy,D.hd.fr,D.hd.tu,D.hd.la,D.hd.lo]):=by
  unfold Hid hdB;rw[show[sb D.hd.nm]=[D.hd.nm].map sb by rfl,txtB_map]
 have HDL:Hid ((hdB D.hd).length≤900000):=by
  have h1:=HL.out
  unfold dbB conB secsB secB at h1
  simp only[List.length_append,List.length_cons] at h1
  unfold Hid;omega
 have hdl:=HDL.out
 rw[HDB.out,List.length_append] at hdl
 go_wp2_with fail
 refine(wtextC [sb D.hd.nm] 1 rfl _ E5.out.r (by simp only[List.length_nil];omega)).mono ?_
 rintro e w7 ⟨rfl,v7,k7⟩
 have E7:=Lib.hid (E5.out.call k7)
 clear k7 E5 y0 yl
 have y1:=E7.out.y.cell 1 (u:=.int .i64 D.hd.cy) rfl
 have y2:=E7.out.y.cell 2 (u:=.int .i64 D.hd.fr) rfl
 have y3:=E7.out.y.cell 3 (u:=.int .i64 D.hd.tu) rfl
 have y4:=E7.out.y.cell 4 (u:=.int .i64 D.hd.la) rfl
 have y5:=E7.out.y.cell 5 (u:=.int .i64 D.hd.lo) rfl
 have yl:=E7.out.y.lt
 go_wp2_with fail
 refine(wnumbersC [D.hd.cy,D.hd.fr,D.hd.tu,D.hd.la,D.hd.lo] 5 rfl _ E7.out.r (by simp only[List.nil_append];omega) (by decide)).mono ?_
 rintro e w9 ⟨rfl,v9,k9⟩
 have E9:=E7.out.call k9
 rw[List.nil_append,←HDB.out] at E9
 replace E9:=Lib.hid E9
 have hse:=Lib.hid (E9.out.sec (by rw[HDB.out,List.length_append];unfold txtB;simp;omega) (by have:=HDL.out;omega))
 clear k9 E7 y1 y2 y3 y4 y5 yl E9 hdl
 go_wp2_with fail
 refine hse.out.mono ?_
 rintro e w10 ⟨rfl,vA,hS10⟩
 have S10:=Lib.hid hS10
 clear hse hS10 hqhA hqA hnA hqn
 have HPT:=Lib.hid (dbB_parts HL.out)
 rw[HNF.out,HNA.out,HNP.out] at HPT
 obtain⟨O1,hO1⟩:∃x,magicL++secB 1 (hdB D.hd)=x:=⟨_,rfl⟩
 rw[hO1] at S10 HPT
 have HO1:=Lib.hid hO1
 obtain⟨w11,hw11⟩:∃W,w10.alloc (.cells #[.slice none 0 0] 132)=W:=⟨_,rfl⟩
 obtain⟨g11,hg11⟩:∃x,w10.heap.size=x:=⟨_,rfl⟩
 have S11:=S10.out.new
 rw[hw11,hg11] at S11
 replace S11:=Lib.hid S11
 have HW:=Lib.hid hw11
 have HG:=Lib.hid hg11
 clear hw11 hg11 S10 hO1 HDB HDL
 go_upto_region 11 with fail
 rw[HW.out,HG.out]
 clear HW HG
 have xc:=S11.out.s.x.cell 6 (u:=.slice Af n cf) rfl
 have xl:=S11.out.s.x.lt
 have hlo:=Lib.hid (wlow_any (n:Int) 2 (by omega) w11 S11.out.w (by simp))
 go_wp2_with fail
 refine hlo.out.mono ?_
 rintro e w12 ⟨rfl,v12,ht⟩
 have S12:=S11.out.call ht
 rw[List.nil_append] at S12
 replace S12:=Lib.hid S12
 clear hlo ht xc xl S11
 have xc:=S12.out.s.x.cell 6 (u:=.slice Af n cf) rfl
 have xl:=S12.out.s.x.lt
 go_wp2_with fail
 go_loopw [66] (fun iv wr=>∃(k:Nat) (vk:Value),k≤n∧iv=.int .i64 (k:Int)∧Hid (EnW w qd gA g11 (dbA D.hd (.slice Af n cf) (.slice Aa na ca) (.slice Ap np cp)) vA O1 vk (lowB (n:Int) 2++(D.fx.take k).flatMap fxB) wr)) (fun iv _=>n-(intOf iv).toNat)
 case atStart=>exact⟨0,v12,Nat.zero_le _,rfl,by rw[List.take_zero,List.flatMap_nil,List.append_nil];exact S12.out⟩
 case round =>
 clear xc xl S12
 obtain⟨k,vk,hk,rfl,hs⟩:=hrel
 by_cases hlt:k<n
 ·have hkl:k<D.fx.length:=by rw[HNF.out];exact hlt
  have HR2:=Lib.hid (HH.out.fx.1.below hs.out.s.be)
  obtain⟨g,o,c',hA,hgl,hat⟩:=FxsR.at_ (by have:=HR2.out;rw[←HNF.out] at this;exact this:FxsR wr (.slice Af D.fx.length cf) D.fx) hkl
  rw[HNF.out] at hA
  simp only[Value.slice.injEq,true_and] at hA
  obtain⟨rfl,rfl⟩:=hA
  have hkd:=(HH.out.fx.2 _ (List.getElem_mem hkl)).2.2
  have HTL:=Lib.hid (take_le fxB D.fx hkl)
  have HTM:=Lib.hid (take_more fxB D.fx hkl)
  obtain⟨f,hf⟩:∃f,D.fx[k]=f:=⟨_,rfl⟩
  rw[hf] at hat hkd HTL HTM
  obtain⟨y0,y1,y2,y3,y4,y5,y6⟩:=hat
  have hki:(k:Int)<(n:Int):=by omega
  obtain⟨wA,hwA⟩:∃W,wr.alloc (.cells #[.string (sb f.id),.string (sb f.rg),.int .u8 (f.kd:Int),.int .i64 f.lat,.int .i64 f.lon,.int .i64 f.el,.int .i64 f.ra] 38)=W:=⟨_,rfl⟩
  have BA:Hid (Below wr.heap.size wr wA):=by rw[←hwA];exact(Below.refl _ _).alloc (Nat.le_refl _) _
  obtain⟨qf,hqf⟩:∃q,wr.heap.size=q:=⟨_,rfl⟩
  have XA:Hid (Bx qf #[.string (sb f.id),.string (sb f.rg),.int .u8 (f.kd:Int),.int .i64 f.lat,.int .i64 f.lon,.int .i64 f.el,.int .i64 f.ra] 38 wA):=by rw[←hwA,←hqf];exact Bx.last wr _ _
  have hqg:qf≠g11:=by have:=hs.out.w.bx.lt;omega
  have SA:=Lib.hid (hs.out.below BA.out)
  have HWA:=Lib.hid hwA
  have HQF:=Lib.hid hqf
  have HFX:Hid (fxB f=txtB [sb f.id,sb f.rg]++([u8b f.kd]++numB [f.lat,f.lon,f.el,f.ra])):=by unfold Hid fxB;rw[txtL_two]
  have hbn:(lowB (n:Int) 2++(D.fx.take k).flatMap fxB).length+((txtB [sb f.id,sb f.rg]).length+(1+(numB [f.lat,f.lon,f.el,f.ra]).length))≤900000:=by
   have h1:=HTL.out
   have h2:=HPT.out
   rw[HFX.out] at h1
   simp only[List.length_append,List.length_cons,List.length_nil] at h1 h2 ⊢
   omega
  have HBN:=Lib.hid hbn
  have HKD:=Lib.hid (u8c_u8b hkd)
  clear hqf hf hwA hs hkd HR2 hbn HTL
  go_upto_region 15 with fail
  rw[HWA.out,HQF.out]
  clear HWA y0 y1 y2 y3 y4 y5 y6
  have y0:=XA.out.cell 0 (u:=.string (sb f.id)) rfl
  have y1:=XA.out.cell 1 (u:=.string (sb f.rg)) rfl
  have yl:=XA.out.lt
  go_wp2_with fail
  refine(wtextC [sb f.id,sb f.rg] 2 rfl _ SA.out.w (by have:=HBN.out;omega)).mono ?_
  rintro e wB ⟨rfl,vB,kB⟩
  have XB:=Lib.hid (kB.box SA.out.w XA.out (by decide) hqg)
  have SB:=Lib.hid (SA.out.call kB)
  clear kB SA XA y0 y1 yl
  have y2:=XB.out.cell 2 (u:=.int .u8 (f.kd:Int)) rfl
  have yl:=XB.out.lt
  go_wp2_with fail
  refine(wbytesC [u8b f.kd] [.int .u8 (f.kd:Int)] 1 (by rw[List.map_cons,List.map_nil,HKD.out]) rfl (by decide) _ SB.out.w (by have:=HBN.out;simp only[List.length_append,List.length_cons,List.length_nil] at this ⊢;omega)).mono ?_
  rintro e wC ⟨rfl,vC,kC⟩
  have XC:=Lib.hid (kC.box SB.out.w XB.out (by decide) hqg)
  have SC:=Lib.hid (SB.out.call kC)
  clear kC SB XB y2 yl
  have y3:=XC.out.cell 3 (u:=.int .i64 f.lat) rfl
  have y4:=XC.out.cell 4 (u:=.int .i64 f.lon) rfl
  have y5:=XC.out.cell 5 (u:=.int .i64 f.el) rfl
  have y6:=XC.out.cell 6 (u:=.int .i64 f.ra) rfl
  have yl:=XC.out.lt
  go_wp2_with fail
  refine(wnumbersC [f.lat,f.lon,f.el,f.ra] 4 rfl _ SC.out.w (by have:=HBN.out;simp only[List.length_append,List.length_cons,List.length_nil] at this ⊢;omega) (by decide)).mono ?_
  rintro e wE ⟨rfl,vE,kE⟩
  have SE:=SC.out.call kE
  rw[show((lowB (n:Int) 2++(D.fx.take k).flatMap fxB++txtB [sb f.id,sb f.rg])++[u8b f.kd])++numB [f.lat,f.lon,f.el,f.ra]=lowB (n:Int) 2++(D.fx.take (k+1)).flatMap fxB by rw[HTM.out,HFX.out];simp only[List.append_assoc]] at SE
  replace SE:=Lib.hid SE
  clear kE SC XC y3 y4 y5 y6 yl
  go_wp2
  go_roundw
  case rel=>exact⟨k+1,vE,hlt,by go_num,SE⟩
  case measure=>simp[intOf];omega
 ·have hki:¬(k:Int)<(n:Int):=by omega
  have hkn:D.fx.take k=D.fx:=List.take_of_length_le (by rw[HNF.out];omega)
  rw[hkn] at hs
  have hse:=Lib.hid (hs.out.sec 2 (by rw[List.length_append,lowB_len];omega) (by have:=HPT.out;omega))
  clear hkn hs hlt hk
  go_wp2_with fail
  refine hse.out.mono ?_
  rintro e w13 ⟨rfl,vA13,hs⟩
  have S13:=Lib.hid hs
  clear hse hs
  obtain⟨O2,hO2⟩:∃x,O1++secB 2 (lowB (n:Int) 2++D.fx.flatMap fxB)=x:=⟨_,rfl⟩
  rw[hO2] at S13
  have hO2l:O2.length=O1.length+(5+(lowB (n:Int) 2++D.fx.flatMap fxB).length):=by rw[←hO2,List.length_append,secB_len]
  have HO2:=Lib.hid hO2
  have HO2L:=Lib.hid hO2l
  obtain⟨w14,hw14⟩:∃W,w13.alloc (.cells #[.slice none 0 0] 132)=W:=⟨_,rfl⟩
  obtain⟨g14,hg14⟩:∃x,w13.heap.size=x:=⟨_,rfl⟩
  have S14:=S13.out.new
  rw[hw14,hg14] at S14
  replace S14:=Lib.hid S14
  have HW:=Lib.hid hw14
  have HG:=Lib.hid hg14
  clear hw14 hg14 S13 hO2 hO2l
  go_upto_region 21 with fail
  rw[HW.out,HG.out]
  clear HW HG
  have xc:=S14.out.s.x.cell 7 (u:=.slice Aa na ca) rfl
  have xl:=S14.out.s.x.lt
  have hlo:=Lib.hid (wlow_any (na:Int) 2 (by omega) w14 S14.out.w (by simp))
  go_wp2_with fail
  refine hlo.out.mono ?_
  rintro e w15 ⟨rfl,v15,ht⟩
  have S15:=S14.out.call ht
  rw[List.nil_append] at S15
  replace S15:=Lib.hid S15
  clear hlo ht xc xl S14
  have xc:=S15.out.s.x.cell 7 (u:=.slice Aa na ca) rfl
  have xl:=S15.out.s.x.lt
  go_wp2_with fail
  go_loopw [109] (fun iv wr=>∃(k:Nat) (vk:Value),k≤na∧iv=.int .i64 (k:Int)∧Hid (EnW w qd gA g14 (dbA D.hd (.slice Af n cf) (.slice Aa na ca) (.slice Ap np cp)) vA13 O2 vk (lowB (na:Int) 2++(D.aw.take k).flatMap awB) wr)) (fun iv _=>na-(intOf iv).toNat)
  case atStart=>exact⟨0,v15,Nat.zero_le _,rfl,by rw[List.take_zero,List.flatMap_nil,List.append_nil];exact S15.out⟩
  case round =>
  clear xc xl S15 hki
  obtain⟨k,vk,hk,rfl,hs⟩:=hrel
  by_cases hlt:k<na
  ·have hkl:k<D.aw.length:=by rw[HNA.out];exact hlt
   have HR2:=Lib.hid HH.out.aw
   obtain⟨g,o,c',av,hA,hgl,hat,hnl,hps⟩:=AwsD.at_ (by have:=HR2.out;rw[←HNA.out] at this;exact this:AwsD w (.slice Aa D.aw.length ca) D.aw) hkl
   rw[HNA.out] at hA
   simp only[Value.slice.injEq,true_and] at hA
   obtain⟨rfl,rfl⟩:=hA
   have HTL:=Lib.hid (take_le awB D.aw hkl)
   have HTM:=Lib.hid (take_more awB D.aw hkl)
   obtain⟨x,hx⟩:∃x,D.aw[k]=x:=⟨_,rfl⟩
   rw[hx] at hat hps HTL HTM
   obtain⟨nm,ps⟩:=x
   simp only at hps
   obtain⟨Av,cv,rfl,hcv,hmv⟩:=hps.form
   unfold maxLen at hmv
   obtain⟨m,hm⟩:∃m,ps.length=m:=⟨_,rfl⟩
   have HPS:=Lib.hid hps
   obtain⟨y0,y1⟩:=hat.below hgl hs.out.s.be
   simp only at y0
   rw[hm] at hcv y1 HPS
   have HM:=Lib.hid hm
   have hgw:g<wr.heap.size:=Nat.lt_of_lt_of_le hgl hs.out.s.be.size
   have hki:(k:Int)<(na:Int):=by omega
   obtain⟨wA,hwA⟩:∃W,wr.alloc (.cells #[.string (sb nm),.slice Av m cv] 48)=W:=⟨_,rfl⟩
   have BA:Hid (Below wr.heap.size wr wA):=by rw[←hwA];exact(Below.refl _ _).alloc (Nat.le_refl _) _
   obtain⟨qf,hqf⟩:∃q,wr.heap.size=q:=⟨_,rfl⟩
   have XA:Hid (Bx qf #[.string (sb nm),.slice Av m cv] 48 wA):=by rw[←hwA,←hqf];exact Bx.last wr _ _
   have hqg:qf≠g14:=by have:=hs.out.w.bx.lt;omega
   have SA:=Lib.hid (hs.out.below BA.out)
   have HWA:=Lib.hid hwA
   have HQF:=Lib.hid hqf
   have HFX:Hid (awB ⟨nm,ps⟩=txtB [sb nm]++(lowB (m:Int) 2++ps.flatMap ptB)):=by unfold Hid awB;rw[txtL_one,hm]
   have hbn:(lowB (na:Int) 2++(D.aw.take k).flatMap awB).length+((txtB [sb nm]).length+(2+(ps.flatMap ptB).length))≤900000:=by
    have h1:=HTL.out
    have h2:=HPT.out
    rw[HFX.out] at h1
    simp only[List.length_append,List.length_cons,List.length_nil,lowB_len] at h1 h2 ⊢
    omega
   have HBN:=Lib.hid hbn
   clear hqf hx hwA hs hps hat HR2 hbn HTL hm hnl
   go_upto_region 25 with fail
   rw[HWA.out,HQF.out]
   clear HWA y0 y1
   have y0:=XA.out.cell 0 (u:=.string (sb nm)) rfl
   have yl:=XA.out.lt
   go_wp2_with fail
   refine(wtextC [sb nm] 1 rfl _ SA.out.w (by have:=HBN.out;omega)).mono ?_
   rintro e wB ⟨rfl,vB,kB⟩
   have XB:=Lib.hid (kB.box SA.out.w XA.out (by decide) hqg)
   have SB:=Lib.hid (SA.out.call kB)
   clear kB SA XA y0 yl
   have y1:=XB.out.cell 1 (u:=.slice Av m cv) rfl
   have yl:=XB.out.lt
   go_wp2_with fail
   refine(wlow_any (m:Int) 2 (by omega) _ SB.out.w (by have:=HBN.out;simp only[List.length_append] at this ⊢;omega)).mono ?_
   rintro e wC ⟨rfl,vC,kC⟩
   have XC:=Lib.hid (kC.box SB.out.w XB.out (by decide) hqg)
   have SC:=Lib.hid (SB.out.call kC)
   clear kC SB XB y1 yl
   obtain⟨PX,hPX⟩:∃x,lowB (na:Int) 2++(D.aw.take k).flatMap awB++txtB [sb nm]++lowB (m:Int) 2=x:=⟨_,rfl⟩
   rw[hPX] at SC
   have hpl:PX.length+(ps.flatMap ptB).length≤900000:=by
    have:=HBN.out
    rw[←hPX]
    simp only[List.length_append,lowB_len] at this ⊢;omega
   have HPX:Hid (lowB (na:Int) 2++(D.aw.take (k+1)).flatMap awB=PX++ps.flatMap ptB):=by
    unfold Hid;rw[HTM.out,HFX.out,←hPX];simp only[List.append_assoc]
   have HPL:=Lib.hid hpl
   clear hPX hpl HTM HFX HBN
   have y1:=XC.out.cell 1 (u:=.slice Av m cv) rfl
   have yl:=XC.out.lt
   go_wp2_with fail
   go_loopw [126] (fun iv wr=>∃(i:Nat) (vk:Value),i≤m∧iv=.int .i64 (i:Int)∧Hid (EnW w qd gA g14 (dbA D.hd (.slice Af n cf) (.slice (some ⟨g,o,none⟩) na ca) (.slice Ap np cp)) vA13 O2 vk (PX++(ps.take i).flatMap ptB) wr)) (fun iv _=>m-(intOf iv).toNat)
   case atStart=>exact⟨0,vC,Nat.zero_le _,rfl,by rw[List.take_zero,List.flatMap_nil,List.append_nil];exact SC.out⟩
   case round =>
   clear y1 yl SC XC
   obtain⟨i,vi,hi,rfl,hs⟩:=hrel
   by_cases hlm:i<m
   ·have hil:i<ps.length:=by rw[HM.out];exact hlm
    have HR3:=Lib.hid (HPS.out.below hs.out.s.be)
    have hpd:=(HPS.out.2 _ (List.getElem_mem hil)).2
    obtain⟨g2,o2,c2',hA2,hgl2,u0,u1,u2,u3⟩:=PtsR.at_ (by have:=HR3.out;rw[←HM.out] at this;exact this:PtsR wr (.slice Av ps.length cv) ps) hil
    rw[HM.out] at hA2
    simp only[Value.slice.injEq,true_and] at hA2
    obtain⟨rfl,rfl⟩:=hA2
    have HTL:=Lib.hid (take_le ptB ps hil)
    have HTM:=Lib.hid (take_more ptB ps hil)
    obtain⟨p,hp⟩:∃p,ps[i]=p:=⟨_,rfl⟩
    rw[hp] at u0 u1 u2 u3 hpd HTL HTM
    obtain⟨pr,pl,ph,pd⟩:=p
    simp only at u0 u1 u2 u3 hpd
    have him:(i:Int)<(m:Int):=by omega
    obtain⟨wD,hwD⟩:∃W,wr.alloc (.cells #[.string (sb pr),.int .i64 pl,.int .i64 ph,.int .u8 (pd:Int)] 53)=W:=⟨_,rfl⟩
    have BD:Hid (Below wr.heap.size wr wD):=by rw[←hwD];exact(Below.refl _ _).alloc (Nat.le_refl _) _
    obtain⟨q8,hq8⟩:∃q,wr.heap.size=q:=⟨_,rfl⟩
    have XD:Hid (Bx q8 #[.string (sb pr),.int .i64 pl,.int .i64 ph,.int .u8 (pd:Int)] 53 wD):=by rw[←hwD,←hq8];exact Bx.last wr _ _
    have hq8g:q8≠g14:=by have:=hs.out.w.bx.lt;omega
    have SD:=Lib.hid (hs.out.below BD.out)
    have HWD:=Lib.hid hwD
    have HQ8:=Lib.hid hq8
    have HPB:Hid (ptB ⟨pr,pl,ph,pd⟩=txtB [sb pr]++(numB [pl,ph]++[u8b pd])):=by unfold Hid ptB;rw[txtL_one]
    have hbn:(PX++(ps.take i).flatMap ptB).length+((txtB [sb pr]).length+((numB [pl,ph]).length+1))≤900000:=by
     have h1:=HTL.out
     have h2:=HPL.out
     rw[HPB.out] at h1
     simp only[List.length_append,List.length_cons,List.length_nil] at h1 h2 ⊢
     omega
    have HBN:=Lib.hid hbn
    have HKD:=Lib.hid (u8c_u8b hpd)
    clear hq8 hp hwD hs hpd HR3 hbn HTL
    go_upto_region 30 with fail
    rw[HWD.out,HQ8.out]
    clear HWD u0 u1 u2 u3
    have u0:=XD.out.cell 0 (u:=.string (sb pr)) rfl
    have ul:=XD.out.lt
    go_wp2_with fail
    refine(wtextC [sb pr] 1 rfl _ SD.out.w (by have:=HBN.out;omega)).mono ?_
    rintro e wE ⟨rfl,vE,kE⟩
    have XE:=Lib.hid (kE.box SD.out.w XD.out (by decide) hq8g)
    have SE:=Lib.hid (SD.out.call kE)
    clear kE SD XD u0 ul
    have u1:=XE.out.cell 1 (u:=.int .i64 pl) rfl
    have u2:=XE.out.cell 2 (u:=.int .i64 ph) rfl
    have ul:=XE.out.lt
    go_wp2_with fail
    refine(wnumbersC [pl,ph] 2 rfl _ SE.out.w (by have:=HBN.out;simp only[List.length_append] at this ⊢;omega) (by decide)).mono ?_
    rintro e wF ⟨rfl,vF,kF⟩
    have XF:=Lib.hid (kF.box SE.out.w XE.out (by decide) hq8g)
    have SF:=Lib.hid (SE.out.call kF)
    clear kF SE XE u1 u2 ul
    have u3:=XF.out.cell 3 (u:=.int .u8 (pd:Int)) rfl
    have ul:=XF.out.lt
    go_wp2_with fail
    refine(wbytesC [u8b pd] [.int .u8 (pd:Int)] 1 (by rw[List.map_cons,List.map_nil,HKD.out]) rfl (by decide) _ SF.out.w (by have:=HBN.out;simp only[List.length_append,List.length_cons,List.length_nil] at this ⊢;omega)).mono ?_
    rintro e wG ⟨rfl,vG,kG⟩
    have SG:=SF.out.call kG
    rw[show((PX++(ps.take i).flatMap ptB++txtB [sb pr])++numB [pl,ph])++[u8b pd]=PX++(ps.take (i+1)).flatMap ptB by rw[HTM.out,HPB.out];simp only[List.append_assoc]] at SG
    replace SG:=Lib.hid SG
    clear kG SF XF u3 ul
    go_wp2
    go_roundw
    case rel=>exact⟨i+1,vG,hlm,by go_num,SG⟩
    case measure=>simp[intOf];omega
   ·have him:¬(i:Int)<(m:Int):=by omega
    have hin:ps.take i=ps:=List.take_of_length_le (by rw[HM.out];omega)
    rw[hin,←HPX.out] at hs
    have SZ:=Lib.hid hs.out
    clear hin hs
    go_wp2
    go_roundw
    case rel=>exact⟨k+1,vi,hlt,by go_num,SZ⟩
    case measure=>simp[intOf];omega
  ·have hki:¬(k:Int)<(na:Int):=by omega
   have hkn:D.aw.take k=D.aw:=List.take_of_length_le (by rw[HNA.out];omega)
   rw[hkn] at hs
   have hse:=Lib.hid (hs.out.sec 3 (by rw[List.length_append,lowB_len];omega) (by have:=HPT.out;have:=HO2L.out;omega))
   clear hkn hs hlt hk
   go_wp2_with fail
   refine hse.out.mono ?_
   rintro e w16 ⟨rfl,vA16,hs⟩
   have S16:=Lib.hid hs
   clear hse hs
   obtain⟨O3,hO3⟩:∃x,O2++secB 3 (lowB (na:Int) 2++D.aw.flatMap awB)=x:=⟨_,rfl⟩
   rw[hO3] at S16
   have hO3l:O3.length=O2.length+(5+(lowB (na:Int) 2++D.aw.flatMap awB).length):=by rw[←hO3,List.length_append,secB_len]
   have HO3:=Lib.hid hO3
   have HO3L:=Lib.hid hO3l
   obtain⟨w17,hw17⟩:∃W,w16.alloc (.cells #[.slice none 0 0] 132)=W:=⟨_,rfl⟩
   obtain⟨g17,hg17⟩:∃x,w16.heap.size=x:=⟨_,rfl⟩
   have S17:=S16.out.new
   rw[hw17,hg17] at S17
   replace S17:=Lib.hid S17
   have HW:=Lib.hid hw17
   have HG:=Lib.hid hg17
   clear hw17 hg17 S16 hO3 hO3l
   go_upto_region 37 with fail
   rw[HW.out,HG.out]
   clear HW HG
   have xc:=S17.out.s.x.cell 8 (u:=.slice Ap np cp) rfl
   have xl:=S17.out.s.x.lt
   have hlo:=Lib.hid (wlow_any (np:Int) 2 (by omega) w17 S17.out.w (by simp))
   go_wp2_with fail
   refine hlo.out.mono ?_
   rintro e w18 ⟨rfl,v18,ht⟩
   have S18:=S17.out.call ht
   rw[List.nil_append] at S18
   replace S18:=Lib.hid S18
   clear hlo ht xc xl S17
   have xc:=S18.out.s.x.cell 8 (u:=.slice Ap np cp) rfl
   have xl:=S18.out.s.x.lt
   go_wp2_with fail
   go_loopw [164] (fun iv wr=>∃(k:Nat) (vk:Value),k≤np∧iv=.int .i64 (k:Int)∧Hid (EnW w qd gA g17 (dbA D.hd (.slice Af n cf) (.slice Aa na ca) (.slice Ap np cp)) vA16 O3 vk (lowB (np:Int) 2++(D.pr.take k).flatMap prB) wr)) (fun iv _=>np-(intOf iv).toNat)
   case atStart=>exact⟨0,v18,Nat.zero_le _,rfl,by rw[List.take_zero,List.flatMap_nil,List.append_nil];exact S18.out⟩
   case round =>
   clear xc xl S18 hki
   obtain⟨k,vk,hk,rfl,hs⟩:=hrel
   by_cases hlt:k<np
   ·have hkl:k<D.pr.length:=by rw[HNP.out];exact hlt
    have HR2:=Lib.hid HH.out.pr
    obtain⟨g,o,c',pv,hA,hgl,hat,hap,hnm,hkd,hpa⟩:=PrcsR.at_ (by have:=HR2.out;rw[←HNP.out] at this;exact this:PrcsR w (.slice Ap D.pr.length cp) D.pr) hkl
    rw[HNP.out] at hA
    simp only[Value.slice.injEq,true_and] at hA
    obtain⟨rfl,rfl⟩:=hA
    have HTL:=Lib.hid (take_le prB D.pr hkl)
    have HTM:=Lib.hid (take_more prB D.pr hkl)
    obtain⟨x,hx⟩:∃x,D.pr[k]=x:=⟨_,rfl⟩
    rw[hx] at hat hkd hpa HTL HTM
    obtain⟨ap,nm,kd,pa⟩:=x
    simp only at hpa hkd
    obtain⟨Av,cv,rfl,hcv,hmv⟩:=hpa.form
    unfold maxLen at hmv
    obtain⟨m,hm⟩:∃m,pa.length=m:=⟨_,rfl⟩
    have HPS:=Lib.hid hpa
    obtain⟨y0,y1,y2,y3⟩:=hat.below hgl hs.out.s.be
    simp only at y0 y1 y2
    rw[hm] at hcv y3 HPS
    have HM:=Lib.hid hm
    have hgw:g<wr.heap.size:=Nat.lt_of_lt_of_le hgl hs.out.s.be.size
    have hki:(k:Int)<(np:Int):=by omega
    obtain⟨wA,hwA⟩:∃W,wr.alloc (.cells #[.string (sb ap),.string (sb nm),.int .u8 (kd:Int),.slice Av m cv] 57)=W:=⟨_,rfl⟩
    have BA:Hid (Below wr.heap.size wr wA):=by rw[←hwA];exact(Below.refl _ _).alloc (Nat.le_refl _) _
    obtain⟨qf,hqf⟩:∃q,wr.heap.size=q:=⟨_,rfl⟩
    have XA:Hid (Bx qf #[.string (sb ap),.string (sb nm),.int .u8 (kd:Int),.slice Av m cv] 57 wA):=by rw[←hwA,←hqf];exact Bx.last wr _ _
    have hqg:qf≠g17:=by have:=hs.out.w.bx.lt;omega
    have SA:=Lib.hid (hs.out.below BA.out)
    have HWA:=Lib.hid hwA
    have HQF:=Lib.hid hqf
    have HFX:Hid (prB ⟨ap,nm,kd,pa⟩=txtB [sb ap,sb nm]++([u8b kd]++(lowB (m:Int) 2++pa.flatMap paB))):=by unfold Hid prB;rw[txtL_two,hm]
    have hbn:(lowB (np:Int) 2++(D.pr.take k).flatMap prB).length+((txtB [sb ap,sb nm]).length+(1+(2+(pa.flatMap paB).length)))≤900000:=by
     have h1:=HTL.out
     have h2:=HPT.out
     rw[HFX.out] at h1
     simp only[List.length_append,List.length_cons,List.length_nil,lowB_len] at h1 h2 ⊢
     omega
    have HBN:=Lib.hid hbn
    have HKD:=Lib.hid (u8c_u8b hkd)
    clear hqf hx hwA hs hpa hat HR2 hbn HTL hm hnm hap hkd
    go_upto_region 41 with fail
    rw[HWA.out,HQF.out]
    clear HWA y0 y1 y2 y3
    have y0:=XA.out.cell 0 (u:=.string (sb ap)) rfl
    have y1:=XA.out.cell 1 (u:=.string (sb nm)) rfl
    have yl:=XA.out.lt
    go_wp2_with fail
    refine(wtextC [sb ap,sb nm] 2 rfl _ SA.out.w (by have:=HBN.out;omega)).mono ?_
    rintro e wB ⟨rfl,vB,kB⟩
    have XB:=Lib.hid (kB.box SA.out.w XA.out (by decide) hqg)
    have SB:=Lib.hid (SA.out.call kB)
    clear kB SA XA y0 y1 yl
    have y2:=XB.out.cell 2 (u:=.int .u8 (kd:Int)) rfl
    have yl:=XB.out.lt
    go_wp2_with fail
    refine(wbytesC [u8b kd] [.int .u8 (kd:Int)] 1 (by rw[List.map_cons,List.map_nil,HKD.out]) rfl (by decide) _ SB.out.w (by have:=HBN.out;simp only[List.length_append,List.length_cons,List.length_nil] at this ⊢;omega)).mono ?_
    rintro e wC ⟨rfl,vC,kC⟩
    have XC:=Lib.hid (kC.box SB.out.w XB.out (by decide) hqg)
    have SC:=Lib.hid (SB.out.call kC)
    clear kC SB XB y2 yl
    have y3:=XC.out.cell 3 (u:=.slice Av m cv) rfl
    have yl:=XC.out.lt
    go_wp2_with fail
    refine(wlow_any (m:Int) 2 (by omega) _ SC.out.w (by have:=HBN.out;simp only[List.length_append,List.length_cons,List.length_nil] at this ⊢;omega)).mono ?_
    rintro e wD ⟨rfl,vD,kD⟩
    have XD:=Lib.hid (kD.box SC.out.w XC.out (by decide) hqg)
    have SD:=Lib.hid (SC.out.call kD)
    clear kD SC XC y3 yl
    obtain⟨PX,hPX⟩:∃x,lowB (np:Int) 2++(D.pr.take k).flatMap prB++txtB [sb ap,sb nm]++[u8b kd]++lowB (m:Int) 2=x:=⟨_,rfl⟩
    rw[hPX] at SD
    have hpl:PX.length+(pa.flatMap paB).length≤900000:=by
     have:=HBN.out
     rw[←hPX]
     simp only[List.length_append,List.length_cons,List.length_nil,lowB_len] at this ⊢;omega
    have HPX:Hid (lowB (np:Int) 2++(D.pr.take (k+1)).flatMap prB=PX++pa.flatMap paB):=by
     unfold Hid;rw[HTM.out,HFX.out,←hPX];simp only[List.append_assoc]
    have HPL:=Lib.hid hpl
    clear hPX hpl HTM HFX HBN
    have y3:=XD.out.cell 3 (u:=.slice Av m cv) rfl
    have yl:=XD.out.lt
    go_wp2_with fail
    go_loopw [188] (fun iv wr=>∃(i:Nat) (vk:Value),i≤m∧iv=.int .i64 (i:Int)∧Hid (EnW w qd gA g17 (dbA D.hd (.slice Af n cf) (.slice Aa na ca) (.slice (some ⟨g,o,none⟩) np cp)) vA16 O3 vk (PX++(pa.take i).flatMap paB) wr)) (fun iv _=>m-(intOf iv).toNat)
    case atStart=>exact⟨0,vD,Nat.zero_le _,rfl,by rw[List.take_zero,List.flatMap_nil,List.append_nil];exact SD.out⟩
    case round =>
    clear y3 yl SD XD
    obtain⟨i,vi,hi,rfl,hs⟩:=hrel
    by_cases hlm:i<m
    ·have hil:i<pa.length:=by rw[HM.out];exact hlm
     obtain⟨g2,o2,c2',lv,hA2,hgl2,hpt,hxn,hxk,hlg⟩:=PasR.at_ (by have:=HPS.out;rw[←HM.out] at this;exact this:PasR w (.slice Av pa.length cv) pa) hil
     rw[HM.out] at hA2
     simp only[Value.slice.injEq,true_and] at hA2
     obtain⟨rfl,rfl⟩:=hA2
     have HTL:=Lib.hid (take_le paB pa hil)
     have HTM:=Lib.hid (take_more paB pa hil)
     obtain⟨x,hx⟩:∃x,pa[i]=x:=⟨_,rfl⟩
     rw[hx] at hpt hxk hlg HTL HTM
     obtain⟨xk,xn,lg⟩:=x
     simp only at hxk hlg
     obtain⟨Al,cl,rfl,hcl,hml⟩:=hlg.form
     unfold maxLen at hml
     obtain⟨M,hMe⟩:∃M,lg.length=M:=⟨_,rfl⟩
     obtain⟨u0,u1,u2⟩:=hpt.below hgl2 hs.out.s.be
     simp only at u0 u1
     have HLG:=Lib.hid hlg
     rw[hMe] at u2 HLG hcl
     have HMM:=Lib.hid hMe
     have hg2w:g2<wr.heap.size:=Nat.lt_of_lt_of_le hgl2 hs.out.s.be.size
     have him:(i:Int)<(m:Int):=by omega
     obtain⟨wE,hwE⟩:∃W,wr.alloc (.cells #[.int .u8 (xk:Int),.string (sb xn),.slice Al M cl] 62)=W:=⟨_,rfl⟩
     have BE:Hid (Below wr.heap.size wr wE):=by rw[←hwE];exact(Below.refl _ _).alloc (Nat.le_refl _) _
     obtain⟨q8,hq8⟩:∃q,wr.heap.size=q:=⟨_,rfl⟩
     have XE:Hid (Bx q8 #[.int .u8 (xk:Int),.string (sb xn),.slice Al M cl] 62 wE):=by rw[←hwE,←hq8];exact Bx.last wr _ _
     have hq8g:q8≠g17:=by have:=hs.out.w.bx.lt;omega
     have SE:=Lib.hid (hs.out.below BE.out)
     have HWE:=Lib.hid hwE
     have HQ8:=Lib.hid hq8
     have HPB:Hid (paB ⟨xk,xn,lg⟩=[u8b xk]++(txtB [sb xn]++(lowB (M:Int) 2++lg.flatMap lgB))):=by unfold Hid paB;rw[txtL_one,hMe]
     have hbn:(PX++(pa.take i).flatMap paB).length+(1+((txtB [sb xn]).length+(2+(lg.flatMap lgB).length)))≤900000:=by
      have h1:=HTL.out
      have h2:=HPL.out
      rw[HPB.out] at h1
      simp only[List.length_append,List.length_cons,List.length_nil,lowB_len] at h1 h2 ⊢
      omega
     have HBN:=Lib.hid hbn
     have HKX:=Lib.hid (u8c_u8b hxk)
     clear hq8 hx hwE hs hbn HTL hlg hpt hxn hxk hMe
     go_upto_region 47 with fail
     rw[HWE.out,HQ8.out]
     clear HWE u0 u1 u2
     have u0:=XE.out.cell 0 (u:=.int .u8 (xk:Int)) rfl
     have ul:=XE.out.lt
     go_wp2_with fail
     refine(wbytesC [u8b xk] [.int .u8 (xk:Int)] 1 (by rw[List.map_cons,List.map_nil,HKX.out]) rfl (by decide) _ SE.out.w (by have:=HBN.out;simp only[List.length_append,List.length_cons,List.length_nil] at this ⊢;omega)).mono ?_
     rintro e wF ⟨rfl,vF,kF⟩
     have XF:=Lib.hid (kF.box SE.out.w XE.out (by decide) hq8g)
     have SF:=Lib.hid (SE.out.call kF)
     clear kF SE XE u0 ul
     have u1:=XF.out.cell 1 (u:=.string (sb xn)) rfl
     have ul:=XF.out.lt
     go_wp2_with fail
     refine(wtextC [sb xn] 1 rfl _ SF.out.w (by have:=HBN.out;simp only[List.length_append,List.length_cons,List.length_nil] at this ⊢;omega)).mono ?_
     rintro e wG ⟨rfl,vG,kG⟩
     have XG:=Lib.hid (kG.box SF.out.w XF.out (by decide) hq8g)
     have SG:=Lib.hid (SF.out.call kG)
     clear kG SF XF u1 ul
     have u2:=XG.out.cell 2 (u:=.slice Al M cl) rfl
     have ul:=XG.out.lt
     go_wp2_with fail
     refine(wlow_any (M:Int) 2 (by omega) _ SG.out.w (by have:=HBN.out;simp only[List.length_append,List.length_cons,List.length_nil] at this ⊢;omega)).mono ?_
     rintro e wI ⟨rfl,vI,kI⟩
     have XI:=Lib.hid (kI.box SG.out.w XG.out (by decide) hq8g)
     have SI:=Lib.hid (SG.out.call kI)
     clear kI SG XG u2 ul
     obtain⟨QX,hQX⟩:∃x,PX++(pa.take i).flatMap paB++[u8b xk]++txtB [sb xn]++lowB (M:Int) 2=x:=⟨_,rfl⟩
     rw[hQX] at SI
     have hql:QX.length+(lg.flatMap lgB).length≤900000:=by
      have:=HBN.out
      rw[←hQX]
      simp only[List.length_append,List.length_cons,List.length_nil,lowB_len] at this ⊢;omega
     have HQX:Hid (PX++(pa.take (i+1)).flatMap paB=QX++lg.flatMap lgB):=by
      unfold Hid;rw[HTM.out,HPB.out,←hQX];simp only[List.append_assoc]
     have HQL:=Lib.hid hql
     clear hQX hql HTM HPB HBN
     have u2:=XI.out.cell 2 (u:=.slice Al M cl) rfl
     have ul:=XI.out.lt
     go_wp2_with fail
     go_loopw [210] (fun iv wr=>∃(j:Nat) (vk:Value),j≤M∧iv=.int .i64 (j:Int)∧Hid (EnW w qd gA g17 (dbA D.hd (.slice Af n cf) (.slice Aa na ca) (.slice (some ⟨g,o,none⟩) np cp)) vA16 O3 vk (QX++(lg.take j).flatMap lgB) wr)) (fun iv _=>M-(intOf iv).toNat)
     case atStart=>exact⟨0,vI,Nat.zero_le _,rfl,by rw[List.take_zero,List.flatMap_nil,List.append_nil];exact SI.out⟩
     case round =>
     clear SI XI
     obtain⟨j,vj,hj,rfl,hs⟩:=hrel
     by_cases hlj:j<M
     ·have hjl:j<lg.length:=by rw[HMM.out];exact hlj
      obtain⟨g3,o3,c3',hA3,hgl3,hat3,hok3⟩:=LgsR.at_ (by have:=HLG.out;rw[←HMM.out] at this;exact this:LgsR w (.slice Al lg.length cl) lg) hjl
      rw[HMM.out] at hA3
      simp only[Value.slice.injEq,true_and] at hA3
      obtain⟨rfl,rfl⟩:=hA3
      have HTL:=Lib.hid (take_le lgB lg hjl)
      have HTM:=Lib.hid (take_more lgB lg hjl)
      obtain⟨l,hl⟩:∃l,lg[j]=l:=⟨_,rfl⟩
      rw[hl] at hat3 hok3 HTL HTM
      have HAT:Hid (∀t u,(lgc l)[t]? = some u→wr.cell? ⟨g3,o3+j*13+t,none⟩=some u):=fun t u hu=>(hs.out.s.be.cell (p:=⟨g3,o3+j*13+t,none⟩) hgl3).trans (hat3 t u hu)
      have HOK:=Lib.hid hok3
      have HONE:=Lib.hid (lgc_one l)
      have hjM:(j:Int)<(M:Int):=by omega
      obtain⟨q9,hq9⟩:∃q,wr.heap.size=q:=⟨_,rfl⟩
      obtain⟨wJ,hwJ⟩:∃W,wr.alloc (.cells (lgc l).toArray 65)=W:=⟨_,rfl⟩
      have BJ:Hid (Below wr.heap.size wr wJ):=by rw[←hwJ];exact(Below.refl _ _).alloc (Nat.le_refl _) _
      have SJ:=Lib.hid (hs.out.below BJ.out)
      have XJ:Hid (Bx q9 (lgc l).toArray 65 wJ):=by rw[←hwJ,←hq9];exact Bx.last wr _ _
      have HWJ:=Lib.hid hwJ
      have HQ:=Lib.hid hq9
      have hg3w:g3<wr.heap.size:=Nat.lt_of_lt_of_le hgl3 hs.out.s.be.size
      have hbn:(QX++(lg.take j).flatMap lgB).length+(lgB l).length≤1000000:=by
       have h1:=HTL.out
       have h2:=HQL.out
       simp only[List.length_append] at h1 h2 ⊢
       omega
      have HBN:=Lib.hid hbn
      clear hat3 hok3 hl hwJ hq9 hs hbn HTL
      go_upto_region 53 with (first|(with_reducible refine wpList_load_wide rfl 65 (.tmp 212) rfl g3 (o3+j*13) rfl (lgc l) 13 rfl (aggLegD _) (sizeLegD _) HAT.out ?_)|(refine wpList_store_last wr _ rfl 65 (.tmp 19) (.tmp 213) rfl rfl (lgc l) rfl infoLegSD rfl HONE.out ?_))
      rw[HWJ.out,HQ.out]
      clear HWJ
      have xl:=XJ.out.lt
      have XC:Hid (∀t u,(lgc l)[t]? = some u→wJ.cell? ⟨q9,0+t,none⟩=some u):=fun t u hu=>by
       rw[Nat.zero_add];exact Bx.cell XJ.out t (by rw[List.getElem?_toArray];exact hu)
      go_wp2_with (with_reducible refine wpList_load_wide rfl 65 (.tmp 19) rfl q9 0 rfl (lgc l) 13 rfl (aggLegD _) (sizeLegD _) XC.out ?_)
      refine(wleg_any l _ SJ.out.w HOK.out HBN.out).mono ?_
      rintro e wK ⟨rfl,vK,kK⟩
      have SK:=SJ.out.call kK
      rw[List.append_assoc,←HTM.out] at SK
      replace SK:=Lib.hid SK
      clear kK SJ XJ XC xl HAT
      go_wp2
      go_roundw
      case rel=>exact⟨j+1,vK,hlj,by go_num,SK⟩
      case measure=>simp[intOf];omega
     ·have hjM:¬(j:Int)<(M:Int):=by omega
      have hin:lg.take j=lg:=List.take_of_length_le (by rw[HMM.out];omega)
      rw[hin,←HQX.out] at hs
      have SZ:=Lib.hid hs.out
      clear hin hs
      go_wp2
      go_roundw
      case rel=>exact⟨i+1,vj,hlm,by go_num,SZ⟩
      case measure=>simp[intOf];omega
    ·have him:¬(i:Int)<(m:Int):=by omega
     have hin:pa.take i=pa:=List.take_of_length_le (by rw[HM.out];omega)
     rw[hin,←HPX.out] at hs
     have SZ:=Lib.hid hs.out
     clear hin hs
     go_wp2
     go_roundw
     case rel=>exact⟨k+1,vi,hlt,by go_num,SZ⟩
     case measure=>simp[intOf];omega
   ·have hki:¬(k:Int)<(np:Int):=by omega
    have hkn:D.pr.take k=D.pr:=List.take_of_length_le (by rw[HNP.out];omega)
    rw[hkn] at hs
    have hse:=Lib.hid (hs.out.sec 4 (by rw[List.length_append,lowB_len];omega) (by have:=HPT.out;have:=HO2L.out;have:=HO3L.out;omega))
    clear hkn hs hlt hk
    go_wp2_with fail
    refine hse.out.mono ?_
    rintro e w19 ⟨rfl,vA19,hs⟩
    have hall:O3++secB 4 (lowB (np:Int) 2++D.pr.flatMap prB)=dbB D:=by
     unfold dbB conB secsB secsB secsB secsB secsB
     rw[←HO3.out,←HO2.out,←HO1.out,HNF.out,HNA.out,HNP.out]
     simp only[List.append_assoc,List.append_nil]
     rfl
    rw[hall] at hs
    have S19:=Lib.hid hs
    clear hse hs hall
    have hpos:0<(dbB D).length:=by
     unfold dbB;rw[List.length_append];have:magicL.length=4:=rfl;omega
    obtain⟨b,o,c,hv,hc,hm,hbs⟩:=S19.out.a.bs hpos
    have hse:=Lib.hid (cseal_any b o c (dbB D) w19 hbs hc hm (by have:=HL.out;omega))
    have B19:=Lib.hid S19.out.be
    have kA:=S19.out.a.bx.cell 0 (u:=vA19) rfl
    have kAl:=S19.out.a.bx.lt
    subst hv
    obtain⟨N,hN⟩:∃N,(dbB D).length=N:=⟨_,rfl⟩
    rw[hN] at kA hse
    clear S19 hbs hc hm hN hpos
    go_wp2_with fail
    refine hse.out.mono ?_
    rintro e wz ⟨vp,rfl,hn⟩
    have HNW:Hid (BsNew (sealL (dbB D)) w vp wz):=by
     obtain⟨gb,cc,h1,h2,h3,h4,h5,h6⟩:=hn
     exact⟨gb,cc,h1,h2,h3,Nat.le_trans B19.out.size h4,h5,Below.then_ B19.out h6⟩
    obtain⟨gb,cc,hvp,-⟩:=hn
    subst hvp
    clear hse B19 kA kAl
    go_wp2
    go_ret2
    exact⟨_,rfl,HNW.out⟩
end Go.Proofs.YtgmehlgfilpleaaGreatDoor
