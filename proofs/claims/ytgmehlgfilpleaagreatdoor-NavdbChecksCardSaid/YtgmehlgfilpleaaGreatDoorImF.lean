/-
  Contract: the image of any database is written (image.Encode).
-/
import Derived.Test.YtgmehlgfilpleaaGreatDoorCkP
import Derived.Test.YtgmehlgfilpleaaGreatDoorMG25
import Derived.Lib.SlBytesConst
namespace Go.Proofs.YtgmehlgfilpleaaGreatDoor
open Go.RowKit
set_option linter.unusedVariables false
set_option linter.unusedSimpArgs false
theorem WrTo.low {g B B0:Nat} {v v':Value} {out out0:List UInt8} {w w':World} (h:WrTo g B v out w v' w') (h0:WrR g B v out0 w) (hg:B0≤g) (hB:B0≤B) (hs:B0≤w.heap.size):Below B0 w w' :=
 h.f.below hs (fun k hk=>by
  rcases hk with e|e
  ·omega
  ·have:=(h0.own.lt k e).1;omega)
theorem WrR.new (w:World) (B:Nat) (hB:B≤w.heap.size):WrR w.heap.size B (.slice none 0 0) [] (w.alloc (.cells #[.slice none 0 0] 132)) :=
 ⟨Bx.last _ _ _,World.ownsRow_nil _ _ _ _,by simp;omega⟩
theorem WrR.bs {g B:Nat} {v:Value} {out:List UInt8} {w:World} (h:WrR g B v out w) (h0:0<out.length):∃b o c,v=.slice (some ⟨b,o,none⟩) out.length c∧out.length≤c∧c≤maxLen∧BsA w b o out:=by
 obtain⟨_,A,c,rfl,hc,hm,hx⟩:=Rd.of_own h.own
 obtain⟨b,o,rfl,hb,hcell⟩:=hx h0
 refine⟨b,o,c,rfl,hc,hm,hb,fun j u hu=>hcell j (u8c u) ?_⟩
 rw[List.getElem?_map,hu];rfl
structure EnS (w0:World) (qd gA:Nat) (db:Array Value) (vA:Value) (out:List UInt8) (w:World):Prop where
 x:Bx qd db 30 w
 a:WrR gA w0.heap.size vA out w
 be:Below w0.heap.size w0 w
 ne:qd≠gA
 lo:w0.heap.size≤gA
theorem EnS.below {w0 w w':World} {qd gA:Nat} {db:Array Value} {vA:Value} {out:List UInt8} (h:EnS w0 qd gA db vA out w) (hb:Below w.heap.size w w'):EnS w0 qd gA db vA out w' :=
 ⟨h.x.via hb,h.a.below hb,Below.then_ h.be hb,h.ne,h.lo⟩
structure EnW (w0:World) (qd gA gW:Nat) (db:Array Value) (vA:Value) (out:List UInt8) (vW:Value) (oW:List UInt8) (w:World):Prop where
 s:EnS w0 qd gA db vA out w
 w:WrR gW w0.heap.size vW oW w
 nA:gA≠gW
 nq:qd≠gW
 lo:w0.heap.size≤gW
 h1:vW.ownBlock≠some gA
 hd:∀b,vA.ownBlock=some b→vW.ownBlock≠some b∧b≠gW
theorem EnW.call {w0 w w':World} {qd gA gW:Nat} {db:Array Value} {vA vW vW':Value} {out oW oW':List UInt8} (h:EnW w0 qd gA gW db vA out vW oW w) (k:WrTo gW w0.heap.size vW oW' w vW' w'):EnW w0 qd gA gW db vA out vW' oW' w':=by
 have hs:=sep_to h.s.a h.h1 h.hd k.o
 exact⟨⟨k.box h.w h.s.x (by decide) h.nq,h.s.a.beside k h.nA h.h1 h.hd,h.s.be.trans (k.low h.w h.lo (Nat.le_refl _) h.s.be.size),h.s.ne,h.s.lo⟩,k.r,h.nA,h.nq,h.lo,hs.1,hs.2⟩
theorem EnS.new {w0 w:World} {qd gA:Nat} {db:Array Value} {vA:Value} {out:List UInt8} (h:EnS w0 qd gA db vA out w):EnW w0 qd gA w.heap.size db vA out (.slice none 0 0) [] (w.alloc (.cells #[.slice none 0 0] 132)):=by
 have hl:=h.a.bx.lt
 have hq:=h.x.lt
 refine⟨h.below ((Below.refl _ _).alloc (Nat.le_refl _) _),WrR.new w _ h.be.size,by omega,by omega,h.be.size,(by simp[Value.ownBlock]),fun b hb=>⟨by simp[Value.ownBlock],?_⟩⟩
 have:=(h.a.own.lt b hb).2
 omega
structure EnH (w0:World) (qd gA n2 gW qh:Nat) (db hd:Array Value) (vW:Value) (oW:List UInt8) (w:World):Prop where
 x:Bx qd db 30 w
 f:WrF gA (.slice (some ⟨n2,0,none⟩) 4 4) magicL w
 y:Bx qh hd 25 w
 r:WrR gW w0.heap.size vW oW w
 be:Below w0.heap.size w0 w
 ne:qd≠gA∧gA≠gW∧qd≠gW∧qh≠gW∧n2≠gW∧n2≠qd
 lo:w0.heap.size≤gA∧w0.heap.size≤gW∧w0.heap.size≤n2
 h1:vW.ownBlock≠some gA∧vW.ownBlock≠some n2
theorem EnH.call {w0 w w':World} {qd gA n2 gW qh:Nat} {db hd:Array Value} {vW vW':Value} {oW oW':List UInt8} (h:EnH w0 qd gA n2 gW qh db hd vW oW w) (k:WrTo gW w0.heap.size vW oW' w vW' w'):EnH w0 qd gA n2 gW qh db hd vW' oW' w':=by
 obtain⟨n1,n2',n3,n4,n5,n6⟩:=h.ne
 obtain⟨hx,b,hv,hbs⟩:=h.f
 injection hv with e1 e2 e3
 injection e1 with e1
 injection e1 with e1
 subst e1
 refine⟨k.box h.r h.x (by decide) n3,⟨(k.f.block gA hx.lt (fun e => ?_)).trans hx,n2,rfl,hbs.frm k.f (fun e => ?_)⟩,k.box h.r h.y (by decide) n4,k.r,h.be.trans (k.low h.r h.lo.2.1 (Nat.le_refl _) h.be.size),h.ne,h.lo,fun e => ?_,fun e => ?_⟩
 ·rcases e with e|e
  ·exact n2' e
  ·exact h.h1.1 e
 ·rcases e with e|e
  ·exact n5 e
  ·exact h.h1.2 e
 ·rcases k.o _ e with h2|h2
  ·exact h.h1.1 h2
  ·have:=hx.lt;omega
 ·rcases k.o _ e with h2|h2
  ·exact h.h1.2 h2
  ·have:=hbs.1;omega
theorem EnW.below {w0 w w':World} {qd gA gW:Nat} {db:Array Value} {vA vW:Value} {out oW:List UInt8} (h:EnW w0 qd gA gW db vA out vW oW w) (hb:Below w.heap.size w w'):EnW w0 qd gA gW db vA out vW oW w' :=
 ⟨h.s.below hb,h.w.below hb,h.nA,h.nq,h.lo,h.h1,h.hd⟩
end Go.Proofs.YtgmehlgfilpleaaGreatDoor
