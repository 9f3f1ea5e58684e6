/-
  A database's lists stand while a box of another database is written over.
-/
import Derived.Test.YtgmehlgfilpleaaGreatDoorMG05
import Derived.Test.YtgmehlgfilpleaaGreatDoorCkP
namespace Go.Proofs.YtgmehlgfilpleaaGreatDoor
open Go.RowKit
set_option linter.unusedVariables false
set_option linter.unusedSimpArgs false
def Box9 (w:World) (q:Nat):Prop:=∀o u,w.cell? ⟨q,o,none⟩=some u→(o=0∧∃s,u=.string s)∨(1≤o∧∃z,u=.int .i64 z)∨(2≤o∧∃A n c,u=.slice A n c)
theorem box9_of {w:World} {q:Nat} {h:ImHd} {A B C:Option Addr} {i j k l m o:Nat} {t:TypeId} (hx:Bx q (dbA h (.slice A i j) (.slice B k l) (.slice C m o)) t w):Box9 w q:=by
 intro x u hu
 have hc:w.cell? ⟨q,x,none⟩=(dbA h (.slice A i j) (.slice B k l) (.slice C m o))[x]? := Lib.cell_of_heap hx x
 rw[hc] at hu
 unfold dbA at hu
 match x,hu with
 | 0,hu=>left;exact⟨rfl,_,(Option.some.inj hu).symm⟩
 | 1,hu=>right;left;exact⟨by omega,_,(Option.some.inj hu).symm⟩
 | 2,hu=>right;left;exact⟨by omega,_,(Option.some.inj hu).symm⟩
 | 3,hu=>right;left;exact⟨by omega,_,(Option.some.inj hu).symm⟩
 | 4,hu=>right;left;exact⟨by omega,_,(Option.some.inj hu).symm⟩
 | 5,hu=>right;left;exact⟨by omega,_,(Option.some.inj hu).symm⟩
 | 6,hu=>right;right;exact⟨by omega,_,_,_,(Option.some.inj hu).symm⟩
 | 7,hu=>right;right;exact⟨by omega,_,_,_,(Option.some.inj hu).symm⟩
 | 8,hu=>right;right;exact⟨by omega,_,_,_,(Option.some.inj hu).symm⟩
 | n+9,hu=>simp at hu
section
variable {w w':World} {q:Nat}
theorem Box9.no_u8 (h:Box9 w q) {o:Nat} {z:Int} (hu:w.cell? ⟨q,o,none⟩=some (.int .u8 z)):False:=by
 rcases h o _ hu with ⟨_,_,e⟩|⟨_,_,e⟩|⟨_,_,_,_,e⟩ <;> cases e
theorem Box9.str (h:Box9 w q) {o:Nat} {s:ByteArray} (hu:w.cell? ⟨q,o,none⟩=some (.string s)):o=0:=by
 rcases h o _ hu with ⟨e,_⟩|⟨_,_,e⟩|⟨_,_,_,_,e⟩
 ·exact e
 ·cases e
 ·cases e
structure But (q:Nat) (w w':World):Prop where
 size:w.heap.size≤w'.heap.size
 cell:∀g o,g≠q→g<w.heap.size→w'.cell? ⟨g,o,none⟩=w.cell? ⟨g,o,none⟩
theorem But.setRow (w:World) (q:Nat) (cs:Array Value):But q w (w.setRow q cs) :=
 ⟨by simp[World.setRow],fun g o hg _=>by
  have:=setRow_other w q g cs hg
  simp only[World.cell?,this]⟩
theorem Rd.but {k n:Nat} {v:Value} {xs:List Value} (h:Rd w k v n xs) (hb:But q w w') (hq:0<n→∀o,(∀j u,xs[j]? = some u→w.cell? ⟨q,o+j,none⟩=some u)→False):Rd w' k v n xs:=by
 obtain⟨hl,A,c,hv,hc,hm,hr⟩:=h
 refine⟨hl,A,c,hv,hc,hm,fun hn => ?_⟩
 obtain⟨g,o,hA,hg,hx⟩:=hr hn
 have hne:g≠q:=by intro e;subst e;exact hq hn o hx
 exact⟨g,o,hA,Nat.lt_of_lt_of_le hg hb.size,fun j u hu=>(hb.cell g (o+j) hne hg).trans (hx j u hu)⟩
theorem PtsR.but {v:Value} {l:List Pt} (h:PtsR w v l) (hb:But q w w') (h9:Box9 w q):PtsR w' v l :=
 ⟨h.1.but hb (fun hn o hx=>by
  cases l with
  | nil=>simp at hn
  | cons p l=>exact h9.no_u8 (hx 3 _ (by rfl))),h.2⟩
theorem LgsR.but {v:Value} {l:List Lg} (h:LgsR w v l) (hb:But q w w') (h9:Box9 w q):LgsR w' v l :=
 ⟨h.1.but hb (fun hn o hx=>by
  cases l with
  | nil=>simp at hn
  | cons p l=>exact h9.no_u8 (hx 0 _ (by rfl))),h.2⟩
theorem FxsD.but {v:Value} {l:List Fx} (h:FxsD w v l) (hb:But q w w') (h9:Box9 w q):FxsD w' v l :=
 ⟨h.1.but hb (fun hn o hx=>by
  cases l with
  | nil=>simp at hn
  | cons p l=>have:=h9.str (hx 1 _ (by rfl));omega),h.2⟩
theorem AwsD.but {v:Value} {l:List AwD} (h:AwsD w v l) (hb:But q w w') (h9:Box9 w q):AwsD w' v l:=by
 obtain⟨L,h1,h2,h3⟩:=h
 refine⟨L,h1,h2.but hb (fun hn o hx => ?_),fun x hx=>⟨(h3 x hx).1,(h3 x hx).2.but hb h9⟩⟩
 cases L with
 | nil=>simp at hn
 | cons x L =>
  have h0:=h9.str (hx 0 _ (by rfl))
  have h4:=hx 1 _ (by rfl)
  obtain⟨A,c,hv,_⟩:=(h3 x (by simp)).2.form
  have e0:o=0:=by omega
  subst e0
  rw[hv] at h4
  rcases h9 _ _ h4 with ⟨_,_,e⟩|⟨_,_,e⟩|⟨e,_⟩
  ·cases e
  ·cases e
  ·omega
theorem PasR.but {v:Value} {l:List Pa} (h:PasR w v l) (hb:But q w w') (h9:Box9 w q):PasR w' v l:=by
 obtain⟨L,h1,h2,h3⟩:=h
 refine⟨L,h1,h2.but hb (fun hn o hx => ?_),fun x hx=>⟨(h3 x hx).1,(h3 x hx).2.1,(h3 x hx).2.2.but hb h9⟩⟩
 cases L with
 | nil=>simp at hn
 | cons x L=>exact h9.no_u8 (hx 0 _ (by rfl))
theorem PrcsR.but {v:Value} {l:List Prc} (h:PrcsR w v l) (hb:But q w w') (h9:Box9 w q):PrcsR w' v l:=by
 obtain⟨L,h1,h2,h3⟩:=h
 refine⟨L,h1,h2.but hb (fun hn o hx => ?_),fun x hx=>⟨(h3 x hx).1,(h3 x hx).2.1,(h3 x hx).2.2.1,(h3 x hx).2.2.2.but hb h9⟩⟩
 cases L with
 | nil=>simp at hn
 | cons x L=>have:=h9.str (hx 1 _ (by rfl));omega
theorem DbV.but {f a p:Value} {D:DbD} (h:DbV w f a p D) (hb:But q w w') (h9:Box9 w q):DbV w' f a p D:=⟨h.nm,h.fx.but hb h9,h.aw.but hb h9,h.pr.but hb h9⟩
end
end Go.Proofs.YtgmehlgfilpleaaGreatDoor
