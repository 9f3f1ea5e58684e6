/-
  Several texts as one.
-/
import Derived.Test.YtgmehlgfilpleaaGreatDoorMG09
import Derived.Test.YtgmehlgfilpleaaGreatDoorMG14
import Derived.Test.YtgmehlgfilpleaaGreatDoorMG01
import Derived.Sort.Walk0
import Derived.Test.YtgmehlgfilpleaaGreatDoorBase
import Derived.Maps.Own
import Derived.Maps.OwnOps
import Derived.Maps.Views
import Derived.Maps.OwnSet
import Derived.Maps.Range
import Derived.Maps.RangeWalk
import Derived.StringKeys
import Derived.Test.YtgmehlgfilpleaaGreatDoorMG02
import Derived.Test.YtgmehlgfilpleaaGreatDoorMG04
import Derived.Test.YtgmehlgfilpleaaGreatDoorMG15
import Derived.Test.YtgmehlgfilpleaaGreatDoorAwCheck
import Derived.Test.YtgmehlgfilpleaaGreatDoorMG16
import Derived.Test.YtgmehlgfilpleaaGreatDoorPlnG
namespace Go.Proofs.YtgmehlgfilpleaaGreatDoor
open Go.RowKit
set_option linter.unusedVariables false
set_option linter.unusedSimpArgs false

def DgBox (w:World) (b:Nat):Prop:=w.heap[b]? = some (.cells #[.int .i64 0,.int .i64 0,.int .i64 0] 89 (0,0))
structure TkR (P:World→Nat→Sc→Prop) (w0:World) (g bf:Nat) (s:Sc) (f:Fx) (w:World):Prop where
 sc:P w g s
 bx:FxBox w bf f
 r1:FxBox w (w0.heap.size+1) fx0
 r2:DgBox w (w0.heap.size+2)
 gb:g<bf
 lo:w0.heap.size+3≤g
 be:Below w0.heap.size w0 w
section
variable {P:World→Nat→Sc→Prop} {w0 w w':World} {g bf:Nat} {s s':Sc} {f:Fx}
theorem TkR.call (h:TkR P w0 g bf s f w) (hs:P w' g s') (ho:Off g w w'):TkR P w0 g bf s' f w':=by
 have l1:=lt_heap h.bx
 have l2:=lt_heap h.r1
 have l3:=lt_heap h.r2
 have gb:=h.gb
 have lo:=h.lo
 exact⟨hs,(ho.block bf l1 (by intro e;injection e with e;omega)).trans h.bx,(ho.block _ l2 (by intro e;injection e with e;omega)).trans h.r1,(ho.block _ l3 (by intro e;injection e with e;omega)).trans h.r2,gb,lo,ho.below h.be (by omega) (by omega)⟩
theorem TkR.cells (h:TkR P w0 g bf s f w):FxCells w bf (sb f.id) (sb f.rg) f.kd f.lat f.lon f.el f.ra:=h.bx.cells
theorem TkR.free (h:TkR P w0 g bf s f w) (j:Nat):w.frozen? ⟨bf,j,none⟩=false:=frozen_of_row w bf j _ _ h.bx
theorem TkR.lt (h:TkR P w0 g bf s f w):bf<w.heap.size:=lt_heap h.bx
end

theorem FsR.grow {w w':World} {v:Value} {fs:List FldI} (h:FsR w w.heap.size v fs) (hb:Below w.heap.size w w'):FsR w' w'.heap.size v fs :=
 (h.keep fun k hk=>hb.block k hk).mono hb.size

end Go.Proofs.YtgmehlgfilpleaaGreatDoor
namespace Go.Proofs.YtgmehlgfilpleaaGreatDoor
open Go.RowKit Go.Sort
set_option linter.unusedVariables false
set_option linter.unusedSimpArgs false
def cmpS (a b:List UInt8):Int:=if a<b then -1 else if b<a then 1 else 0
theorem blt_asymm {a b:List UInt8} (h:a<b):¬b<a:=List.lt_asymm h
theorem blt_eq {a b:List UInt8} (h:¬a<b) (k:¬b<a):a=b:=by
 rw[List.not_lt] at *
 exact List.le_antisymm k h
theorem str_eqB {t r:ByteArray}:(t.toList == r.toList)=decide (bl t=bl r):=by
 rw[bl_toList,bl_toList,Bool.eq_iff_iff,beq_iff_eq,decide_eq_true_iff]
theorem bytesLess_bl (x y:ByteArray):Op.bytesLess x.toList y.toList=decide (bl x<bl y):=by rw[bl_toList,bl_toList,bytesLess_eq]
set_option maxHeartbeats 400000 in
theorem isNaNs_any (x:ByteArray) (w:World):Calls Tryz.prog 120 #[.string x] w fun e w'=>e=.returned (.bool false)∧w'=w:=by
 go_enter Tryz.func120,Tryz.ntmps120
 go_wp2
 go_ret
 exact⟨by simp,rfl⟩
set_option maxHeartbeats 1000000 in
theorem cmpStr_any (x y:ByteArray) (w:World):Calls Tryz.prog 43 #[.string x,.string y] w fun e w'=>e=.returned (.int .i64 (cmpS (bl x) (bl y)))∧w'=w:=by
 have b1:=bytesLess_bl x y
 have b2:=bytesLess_bl y x
 obtain⟨r,hr⟩:∃r,cmpS (bl x) (bl y)=r:=⟨_,rfl⟩
 have HR:=Lib.hid hr
 rw[hr]
 clear hr
 by_cases h1:bl x<bl y
 ·have H:Hid ((-1:Int)=r):=by unfold Hid;rw[←HR.out];unfold cmpS;rw[if_pos h1]
  rw[decide_eq_true h1] at b1
  rw[decide_eq_false (blt_asymm h1)] at b2
  clear h1
  go_enter Tryz.func43,Tryz.ntmps43
  go_wp2_with fail
  refine(isNaNs_any x _).mono ?_
  rintro e w1 ⟨rfl,rfl⟩
  go_wp2_with fail
  refine(isNaNs_any y _).mono ?_
  rintro e w1 ⟨rfl,rfl⟩
  go_wp2
  go_ret
  exact⟨by rw[←H.out];rfl,rfl⟩
 ·rw[decide_eq_false h1] at b1
  by_cases h2:bl y<bl x
  ·have e3:(x.toList == y.toList)=false:=by rw[str_eqB];exact decide_eq_false fun e=>blt_asymm h2 (by rw[e] at h2 ⊢;exact h2)
   have H:Hid ((1:Int)=r):=by unfold Hid;rw[←HR.out];unfold cmpS;rw[if_neg h1,if_pos h2]
   rw[decide_eq_true h2] at b2
   clear h1 h2
   go_enter Tryz.func43,Tryz.ntmps43
   go_wp2_with fail
   refine(isNaNs_any x _).mono ?_
   rintro e w1 ⟨rfl,rfl⟩
   go_wp2_with fail
   refine(isNaNs_any y _).mono ?_
   rintro e w1 ⟨rfl,rfl⟩
   go_wp2
   go_ret
   exact⟨by rw[←H.out];rfl,rfl⟩
  ·have e3:(x.toList == y.toList)=true:=by rw[str_eqB];exact decide_eq_true (blt_eq h1 h2)
   have H:Hid ((0:Int)=r):=by unfold Hid;rw[←HR.out];unfold cmpS;rw[if_neg h1,if_neg h2]
   rw[decide_eq_false h2] at b2
   clear h1 h2
   go_enter Tryz.func43,Tryz.ntmps43
   go_wp2_with fail
   refine(isNaNs_any x _).mono ?_
   rintro e w1 ⟨rfl,rfl⟩
   go_wp2_with fail
   refine(isNaNs_any y _).mono ?_
   rintro e w1 ⟨rfl,rfl⟩
   go_wp2
   go_ret
   exact⟨by rw[←H.out];rfl,rfl⟩
end Go.Proofs.YtgmehlgfilpleaaGreatDoor
namespace Go.Proofs.YtgmehlgfilpleaaGreatDoor
open Go.RowKit Go.Maps Go.ChangeMaps Go.WideMaps
set_option linter.unusedVariables false
set_option linter.unusedSimpArgs false

structure Elm (β : Type) where
 val : β → Value
 dat : β → DataW Unit
 rd:Value→Option (DataW Unit × List MemPlace)
 rd_mk:∀c,rd (val c)=some (dat c,[])
 inv:∀v y,rd v=some y→∃c,v=val c∧y=(dat c,[])
 inj:∀a b,dat a=dat b→a=b
section
variable {β : Type}
def MapF (e:Elm β) (w:World) (b n:Nat) (m:List UInt8→Option β):Prop :=
 ∃D:DataW Unit,w.ownsMap Tryz.prog 9 e.rd b n D ∧
  ∀x:List UInt8,(∀c,m x=some c→Maps.has D (.string x)=true∧∀z,D.atKey (.string x) z=e.dat c)∧(m x=none→Maps.has D (.string x)=false)
theorem str_keyed:Keyed Tryz.prog 9:=string_keyed Tryz.underlying9
theorem MapF.made (e:Elm β) (w:World):MapF e (w.alloc (.map #[] 0)) w.heap.size 0 (fun _=>none) :=
 ⟨.map [],World.ownsMap_made w _ _ _,fun x=>⟨fun c h=>(by cases h),fun _=>rfl⟩⟩
theorem MapF.lt {e:Elm β} {w:World} {b n:Nat} {m:List UInt8→Option β} (h:MapF e w b n m):b<w.heap.size:=by
 obtain⟨D,h1,_⟩:=h;exact h1.lt
theorem MapF.mono {e:Elm β} {w:World} {b n n':Nat} {m:List UInt8→Option β} (h:MapF e w b n m) (hn:n≤n'):MapF e w b n' m:=by
 obtain⟨D,h1,h2⟩:=h;exact⟨D,h1.mono hn,h2⟩
theorem MapF.kept {e:Elm β} {w w':World} {b n:Nat} {m:List UInt8→Option β} {row:Option Nat} (h:MapF e w b n m) (hg:w.grownBy w' row) (hne:some b≠row):MapF e w' b n m:=by
 obtain⟨D,h1,h2⟩:=h
 exact⟨D,h1.kept hg hne,h2⟩
theorem MapF.below {e:Elm β} {w w':World} {b n:Nat} {m:List UInt8→Option β} (h:MapF e w b n m) {B:Nat} (hb:Below B w w') (hB:b<B):MapF e w' b n m:=by
 obtain⟨D,⟨es,clock,hbk,r⟩,h2⟩:=h
 exact⟨D,⟨es,clock,(hb.block b hB).trans hbk,r⟩,h2⟩
theorem MapF.below' {e:Elm β} {w w':World} {b n:Nat} {m:List UInt8→Option β} (h:MapF e w b n m) (hb:Below w.heap.size w w'):MapF e w' b n m:=h.below hb h.lt
theorem MapF.drew {e:Elm β} {w:World} {b n:Nat} {m:List UInt8→Option β} (h:MapF e w b n m):MapF e w.drew b n m:=h
theorem MapF.drewN {e:Elm β} {w:World} {b n:Nat} {m:List UInt8→Option β} (h:MapF e w b n m) (k:Nat):MapF e (w.drewN k) b n m:=h.below' (below_drewN' (Below.refl _ _) k)
theorem MapF.setCell {e:Elm β} {w:World} {b n:Nat} {m:List UInt8→Option β} (h:MapF e w b n m) {a:Addr} (ha:b≠a.block) (u:Value):MapF e (w.setCell a u) b n m:=by
 obtain⟨D,h1,h2⟩:=h
 exact⟨D,h1.setCell ha u,h2⟩
theorem MapF.alloc {e:Elm β} {w:World} {b n:Nat} {m:List UInt8→Option β} (h:MapF e w b n m) (o:Obj):MapF e (w.alloc o) b n m:=h.below' ((Below.refl _ _).alloc (Nat.le_refl _) o)
variable {t et:TypeId}
theorem MapF.at_ {e:Elm β} {w:World} {b n:Nat} {m:List UInt8→Option β} {D:DataW Unit} (h2:∀x:List UInt8,(∀c,m x=some c→Maps.has D (.string x)=true∧∀z,D.atKey (.string x) z=e.dat c)∧(m x=none→Maps.has D (.string x)=false)) (x:List UInt8) (z : β) :
  D.atKey (.string x) (e.dat z)=e.dat ((m x).getD z)∧Maps.has D (.string x)=(m x).isSome:=by
 cases hm:m x with
 | none=>exact⟨Maps.atKey_of_not_has ((h2 x).2 hm) _,(h2 x).2 hm⟩
 | some c=>exact⟨((h2 x).1 c hm).2 _,((h2 x).1 c hm).1⟩
theorem MapF.get {e:Elm β} {w:World} {b n:Nat} {m:List UInt8→Option β} (h:MapF e w b n m) (ht:Tryz.prog.underlying t=some (.map 9 et)) (z : β) (hz:(zeroValue et).run Tryz.prog w=.ok (e.val z) w) {s:ByteArray} (hs:s.size≤maxLen) :
  (Instr.lookup t (.map (some b)) (.string s) false).run Tryz.prog w=.ok (e.val ((m (bl s)).getD z)) w:=by
 obtain⟨D,h1,h2⟩:=h
 obtain⟨v,ps,hrun,hv⟩:=h1.lookup str_keyed ht hz (e.rd_mk z) (keyOf_string_mk Tryz.underlying9 hs)
 have e1:D.atKey (.string s.data.toList) (e.dat z)=e.dat ((m (bl s)).getD z):=(MapF.at_ (w:=w) (b:=b) (n:=n) h2 (bl s) z).1
 rw[e1] at hv
 obtain⟨c,rfl,hc⟩:=e.inv _ _ hv
 simp only[Prod.mk.injEq] at hc
 rw[hrun,e.inj _ _ hc.1]
def setK (m:List UInt8→Option β) (x:List UInt8) (c:Option β):List UInt8→Option β := fun v=>if v=x then c else m v
theorem setK_same (m:List UInt8→Option β) (x:List UInt8) (c:Option β):setK m x c x=c:=by unfold setK;rw[if_pos rfl]
theorem setK_other (m:List UInt8→Option β) {x v:List UInt8} (c:Option β) (h:v≠x):setK m x c v=m v:=by unfold setK;rw[if_neg h]
theorem MapF.put {e:Elm β} {w:World} {b n:Nat} {m:List UInt8→Option β} (h:MapF e w b n m) (ht:Tryz.prog.underlying t=some (.map 9 et)) (hn:n<maxLen) {s:ByteArray} (hs:s.size≤maxLen) (c : β) :
  ∃w',(Instr.mapUpdate t (.map (some b)) (.string s) (e.val c)).run Tryz.prog w=.ok () w'∧MapF e w' b (n+1) (setK m (bl s) (some c))∧w.grownBy w' (some b):=by
 obtain⟨D,h1,h2⟩:=h
 obtain⟨w',hrun,h3,hg⟩:=h1.update str_keyed ht hn (keyOf_string_mk Tryz.underlying9 hs) (e.rd_mk c)
 refine⟨w',hrun,⟨_,h3,fun x => ?_⟩,hg⟩
 by_cases hx:x=bl s
 ·subst hx
  rw[setK_same]
  refine⟨fun c' hc => ?_,fun hc=>(by cases hc)⟩
  simp only[Option.some.injEq] at hc
  subst hc
  exact⟨has_put_same h1.isMap (by trivial) _,fun z=>atKey_put_same h1.isMap (by trivial) _ z⟩
 ·rw[setK_other _ _ hx]
  have hne:(Lit.string x)≠Lit.string s.data.toList:=fun e=>by injection e with e;exact hx e
  obtain⟨h4,h5⟩:=h2 x
  refine⟨fun c' hc=>⟨?_,fun z => ?_⟩,fun hc => ?_⟩
  ·rw[has_put_other hne];exact(h4 c' hc).1
  ·rw[atKey_put_other hne];exact(h4 c' hc).2 z
  ·rw[has_put_other hne];exact h5 hc
theorem MapF.len {e:Elm β} {w:World} {b n:Nat} {m:List UInt8→Option β} (h:MapF e w b n m) (ht:Tryz.prog.underlying t=some (.map 9 et)) (ty:TypeId) :
  ∃k:Nat,(Builtin.len_ #[t] ty #[.map (some b)]).run Tryz.prog w=.ok (.int .i64 (k:Int)) w∧(k=0→∀x,m x=none)∧(0<k→∃x c,m x=some c):=by
 obtain⟨D,h1,h2⟩:=h
 refine⟨Maps.size D,h1.len ht ty,fun h0 x => ?_,fun h0 => ?_⟩
 ·cases hm:m x with
  | none=>rfl
  | some c =>
   exfalso
   have h3:=((h2 x).1 c hm).1
   obtain⟨es,rfl,_,_⟩:=h1.entries str_keyed
   rw[size_eq] at h0
   rw[List.eq_nil_of_length_eq_zero h0] at h3
   cases h3
 ·obtain⟨es,clock,hb,F,hs,rfl⟩:=h1
  rw[size_eq,length_sorted] at h0
  simp only[List.length_map] at h0
  obtain⟨x,hx⟩:=List.exists_mem_of_length_pos h0
  obtain⟨y,hy⟩:=F.reads x hx
  have hk:=Go.WideElems.rd_key hy
  obtain⟨s,_,hs2,_⟩:=string_of_keyOf Tryz.underlying9 hk
  have hh:Maps.has (DataW.map ((es.toList.map (Go.WideElems.rg Tryz.prog 9 e.rd)).foldr DataW.insert [])) (.string (bl s))=true:=by
   rw[has_eq,List.any_eq_true]
   refine⟨Go.WideElems.rg Tryz.prog 9 e.rd x,mem_sorted.2 (List.mem_map.2 ⟨x,hx,rfl⟩),?_⟩
   rw[Go.WideElems.rg_of hy,hs2]
   exact WideAt.sameKey_self (by trivial)
  cases hm:m (bl s) with
  | none=>rw[(h2 (bl s)).2 hm] at hh;cases hh
  | some c=>exact⟨_,c,hm⟩
def RngF (e:Elm β) (w:World) (b r n:Nat) (m:List UInt8→Option β) (lf:List UInt8→Bool) (cnt:Nat):Prop :=
 ∃(D:DataW Unit) (left:Lit→Bool),w.ranges Tryz.prog 9 e.rd b r n D left cnt ∧
  (∀x:List UInt8,(∀c,m x=some c→Maps.has D (.string x)=true∧∀z,D.atKey (.string x) z=e.dat c)∧(m x=none→Maps.has D (.string x)=false))∧∀x,left (.string x)=lf x
theorem RngF.map {e:Elm β} {w:World} {b r n:Nat} {m:List UInt8→Option β} {lf:List UInt8→Bool} {cnt:Nat} (h:RngF e w b r n m lf cnt):MapF e w b n m:=by
 obtain⟨D,left,h1,h2,_⟩:=h
 exact⟨D,h1.owns,h2⟩
theorem RngF.kept {e:Elm β} {w w':World} {b r n:Nat} {m:List UInt8→Option β} {lf:List UInt8→Bool} {cnt:Nat} {row:Option Nat} (h:RngF e w b r n m lf cnt) (hg:w.grownBy w' row) (hb:some b≠row) (hr:some r≠row):RngF e w' b r n m lf cnt:=by
 obtain⟨D,left,h1,h2⟩:=h
 exact⟨D,left,h1.kept hg hb hr,h2⟩
theorem RngF.lt {e:Elm β} {w:World} {b r n:Nat} {m:List UInt8→Option β} {lf:List UInt8→Bool} {cnt:Nat} (h:RngF e w b r n m lf cnt):r<w.heap.size∧b<w.heap.size:=by
 obtain⟨D,left,h1,_⟩:=h
 exact⟨h1.lt,h1.owns.lt⟩
theorem RngF.below {e:Elm β} {w w':World} {b r n:Nat} {m:List UInt8→Option β} {lf:List UInt8→Bool} {cnt:Nat} (h:RngF e w b r n m lf cnt) {B:Nat} (hb:Below B w w') (hB:b<B) (hR:r<B):RngF e w' b r n m lf cnt:=by
 obtain⟨D,left,⟨es,clock,since,seen,c0,h1,h2,h3,h4,h5,h6⟩,h7⟩:=h
 exact⟨D,left,⟨es,clock,since,seen,c0,(hb.block b hB).trans h1,h2,h3,h4,(hb.block r hR).trans h5,h6⟩,h7⟩
theorem MapF.range {e:Elm β} {w:World} {b n:Nat} {m:List UInt8→Option β} (h:MapF e w b n m) (ht:Tryz.prog.underlying t=some (.map 9 et)) :
  ∃w' cnt,(Instr.range t (.map (some b))).run Tryz.prog w=.ok (.pointer (some ⟨w.heap.size,0,none⟩)) w'∧RngF e w' b w.heap.size n m (fun x=>(m x).isSome) cnt∧w.grownBy w' none∧w'.heap.size=w.heap.size+1:=by
 obtain⟨D,h1,h2⟩:=h
 obtain⟨w',hrun,h3,h4,h5⟩:=h1.range str_keyed ht
 refine⟨w',_,hrun,⟨D,_,h3,h2,fun x => ?_⟩,h4,h5⟩
 cases hm:m x with
 | none=>show _=(m x).isSome;rw[hm];exact(h2 x).2 hm
 | some c=>show _=(m x).isSome;rw[hm];exact((h2 x).1 c hm).1
end
end Go.Proofs.YtgmehlgfilpleaaGreatDoor
namespace Go.Proofs.YtgmehlgfilpleaaGreatDoor
open Go.RowKit Go.Maps
set_option linter.unusedVariables false
set_option linter.unusedSimpArgs false
section
variable {β : Type} {e:Elm β} (w:World) {ops:Array Oper} {rest:List Oper} {o:Oper} {a:Act} {Q:Exit→Act→World→Prop}
theorem wpList_putF (hg:o.guard=none) (m x v:Operand) (t:TypeId) (hop:o.op=Op.mapUpdate t m x v) (et:TypeId) (ht:Tryz.prog.underlying t=some (.map 9 et)) (b n:Nat) (mm:List UInt8→Option β)
  (hm:a.eval m=.map (some b)) (h:MapF e w b n mm) (hn:n<maxLen) (s:ByteArray) (c : β) (hx:a.eval x=.string s) (hv:a.eval v=e.val c) (hs:s.size≤maxLen)
  (hK:∀w',MapF e w' b (n+1) (setK mm (bl s) (some c))→w.grownBy w' (some b)→wpList Tryz.prog ops Q rest (a.put o.dst undef) w') :
  wpList Tryz.prog ops Q (o::rest) a w:=by
 refine wpList_plain hg fun K' hK' => ?_
 obtain⟨w',hrun,r1,r2⟩:=h.put ht hn hs c
 unfold Oper.wp
 simp[execOp,hop,hm,hx,hv,hrun,Result.andThen]
 exact hK' _ _ (hK w' r1 r2)
theorem wpList_insertF (hg:o.guard=none) (m x v:Operand) (t:TypeId) (hop:o.op=Op.insert t m x v) (et:TypeId) (ht:Tryz.prog.underlying t=some (.map 9 et)) (b n:Nat) (mm:List UInt8→Option β)
  (hm:a.eval m=.map (some b)) (h:MapF e w b n mm) (hn:n<maxLen) (s:ByteArray) (c : β) (hx:a.eval x=.string s) (hv:a.eval v=e.val c) (hs:s.size≤maxLen)
  (hK:∀w',MapF e w' b (n+1) (setK mm (bl s) (some c))→w.grownBy w' (some b)→wpList Tryz.prog ops Q rest (a.put o.dst undef) w') :
  wpList Tryz.prog ops Q (o::rest) a w:=by
 refine wpList_plain hg fun K' hK' => ?_
 obtain⟨w',hrun,r1,r2⟩:=h.put ht hn hs c
 unfold Oper.wp
 simp[execOp,hop,hm,hx,hv,hrun,Result.andThen]
 exact hK' _ _ (hK w' r1 r2)
end
end Go.Proofs.YtgmehlgfilpleaaGreatDoor
namespace Go.Proofs.YtgmehlgfilpleaaGreatDoor
open Go.RowKit Go.Lib
set_option linter.unusedVariables false
set_option linter.unusedSimpArgs false
def rdB:Value→Option (DataW Unit × List MemPlace)
 | .bool b=>some (.lit (.bool b),[])
 | _=>none
def elmB:Elm Bool where
 val c:=.bool c
 dat c:=.lit (.bool c)
 rd:=rdB
 rd_mk c:=rfl
 inv v y h:=by
  unfold rdB at h
  split at h
  ·simp only[Option.some.injEq] at h
   exact⟨_,rfl,h.symm⟩
  ·cases h
 inj a b h:=by
  injection h with h
  injection h with h
theorem zeroB (w:World):(zeroValue 4).run Tryz.prog w=.ok (elmB.val false) w:=by kernel_rfl
section
variable {w:World} {ops:Array Oper} {rest:List Oper} {o:Oper} {a:Act} {Q:Exit→Act→World→Prop}
theorem wpList_putB (hg:o.guard=none) (m x v:Operand) (hop:o.op=Op.mapUpdate 91 m x v) (b n:Nat) (mm:List UInt8→Option Bool)
  (hm:a.eval m=.map (some b)) (h:MapF elmB w b n mm) (hn:n<maxLen) (r:List UInt8) (l:Bool) (hx:a.eval x=.string (sb r)) (hv:a.eval v=.bool l) (hs:r.length≤maxLen)
  (hK:∀w',Hid (MapF elmB w' b (n+1) (setK mm r (some l)))→Hid (w.grownBy w' (some b))→wpList Tryz.prog ops Q rest (a.put o.dst undef) w') :
  wpList Tryz.prog ops Q (o::rest) a w:=by
 refine wpList_putF w hg m x v _ hop 4 Tryz.underlying91 b n mm hm h hn (sb r) l hx hv hs ?_
 intro w' h1 h2
 rw[bl_sb] at h1
 exact hK w' h1 h2
end
theorem norder_any (c:Int) (w:World):Calls Tryz.prog 42 #[.int .i64 c] w fun e w'=>e=.returned (.int .i64 (if c=0 then 7 else if c<0 then 9 else 0))∧w=w':=by
 by_cases h0:c=0
 ·subst h0
  go_enter Tryz.func42,Tryz.ntmps42
  go_wp2
  go_ret
  exact⟨rfl,rfl⟩
 ·have e0:(c == 0)=false:=beq_eq_false_iff_ne.2 h0
  by_cases h1:c<0
  ·go_enter Tryz.func42,Tryz.ntmps42
   go_wp2
   go_ret
   exact⟨by first|rfl|simp_all,rfl⟩
  ·go_enter Tryz.func42,Tryz.ntmps42
   go_wp2
   go_ret
   exact⟨by first|rfl|simp_all,rfl⟩
end Go.Proofs.YtgmehlgfilpleaaGreatDoor
namespace Go.Proofs.YtgmehlgfilpleaaGreatDoor
open Go.RowKit
set_option linter.unusedVariables false
set_option linter.unusedSimpArgs false
theorem Frm.mapF {S:Nat→Prop} {β : Type} {e:Elm β} {b n:Nat} {m:List UInt8→Option β} {w w':World} (h:Frm S w w') (hm:MapF e w b n m) (h2:¬S b):MapF e w' b n m:=by
 have hl:=hm.lt
 obtain⟨D,⟨es,clock,hbk,r⟩,k⟩:=hm
 exact⟨D,⟨es,clock,(h.block b hl h2).trans hbk,r⟩,k⟩
def ixV (b1 b2 b3:Nat):Value:=.agg #[.map (some b1),.map (some b2),.map (some b3)]
structure IxR (b1 b2 b3 n:Nat) (mr ma mu:List UInt8→Option Bool) (w:World):Prop where
 r:MapF elmB w b1 n mr
 a:MapF elmB w b2 n ma
 u:MapF elmB w b3 n mu
 d1:b1≠b2
 d2:b1≠b3
 d3:b2≠b3
theorem IxR.frm {b1 b2 b3 n:Nat} {mr ma mu:List UInt8→Option Bool} {S:Nat→Prop} {w w':World} (h:IxR b1 b2 b3 n mr ma mu w) (hf:Frm S w w') (h1:¬S b1) (h2:¬S b2) (h3:¬S b3):IxR b1 b2 b3 n mr ma mu w' :=
 ⟨hf.mapF h.r h1,hf.mapF h.a h2,hf.mapF h.u h3,h.d1,h.d2,h.d3⟩
theorem IxR.below {b1 b2 b3 n:Nat} {mr ma mu:List UInt8→Option Bool} {w w':World} (h:IxR b1 b2 b3 n mr ma mu w) (hb:Below w.heap.size w w'):IxR b1 b2 b3 n mr ma mu w' :=
 ⟨h.r.below' hb,h.a.below' hb,h.u.below' hb,h.d1,h.d2,h.d3⟩
def aptB (l:List Fx) (s:List UInt8):Bool:=l.any fun f=>f.kd == 5&&decide (f.id=s)
def rwsB (l:List Fx) (r:List UInt8):Bool:=l.any fun f=>f.kd == 6&&decide (fxRef f=r)
def rfsB (l:List Fx) (r:List UInt8):Bool:=l.any fun f=>decide (fxRef f=r)
def hasB (l:List Fx) (r:List UInt8):Bool:=decide (r=[]) || rfsB l r
def bM (p:List UInt8→Bool):List UInt8→Option Bool:=fun s=>if p s=true then some true else none
theorem bM_getD (p:List UInt8→Bool) (s:List UInt8):(bM p s).getD false=p s:=by unfold bM;cases h:p s <;> simp
theorem bM_more {p q:List UInt8→Bool} {r:List UInt8} (h:∀s,p s=(q s || decide (r=s))):bM p=setK (bM q) r (some true):=by
 funext s
 unfold bM setK
 rw[h s]
 by_cases h1:s=r
 ·rw[if_pos h1,if_pos (by rw[h1];simp)]
 ·rw[if_neg h1]
  have h2:decide (r=s)=false:=decide_eq_false fun e=>h1 e.symm
  rw[h2,Bool.or_false]
theorem rfs_snoc (l:List Fx) (f:Fx):bM (rfsB (l++[f]))=setK (bM (rfsB l)) (fxRef f) (some true):=bM_more fun s=>by unfold rfsB;rw[List.any_append];simp
theorem apt_snoc5 (l:List Fx) (f:Fx) (h:f.kd=5):bM (aptB (l++[f]))=setK (bM (aptB l)) f.id (some true):=bM_more fun s=>by unfold aptB;rw[List.any_append];simp[h]
theorem apt_snoc (l:List Fx) (f:Fx) (h:f.kd≠5):bM (aptB (l++[f]))=bM (aptB l):=by
 have:aptB (l++[f])=aptB l:=by funext s;unfold aptB;rw[List.any_append];simp[h]
 rw[this]
theorem rws_snoc6 (l:List Fx) (f:Fx) (h:f.kd=6):bM (rwsB (l++[f]))=setK (bM (rwsB l)) (fxRef f) (some true):=bM_more fun s=>by unfold rwsB;rw[List.any_append];simp[h]
theorem rws_snoc (l:List Fx) (f:Fx) (h:f.kd≠6):bM (rwsB (l++[f]))=bM (rwsB l):=by
 have:rwsB (l++[f])=rwsB l:=by funext s;unfold rwsB;rw[List.any_append];simp[h]
 rw[this]
theorem MapF.lookB {w:World} {b n:Nat} {p:List UInt8→Bool} {r:List UInt8} {v:Bool} (h:MapF elmB w b n (bM p)) (hr:r.length≤maxLen) (hv:p r=v) :
  (Instr.lookup 91 (.map (some b)) (.string (sb r)) false).run Tryz.prog w=.ok (.bool v) w:=by
 have h1:=h.get Tryz.underlying91 false (zeroB w) (s:=sb r) hr
 rw[bl_sb,bM_getD,hv] at h1
 exact h1
def IxL (b1 b2 b3:Nat) (l:List Fx) (w:World):Prop:=IxR b1 b2 b3 l.length (bM (rfsB l)) (bM (aptB l)) (bM (rwsB l)) w
theorem IxL.below {b1 b2 b3:Nat} {l:List Fx} {w w':World} (h:IxL b1 b2 b3 l w) (hb:Below w.heap.size w w'):IxL b1 b2 b3 l w':=IxR.below h hb
theorem IxL.frm {b1 b2 b3:Nat} {l:List Fx} {S:Nat→Prop} {w w':World} (h:IxL b1 b2 b3 l w) (hf:Frm S w w') (h1:¬S b1) (h2:¬S b2) (h3:¬S b3):IxL b1 b2 b3 l w':=IxR.frm h hf h1 h2 h3
theorem IxL.lt {b1 b2 b3:Nat} {l:List Fx} {w:World} (h:IxL b1 b2 b3 l w):b1<w.heap.size∧b2<w.heap.size∧b3<w.heap.size:=⟨h.r.lt,h.a.lt,h.u.lt⟩
def fsE (e:Nat→Int) (k:Nat):Nat→Int
 | 0=>0
 | n+1=>if e k=0 then fsE e (k+1) n else e k
def allE (e:Nat→Int) (n:Nat):Int:=fsE e 0 n
theorem fsE_step {e:Nat→Int} {k n:Nat} (h:k<n) (h0:e k=0):fsE e k (n-k)=fsE e (k+1) (n-(k+1)):=by
 rw[show n-k=(n-(k+1))+1 by omega];exact if_pos h0
theorem fsE_hit {e:Nat→Int} {k n:Nat} (h:k<n) (h0:e k≠0):fsE e k (n-k)=e k:=by
 rw[show n-k=(n-(k+1))+1 by omega];exact if_neg h0
theorem fsE_end {e:Nat→Int} {k n:Nat} (h:n≤k):fsE e k (n-k)=0:=by rw[show n-k=0 by omega];rfl
theorem fsE_congr {e e':Nat→Int}:∀(n k:Nat),(∀j,k≤j→j<k+n→e j=e' j)→fsE e k n=fsE e' k n
 | 0,_,_=>rfl
 | n+1,k,h=>by
  show(if e k=0 then fsE e (k+1) n else e k)=if e' k=0 then fsE e' (k+1) n else e' k
  rw[h k (Nat.le_refl _) (by omega),fsE_congr n (k+1) (fun j h1 h2=>h j (by omega) (by omega))]
theorem allE_congr {e e':Nat→Int} {n:Nat} (h:∀j,j<n→e j=e' j):allE e n=allE e' n:=fsE_congr n 0 (fun j _ h2=>h j (by omega))
theorem fsE_zero {e:Nat→Int}:∀(n k:Nat),fsE e k n=0→∀j,k≤j→j<k+n→e j=0
 | 0,k,_,j,h1,h2=>by omega
 | n+1,k,h,j,h1,h2=>by
  by_cases h0:e k=0
  ·by_cases hj:j=k
   ·rw[hj];exact h0
   ·refine fsE_zero n (k+1) ?_ j (by omega) (by omega)
    have h3:fsE e k (n+1)=fsE e (k+1) n:=if_pos h0
    rw[←h3];exact h
  ·have h3:fsE e k (n+1)=e k:=if_neg h0
   exact absurd (h3.symm.trans h) h0
theorem allE_zero {e:Nat→Int} {n:Nat} (h:allE e n=0):∀j,j<n→e j=0:=fun j hj=>fsE_zero n 0 h j (Nat.zero_le _) (by omega)
def toX (la lo ma mo:Int):Int:=mdrZ 20626481 (locV la lo ma mo).x (locV la lo ma mo).z
def toY (la lo ma mo:Int):Int:=mdrZ 20626481 (locV la lo ma mo).y (locV la lo ma mo).z
def toE (la lo ma mo:Int):Int :=
 if (orgB la lo&&vldB ma mo)=false then 1 else if (locV la lo ma mo).z≤0 then 2 else if pntB (toX la lo ma mo) (toY la lo ma mo)=true then 0 else 2
def toP (la lo ma mo:Int):Int × Int:=if toE la lo ma mo=0 then (toX la lo ma mo,toY la lo ma mo) else (0,0)
def hdrE (h:ImHd):Int :=
 if nameB h.nm 8=false then 5 else if cdE h.cy≠0 then cdE h.cy else if h.fr≠cdF h.cy∨h.tu≠cdT h.cy then 13 else toE h.la h.lo h.la h.lo
def ordE (c:Int):Int:=if c=0 then 7 else if c<0 then 9 else 0
def plcE (la lo:Int) (f:Fx) (bf al:List Fx):Int :=
 if toE la lo f.lat f.lon≠0 then toE la lo f.lat f.lon else if (f.kd == 5&&aptB bf f.id)=true then 7 else if (f.kd == 6 && !aptB al f.rg)=true then 6 else 0
def fx1E (la lo:Int) (l:List Fx) (k:Nat):Int :=
 fstE [fixE (l.getD k fx0),if k=0 then 0 else ordE (cmpS (fxRef (l.getD k fx0)) (fxRef (l.getD (k-1) fx0))),plcE la lo (l.getD k fx0) (l.take k) l]
def aw0:AwD:=⟨[],[]⟩
def aw1E (fx:List Fx) (l:List AwD) (k:Nat):Int :=
 fstE [chkA (l.getD k aw0).nm (l.getD k aw0).ps,if k=0 then 0 else ordE (cmpS (l.getD k aw0).nm (l.getD (k-1) aw0).nm),if ((l.getD k aw0).ps.all fun p=>rfsB fx p.ref)=true then 0 else 6]
def lg0:Lg:=⟨0,[],[],0,false,0,0,0,0,0,0,0,0⟩
def pa0:Pa:=⟨0,[],[]⟩
def pr0:Prc:=⟨[],[],0,[]⟩
def kndL (k:Nat):List Nat:=if k=1 then [1,2,3] else if k=2 then [3,2,1] else if k=3 then [3,2,4] else []
def opnB (pk k t:Nat):Bool:=((k == 4 || (k == 1&&pk == 1))&&(t == 3 || t == 4 || t == 7 || t == 8 || t == 10)) || t == 1
def fromB (t:Nat):Bool:=decide (11≤t)&&decide (t≤17)
def flwB (a b:Nat):Bool :=
 decide (1≤a)&&decide (a≤17)&&decide (1≤b)&&decide (b≤17) &&
 (if a≤6 then b != 1 else if 14≤a then (b == 2 || b == 3 || b == 4 || (decide (7≤b)&&decide (b≤13))) else if a=9 then b == 3 else if a=13 then false else b == 3 || b == 4 || (decide (7≤b)&&decide (b≤10)))
def jnB (a b:Lg):Bool:=flwB a.ty b.ty&&(!fromB b.ty || decide (a.fi=b.fi))
def lg1E (pk k:Nat) (l:List Lg) (j:Nat):Int :=
 fstE [legE (l.getD j lg0),if j=0 then (if opnB pk k (l.getD j lg0).ty=true then 0 else 9) else (if jnB (l.getD (j-1) lg0) (l.getD j lg0)=true then 0 else 9)]
def nmdE (x:Pa):Int:=if x.kd=1∨x.kd=3 then (if nameB x.nm 8=true then 0 else 5) else (if x.nm=[] then 0 else 5)
def paO (pk:Nat) (x y:Pa):Int :=
 if (kndL pk).idxOf x.kd<(kndL pk).idxOf y.kd then 9 else if (kndL pk).idxOf x.kd=(kndL pk).idxOf y.kd then (if x.nm<y.nm then 9 else if x.nm=y.nm then 7 else 0) else 0
def pa1E (pk:Nat) (l:List Pa) (i:Nat):Int :=
 fstE [if (l.getD i pa0).kd∈kndL pk then 0 else 17,if i=0 then 0 else paO pk (l.getD i pa0) (l.getD (i-1) pa0),nmdE (l.getD i pa0),
  if (l.getD i pa0).lg.length=0 then 1 else if 24<(l.getD i pa0).lg.length then 3 else 0,allE (lg1E pk (l.getD i pa0).kd (l.getD i pa0).lg) (l.getD i pa0).lg.length]
def cmnB (l:List Pa):Bool:=l.any fun x=>x.kd == 2&&decide (x.nm=[])
def prcE (p:Prc):Int :=
 fstE [if (nameB p.ap 6&&nameB p.nm 8)=true then 0 else 5,if p.kd=1∨p.kd=2∨p.kd=3 then 0 else 17,if 12<p.pa.length then 3 else 0,allE (pa1E p.kd p.pa) p.pa.length,
  if p.pa.length=0 then 6 else 0,if p.kd=3∧cmnB p.pa=false then 6 else 0]
def cmpP (p q:Prc):Int:=if cmpS p.ap q.ap≠0 then cmpS p.ap q.ap else if p.kd<q.kd then -1 else if q.kd<p.kd then 1 else cmpS p.nm q.nm
def rwOk (fx:List Fx) (p:Prc) (x:Pa):Bool:=x.kd != 1 || rwsB fx (x.nm++47::p.ap)
def lgOkB (fx:List Fx) (g:Lg):Bool:=hasB fx g.fi&&hasB fx g.ce
def pr1E (fx:List Fx) (l:List Prc) (k:Nat):Int :=
 fstE [prcE (l.getD k pr0),if k=0 then 0 else ordE (cmpP (l.getD k pr0) (l.getD (k-1) pr0)),if aptB fx (l.getD k pr0).ap=true then 0 else 6,
  if ((l.getD k pr0).pa.all fun x=>rwOk fx (l.getD k pr0) x)=true then 0 else 6,if ((l.getD k pr0).pa.all fun x=>x.lg.all fun g=>lgOkB fx g)=true then 0 else 6]
def dbE (d:DbD):Int :=
 fstE [hdrE d.hd,if 400<d.fx.length∨60<d.aw.length∨60<d.pr.length then 3 else 0,allE (fx1E d.hd.la d.hd.lo d.fx) d.fx.length,allE (aw1E d.fx d.aw) d.aw.length,allE (pr1E d.fx d.pr) d.pr.length]
end Go.Proofs.YtgmehlgfilpleaaGreatDoor
