/-
  Several texts as one.
-/
import Derived.Test.YtgmehlgfilpleaaGreatDoorMG01
import Derived.Lib.SliceRun
import Derived.Deep.LoopGhost
import Derived.Deep.DeepCutAuto
namespace Go.Proofs.YtgmehlgfilpleaaGreatDoor
open Go.RowKit
set_option linter.unusedVariables false
set_option linter.unusedSimpArgs false

structure Fx where
 id:List UInt8
 rg:List UInt8
 kd:Nat
 lat:Int
 lon:Int
 el:Int
 ra:Int
def fxc (f:Fx):List Value:=[.string (sb f.id),.string (sb f.rg),.int .u8 (f.kd:Int),.int .i64 f.lat,.int .i64 f.lon,.int .i64 f.el,.int .i64 f.ra]
def fxcells (l:List Fx):List Value:=l.flatMap fxc
def fx0:Fx:=⟨[],[],0,0,0,0,0⟩
def fxRef (f:Fx):List UInt8:=f.id++47::f.rg
theorem blkCell' {w:World} {g:Nat} {cs:Array Value} {T:TypeId} (h:w.heap[g]? = some (.cells cs T (0,0))) (j:Nat) {u:Value} (hu:cs[j]? = some u):w.cell? ⟨g,j,none⟩=some u:=by rw[Lib.cell_of_heap h];exact hu
theorem lt_heap {w:World} {b:Nat} {o:Obj} (h:w.heap[b]? = some o):b<w.heap.size:=(Array.getElem?_eq_some_iff.1 h).1
def FxBox (w:World) (b:Nat) (f:Fx):Prop:=w.heap[b]? = some (.cells #[.string (sb f.id),.string (sb f.rg),.int .u8 (f.kd:Int),.int .i64 f.lat,.int .i64 f.lon,.int .i64 f.el,.int .i64 f.ra] 38 (0,0))
structure FxCells (w:World) (b:Nat) (a c:ByteArray) (k:Nat) (lat lon el ra:Int):Prop where
 c0:w.cell? ⟨b,0,none⟩=some (.string a)
 c1:w.cell? ⟨b,1,none⟩=some (.string c)
 c2:w.cell? ⟨b,2,none⟩=some (.int .u8 (k:Int))
 c3:w.cell? ⟨b,3,none⟩=some (.int .i64 lat)
 c4:w.cell? ⟨b,4,none⟩=some (.int .i64 lon)
 c5:w.cell? ⟨b,5,none⟩=some (.int .i64 el)
 c6:w.cell? ⟨b,6,none⟩=some (.int .i64 ra)
theorem FxBox.cells {w:World} {b:Nat} {f:Fx} (h:FxBox w b f):FxCells w b (sb f.id) (sb f.rg) f.kd f.lat f.lon f.el f.ra :=
 ⟨blkCell' h 0 rfl,blkCell' h 1 rfl,blkCell' h 2 rfl,blkCell' h 3 rfl,blkCell' h 4 rfl,blkCell' h 5 rfl,blkCell' h 6 rfl⟩
theorem FxBox.below {w w':World} {b:Nat} {f:Fx} (h:FxBox w b f) (hb:Below w.heap.size w w'):FxBox w' b f:=(hb.block b (Array.getElem?_eq_some_iff.1 h).1).trans h
theorem fxBox_new (w:World) (f:Fx):FxBox (w.alloc (.cells #[.string (sb f.id),.string (sb f.rg),.int .u8 (f.kd:Int),.int .i64 f.lat,.int .i64 f.lon,.int .i64 f.el,.int .i64 f.ra] 38)) w.heap.size f:=heap_alloc_new w _
def Bx (b:Nat) (cs:Array Value) (t:TypeId) (w:World):Prop:=w.heap[b]? = some (.cells cs t (0,0))
theorem Bx.lt {b:Nat} {cs:Array Value} {t:TypeId} {w:World} (h:Bx b cs t w):b<w.heap.size:=lt_heap h
theorem Bx.via {b:Nat} {cs:Array Value} {t:TypeId} {T wa:World} (hb:Below T.heap.size T wa) (h:Bx b cs t T):Bx b cs t wa:=(hb.block b h.lt).trans h
theorem Bx.last (T:World) (cs:Array Value) (t:TypeId):Bx T.heap.size cs t (T.alloc (.cells cs t)):=heap_alloc_new T _
theorem Bx.set {b:Nat} {cs:Array Value} {t:TypeId} {w:World} (h:Bx b cs t w) (j:Nat) (u:Value):Bx b (cs.setIfInBounds j u) t (w.setCell ⟨b,j,none⟩ u):=heap_setCell_same w b j cs t u h
theorem Bx.cell {b:Nat} {cs:Array Value} {t:TypeId} {w:World} (h:Bx b cs t w) (j:Nat) {u:Value} (hu:cs[j]? = some u):w.cell? ⟨b,j,none⟩=some u:=blkCell' h j hu
theorem Bx.free {b:Nat} {cs:Array Value} {t:TypeId} {w:World} (h:Bx b cs t w) (j:Nat):w.frozen? ⟨b,j,none⟩=false:=frozen_of_row w b j cs t h
theorem Bx.grow {b:Nat} {cs:Array Value} {t:TypeId} {T:World} (h:Bx b cs t T) (o:Obj):Bx b cs t (T.alloc o):=h.via ((Below.refl _ T).alloc (Nat.le_refl _) o)
theorem Bx.drew {b:Nat} {cs:Array Value} {t:TypeId} {T:World} (h:Bx b cs t T):Bx b cs t T.drew:=h
theorem Bx.last2 (T:World) (o:Obj) (cs:Array Value) (t:TypeId):Bx (T.heap.size+1) cs t ((T.alloc o).alloc (.cells cs t)):=by
 have:=Bx.last (T.alloc o) cs t
 rw[World.size_alloc] at this
 exact this
theorem Bx.set9 {b:Nat} {x0 x1 x2 x3 x4 x5 x6 x7 x8:Value} {t:TypeId} {w:World} (h:Bx b #[x0,x1,x2,x3,x4,x5,x6,x7,x8] t w) (y0 y1 y2 y3 y4 y5 y6 y7 y8:Value) :
  Bx b #[y0,y1,y2,y3,y4,y5,y6,y7,y8] t (((((((((w.setCell ⟨b,0,none⟩ y0).setCell ⟨b,1,none⟩ y1).setCell ⟨b,2,none⟩ y2).setCell ⟨b,3,none⟩ y3).setCell ⟨b,4,none⟩ y4).setCell ⟨b,5,none⟩ y5).setCell ⟨b,6,none⟩ y6).setCell ⟨b,7,none⟩ y7).setCell ⟨b,8,none⟩ y8):=by
 have h0:Bx b #[y0,x1,x2,x3,x4,x5,x6,x7,x8] t _:=h.set 0 y0
 have h1:Bx b #[y0,y1,x2,x3,x4,x5,x6,x7,x8] t _:=h0.set 1 y1
 have h2:Bx b #[y0,y1,y2,x3,x4,x5,x6,x7,x8] t _:=h1.set 2 y2
 have h3:Bx b #[y0,y1,y2,y3,x4,x5,x6,x7,x8] t _:=h2.set 3 y3
 have h4:Bx b #[y0,y1,y2,y3,y4,x5,x6,x7,x8] t _:=h3.set 4 y4
 have h5:Bx b #[y0,y1,y2,y3,y4,y5,x6,x7,x8] t _:=h4.set 5 y5
 have h6:Bx b #[y0,y1,y2,y3,y4,y5,y6,x7,x8] t _:=h5.set 6 y6
 have h7:Bx b #[y0,y1,y2,y3,y4,y5,y6,y7,x8] t _:=h6.set 7 y7
 have h8:Bx b #[y0,y1,y2,y3,y4,y5,y6,y7,y8] t _:=h7.set 8 y8
 exact h8
theorem Bx.cells9 {b:Nat} {x0 x1 x2 x3 x4 x5 x6 x7 x8:Value} {t:TypeId} {w:World} (h:Bx b #[x0,x1,x2,x3,x4,x5,x6,x7,x8] t w) :
  (w.cell? ⟨b,0,none⟩=some x0∧w.cell? ⟨b,1,none⟩=some x1∧w.cell? ⟨b,2,none⟩=some x2∧w.cell? ⟨b,3,none⟩=some x3∧w.cell? ⟨b,4,none⟩=some x4∧w.cell? ⟨b,5,none⟩=some x5∧w.cell? ⟨b,6,none⟩=some x6∧w.cell? ⟨b,7,none⟩=some x7∧w.cell? ⟨b,8,none⟩=some x8) ∧
  (w.frozen? ⟨b,0,none⟩=false∧w.frozen? ⟨b,1,none⟩=false∧w.frozen? ⟨b,2,none⟩=false∧w.frozen? ⟨b,3,none⟩=false∧w.frozen? ⟨b,4,none⟩=false∧w.frozen? ⟨b,5,none⟩=false∧w.frozen? ⟨b,6,none⟩=false∧w.frozen? ⟨b,7,none⟩=false∧w.frozen? ⟨b,8,none⟩=false) :=
 ⟨⟨h.cell 0 rfl,h.cell 1 rfl,h.cell 2 rfl,h.cell 3 rfl,h.cell 4 rfl,h.cell 5 rfl,h.cell 6 rfl,h.cell 7 rfl,h.cell 8 rfl⟩,h.free 0,h.free 1,h.free 2,h.free 3,h.free 4,h.free 5,h.free 6,h.free 7,h.free 8⟩
theorem Bx.set3 {b:Nat} {x0 x1 x2:Value} {t:TypeId} {w:World} (h:Bx b #[x0,x1,x2] t w) (y0 y1 y2:Value) :
  Bx b #[y0,y1,y2] t (((w.setCell ⟨b,0,none⟩ y0).setCell ⟨b,1,none⟩ y1).setCell ⟨b,2,none⟩ y2):=((h.set 0 y0).set 1 y1).set 2 y2
theorem Bx.cells3 {b:Nat} {x0 x1 x2:Value} {t:TypeId} {w:World} (h:Bx b #[x0,x1,x2] t w) :
  (w.cell? ⟨b,0,none⟩=some x0∧w.cell? ⟨b,1,none⟩=some x1∧w.cell? ⟨b,2,none⟩=some x2)∧(w.frozen? ⟨b,0,none⟩=false∧w.frozen? ⟨b,1,none⟩=false∧w.frozen? ⟨b,2,none⟩=false) :=
 ⟨⟨h.cell 0 rfl,h.cell 1 rfl,h.cell 2 rfl⟩,h.free 0,h.free 1,h.free 2⟩
theorem bel_set9 {B b:Nat} {w0 w:World} (h:Below B w0 w) (hb:B≤b) (y0 y1 y2 y3 y4 y5 y6 y7 y8:Value):Below B w0 (((((((((w.setCell ⟨b,0,none⟩ y0).setCell ⟨b,1,none⟩ y1).setCell ⟨b,2,none⟩ y2).setCell ⟨b,3,none⟩ y3).setCell ⟨b,4,none⟩ y4).setCell ⟨b,5,none⟩ y5).setCell ⟨b,6,none⟩ y6).setCell ⟨b,7,none⟩ y7).setCell ⟨b,8,none⟩ y8) :=
 ((((((((h.setCell hb y0).setCell hb y1).setCell hb y2).setCell hb y3).setCell hb y4).setCell hb y5).setCell hb y6).setCell hb y7).setCell hb y8
theorem bel_set3 {B b:Nat} {w0 w:World} (h:Below B w0 w) (hb:B≤b) (y0 y1 y2:Value):Below B w0 (((w.setCell ⟨b,0,none⟩ y0).setCell ⟨b,1,none⟩ y1).setCell ⟨b,2,none⟩ y2) :=
 ((h.setCell hb y0).setCell hb y1).setCell hb y2
structure Frm (S:Nat→Prop) (w w':World):Prop where
 os:w'.os=w.os
 tape:w'.tape=w.tape
 output:w'.output=w.output
 size:w.heap.size≤w'.heap.size
 block:∀k,k<w.heap.size→¬S k→w'.heap[k]? = w.heap[k]?
theorem Frm.refl (S:Nat→Prop) (w:World):Frm S w w:=⟨rfl,rfl,rfl,Nat.le_refl _,fun _ _ _=>rfl⟩
theorem Frm.trans {S:Nat→Prop} {a b c:World} (h:Frm S a b) (k:Frm S b c):Frm S a c :=
 ⟨k.os.trans h.os,k.tape.trans h.tape,k.output.trans h.output,Nat.le_trans h.size k.size,fun i hi hn=>(k.block i (Nat.lt_of_lt_of_le hi h.size) hn).trans (h.block i hi hn)⟩
theorem Frm.of_below {S:Nat→Prop} {w w':World} (h:Below w.heap.size w w'):Frm S w w':=⟨h.os,h.tape,h.output,h.size,fun k hk _=>h.block k hk⟩
theorem Frm.grown {S:Nat→Prop} {w w':World} {b:Nat} (h:w.grownBy w' (some b)) (hb:S b):Frm S w w' :=
 ⟨h.os,h.tape,h.output,h.size,fun k hk hn=>h.block k hk (fun e=>by injection e with e;exact hn (e ▸ hb))⟩
theorem Frm.mono {S T:Nat→Prop} {w w':World} (h:Frm S w w') (hT:∀k,S k→T k):Frm T w w':=⟨h.os,h.tape,h.output,h.size,fun k hk hn=>h.block k hk (fun hs=>hn (hT k hs))⟩
theorem Frm.below {S:Nat→Prop} {w w':World} (h:Frm S w w') {B:Nat} (hB:B≤w.heap.size) (hS:∀k,S k→B≤k):Below B w w' :=
 ⟨h.os,h.tape,h.output,h.size,fun k hk=>h.block k (by omega) (fun hs=>by have:=hS k hs;omega)⟩
theorem Frm.cell {S:Nat→Prop} {w w':World} (h:Frm S w w') {a:Addr} (h1:a.block<w.heap.size) (h2:¬S a.block):w'.cell? a=w.cell? a:=World.cell?_of_block (h.block _ h1 h2)

def FRefPost (f:Fx) (w:World) (e:Ending) (w':World):Prop:=e=.returned (.string (sb (fxRef f)))∧Below w.heap.size w w'
theorem fixRef_any (f:Fx) (w:World) (hi:f.id.length≤1000000000000000) (hr:f.rg.length≤1000000000000000) :
  Calls Tryz.prog 14 #[.agg #[.string (sb f.id),.string (sb f.rg),.int .u8 (f.kd:Int),.int .i64 f.lat,.int .i64 f.lon,.int .i64 f.el,.int .i64 f.ra]] w (FRefPost f w):=by
 have h1:(sb f.id).size≤1000000000000000:=hi
 have h2:(sb f.rg).size≤1000000000000000:=hr
 have HE:Hid (∀s:ByteArray,bl s=fxRef f→sb (fxRef f)=s):=fun s h=>by rw[←h,sb_bl]
 clear hi hr
 go_enter Tryz.func14,Tryz.ntmps14
 go_wp2
 go_ret
 refine⟨?_,(Below.refl _ _).alloc (Nat.le_refl _) _⟩
 rw[HE.out (sb f.id++⟨#[47]⟩++sb f.rg) (by rw[bl_append,bl_append,bl_sb,bl_sb];unfold fxRef;simp[bl_mk])]
 first|rfl|(simp[ByteArray.append_assoc])
theorem rfixRef_any (f:Fx) (w:World) (hi:f.id.length≤1000000000000000) (hr:f.rg.length≤1000000000000000) :
  Calls Tryz.prog 51 #[.agg #[.string (sb f.id),.string (sb f.rg),.int .u8 (f.kd:Int),.int .i64 f.lat,.int .i64 f.lon,.int .i64 f.el,.int .i64 f.ra]] w (FRefPost f w):=by
 have h1:(sb f.id).size≤1000000000000000:=hi
 have h2:(sb f.rg).size≤1000000000000000:=hr
 have HE:Hid (∀s:ByteArray,bl s=fxRef f→sb (fxRef f)=s):=fun s h=>by rw[←h,sb_bl]
 clear hi hr
 go_enter Tryz.func51,Tryz.ntmps51
 go_wp2
 go_ret
 refine⟨?_,(Below.refl _ _).alloc (Nat.le_refl _) _⟩
 rw[HE.out (sb f.id++⟨#[47]⟩++sb f.rg) (by rw[bl_append,bl_append,bl_sb,bl_sb];unfold fxRef;simp[bl_mk])]
 first|rfl|(simp[ByteArray.append_assoc])

theorem infoFix:(Tryz.prog.info? 38).map (fun i=>(i.zero,i.size,i.bytes))=some (some (.agg #[.string ⟨#[]⟩,.string ⟨#[]⟩,.int .u8 0,.int .i64 0,.int .i64 0,.int .i64 0,.int .i64 0]),7,72):=by kernel_rfl
theorem fxcells_len (l:List Fx):(fxcells l).length=l.length*7:=by
 induction l with
 | nil=>rfl
 | cons p l ih =>
  show(fxc p++fxcells l).length=_
  rw[List.length_append,ih,List.length_cons]
  show 7+_=_
  omega
theorem fxcells_at (l:List Fx):∀(k:Nat) (h:k<l.length) (j:Nat),j<7→(fxcells l)[k*7+j]? = (fxc l[k])[j]? := by
 induction l with
 | nil=>intro k h;simp at h
 | cons p l ih =>
  intro k h j hj
  show(fxc p++fxcells l)[k*7+j]? = _
  have hl:(fxc p).length=7:=rfl
  cases k with
  | zero=>rw[Nat.zero_mul,Nat.zero_add,List.getElem?_append_left (by omega)];rfl
  | succ k =>
   rw[List.getElem?_append_right (by omega),hl,show(k+1)*7+j-7=k*7+j by omega]
   exact ih k (by simpa using h) j hj
def FxsR (w:World) (v:Value) (l:List Fx):Prop:=Rd w 7 v l.length (fxcells l)
theorem FxsR.below {w w':World} {v:Value} {l:List Fx} (h:FxsR w v l) (hb:Below w.heap.size w w'):FxsR w' v l:=Rd.below h hb
theorem FxsR.form {w:World} {v:Value} {l:List Fx} (h:FxsR w v l):∃A c,v=.slice A l.length c∧l.length≤c∧c≤9223372036854775807:=by
 obtain⟨A,c,hv,hc,hm⟩:=Rd.form h
 unfold maxLen at hm
 exact⟨A,c,hv,hc,by omega⟩
structure FxAt (w:World) (g o:Nat) (f:Fx):Prop where
 c0:w.cell? ⟨g,o,none⟩=some (.string (sb f.id))
 c1:w.cell? ⟨g,o+1,none⟩=some (.string (sb f.rg))
 c2:w.cell? ⟨g,o+2,none⟩=some (.int .u8 (f.kd:Int))
 c3:w.cell? ⟨g,o+3,none⟩=some (.int .i64 f.lat)
 c4:w.cell? ⟨g,o+4,none⟩=some (.int .i64 f.lon)
 c5:w.cell? ⟨g,o+5,none⟩=some (.int .i64 f.el)
 c6:w.cell? ⟨g,o+6,none⟩=some (.int .i64 f.ra)
theorem FxsR.at_ {w:World} {v:Value} {l:List Fx} (h:FxsR w v l) {k:Nat} (hk:k<l.length):∃g o c,v=.slice (some ⟨g,o,none⟩) l.length c∧g<w.heap.size∧FxAt w g (o+k*7) l[k]:=by
 obtain⟨hl,A,c,hv,hc,hm,hr⟩:=h
 obtain⟨g,o,rfl,hg,hx⟩:=hr (by omega)
 have key:∀j u,j<7→(fxc l[k])[j]? = some u→w.cell? ⟨g,o+k*7+j,none⟩=some u:=fun j u hj hu=>by
  have:=hx (k*7+j) u (by rw[fxcells_at l k hk j hj];exact hu)
  rwa [←Nat.add_assoc] at this
 exact⟨g,o,c,hv,hg,key 0 _ (by omega) rfl,key 1 _ (by omega) rfl,key 2 _ (by omega) rfl,key 3 _ (by omega) rfl,key 4 _ (by omega) rfl,key 5 _ (by omega) rfl,key 6 _ (by omega) rfl⟩
theorem FxAt.below {w w':World} {g o:Nat} {f:Fx} (h:FxAt w g o f) (hg:g<w.heap.size) {B:Nat} (hb:Below B w w') (hB:g<B):FxAt w' g o f:=by
 have k:∀j,w'.cell? ⟨g,j,none⟩=w.cell? ⟨g,j,none⟩:=fun j=>hb.cell (p:=⟨g,j,none⟩) hB
 exact⟨(k _).trans h.c0,(k _).trans h.c1,(k _).trans h.c2,(k _).trans h.c3,(k _).trans h.c4,(k _).trans h.c5,(k _).trans h.c6⟩
theorem str_eq' {l:List UInt8} {t:ByteArray}:((sb l).toList == t.toList)=decide (l=bl t):=by rw[bl_toList,bl_toList,bl_sb,Bool.eq_iff_iff,beq_iff_eq,decide_eq_true_iff]
def SzL (l:List Fx):Prop:=∀f∈l,f.id.length≤1000000000000000∧f.rg.length≤1000000000000000
theorem SzL.take {l:List Fx} (h:SzL l) (n:Nat):SzL (l.take n):=fun f hf=>h f (List.mem_of_mem_take hf)
theorem SzL.get {l:List Fx} (h:SzL l) {k:Nat} (hk:k<l.length):l[k].id.length≤1000000000000000∧l[k].rg.length≤1000000000000000:=h _ (List.getElem_mem hk)
def findL (l:List Fx) (t:List UInt8):Option Fx:=l.find? fun f=>decide (fxRef f=t)
theorem find_miss {l:List Fx} {t:List UInt8} {k:Nat} (hk:k<l.length) (h:findL (l.take k) t=none) (he:fxRef l[k]≠t):findL (l.take (k+1)) t=none:=by
 unfold findL at h ⊢
 rw[List.take_succ_eq_append_getElem hk,List.find?_append,h]
 simp[he]
theorem find_hit {l:List Fx} {t:List UInt8} {k:Nat} (hk:k<l.length) (h:findL (l.take k) t=none) (he:fxRef l[k]=t):findL l t=some l[k]:=by
 unfold findL at h ⊢
 have hl:l=l.take k++l[k]::l.drop (k+1):=by rw[List.getElem_cons_drop,List.take_append_drop]
 generalize l[k]=p at hl he ⊢
 rw[hl,List.find?_append,h]
 simp[he]
def FindPost (o:Option Fx) (w:World) (e:Ending) (w':World):Prop :=
 e=.returned (.tuple #[.agg #[.string (sb (o.getD fx0).id),.string (sb (o.getD fx0).rg),.int .u8 ((o.getD fx0).kd:Int),.int .i64 (o.getD fx0).lat,.int .i64 (o.getD fx0).lon,.int .i64 (o.getD fx0).el,.int .i64 (o.getD fx0).ra],.bool o.isSome])∧Below w.heap.size w w'
theorem FindPost.some {o:Option Fx} {w w':World} {p:Fx} (h:o=some p) (hb:Below w.heap.size w w') :
  FindPost o w (.returned (.tuple #[.agg #[.string (sb p.id),.string (sb p.rg),.int .u8 (p.kd:Int),.int .i64 p.lat,.int .i64 p.lon,.int .i64 p.el,.int .i64 p.ra],.bool true])) w':=by subst h;exact⟨rfl,hb⟩
theorem FindPost.none {o:Option Fx} {w w':World} (h:o=none) (hb:Below w.heap.size w w') :
  FindPost o w (.returned (.tuple #[.agg #[.string ⟨#[]⟩,.string ⟨#[]⟩,.int .u8 0,.int .i64 0,.int .i64 0,.int .i64 0,.int .i64 0],.bool false])) w':=by subst h;exact⟨rfl,hb⟩
set_option maxRecDepth 100000 in
set_option maxHeartbeats 2000000 in
theorem rfind_any (v:Value) (l:List Fx) (t:ByteArray) (w:World) (h:FxsR w v l) (hz:SzL l) (hN:l.length≤1000000000000) :
  Calls Tryz.prog 84 #[v,.string t] w (FindPost (findL l (bl t)) w):=by
 have K1:Hid (Below w.heap.size w (w.alloc (.cells #[.string ⟨#[]⟩,.string ⟨#[]⟩,.int .u8 0,.int .i64 0,.int .i64 0,.int .i64 0,.int .i64 0] 38))):=(Below.refl _ _).alloc (Nat.le_refl _) _
 have B1:Hid (FxBox (w.alloc (.cells #[.string ⟨#[]⟩,.string ⟨#[]⟩,.int .u8 0,.int .i64 0,.int .i64 0,.int .i64 0,.int .i64 0] 38)) w.heap.size fx0):=heap_alloc_new w _
 obtain⟨A,c,rfl,hcc,hm⟩:=h.form
 have H:=Lib.hid h
 obtain⟨n,hn⟩:∃n,l.length=n:=⟨_,rfl⟩
 have HN:=Lib.hid hn
 rw[hn] at hcc H hN ⊢
 clear h hn
 go_enter Tryz.func84,Tryz.ntmps84
 go_wp2_with fail
 go_loopw [10] (fun i wr=>∃k:Nat,k≤n∧i=.int .i64 k∧Hid (findL (l.take k) (bl t)=none)∧Below w.heap.size w wr∧FxBox wr w.heap.size fx0) (fun i _=>n-(intOf i).toNat)
 case atStart=>exact⟨0,Nat.zero_le _,rfl,rfl,K1.out,B1.out⟩
 case round =>
  obtain⟨k,hk,rfl,hno,hbr,hbx⟩:=hrel
  have hbw:w.heap.size<wr.heap.size:=lt_heap hbx
  by_cases hlt:k<n
  ·have hkl:k<l.length:=by rw[HN.out];exact hlt
   obtain⟨g,o,c',hA,hg,hat⟩:=H.out.at_ hkl
   rw[HN.out] at hA
   simp only[Value.slice.injEq,true_and] at hA
   obtain⟨rfl,rfl⟩:=hA
   have hs:=hz.get hkl
   have HM:=Lib.hid (find_miss (t:=bl t) hkl hno.out)
   have HH:=Lib.hid (find_hit (t:=bl t) hkl hno.out)
   obtain⟨p,hp⟩:∃p,l[k]=p:=⟨_,rfl⟩
   have HP:=Lib.hid hp
   rw[hp] at hat HM HH hs
   obtain⟨c0,c1,c2,c3,c4,c5,c6⟩:=hat.below hg hbr hg
   have hgw:g<wr.heap.size:=Nat.lt_of_lt_of_le hg hbr.size
   have hk1:(k:Int)<(n:Int):=by omega
   have X1:Hid (FxBox (wr.alloc (.cells #[.string (sb p.id),.string (sb p.rg),.int .u8 (p.kd:Int),.int .i64 p.lat,.int .i64 p.lon,.int .i64 p.el,.int .i64 p.ra] 38)) wr.heap.size p):=fxBox_new wr p
   have X0:Hid (FxBox (wr.alloc (.cells #[.string (sb p.id),.string (sb p.rg),.int .u8 (p.kd:Int),.int .i64 p.lat,.int .i64 p.lon,.int .i64 p.el,.int .i64 p.ra] 38)) w.heap.size fx0):=hbx.below ((Below.refl _ _).alloc (Nat.le_refl _) _)
   have XB:Hid (Below w.heap.size w (wr.alloc (.cells #[.string (sb p.id),.string (sb p.rg),.int .u8 (p.kd:Int),.int .i64 p.lat,.int .i64 p.lon,.int .i64 p.el,.int .i64 p.ra] 38))):=hbr.alloc hbr.size _
   clear hat hp hbx
   by_cases he:fxRef p=bl t
   ·have HR:((sb (fxRef p)).toList == t.toList)=true:=by rw[str_eq'];exact decide_eq_true he
    have HH2:=Lib.hid (HH.out he)
    clear he
    go_wp2_with fail
    refine(rfixRef_any p _ hs.1 hs.2).mono ?_
    rintro e w2 ⟨rfl,hb2⟩
    have B2:=X0.out.below hb2
    have HB2:=Lib.hid (XB.out.trans (hb2.mono XB.out.size))
    obtain⟨y0,y1,y2,y3,y4,y5,y6⟩:=(X1.out.below hb2).cells
    have hsz:=lt_heap B2
    have hsz2:=lt_heap (X1.out.below hb2)
    have f0:=frozen_of_row w2 w.heap.size 0 _ _ B2
    have f1:=frozen_of_row w2 w.heap.size 1 _ _ B2
    have f2:=frozen_of_row w2 w.heap.size 2 _ _ B2
    have f3:=frozen_of_row w2 w.heap.size 3 _ _ B2
    have f4:=frozen_of_row w2 w.heap.size 4 _ _ B2
    have f5:=frozen_of_row w2 w.heap.size 5 _ _ B2
    have f6:=frozen_of_row w2 w.heap.size 6 _ _ B2
    obtain⟨z0,z1,z2,z3,z4,z5,z6⟩:=B2.cells
    clear hb2 B2 c0 c1 c2 c3 c4 c5 c6
    go_wp2
    exact bodyPost_ret (v:=.tuple #[.agg #[.string (sb p.id),.string (sb p.rg),.int .u8 (p.kd:Int),.int .i64 p.lat,.int .i64 p.lon,.int .i64 p.el,.int .i64 p.ra],.bool true]) (by simp[results,Tryz.results84,go_sem,z0,z1,z2,z3,z4,z5,z6,hsz]) rfl (FindPost.some (by rw[HH2.out]) (by repeat(first|with_reducible exact HB2.out|with_reducible refine Below.setCell ?_ (by simp) _|with_reducible refine Below.drew ?_|with_reducible refine Below.alloc ?_ (by simp;omega) _)))
   ·have HR:((sb (fxRef p)).toList == t.toList)=false:=by rw[str_eq'];exact decide_eq_false he
    have HM2:=Lib.hid (HM.out he)
    clear he
    go_wp2_with fail
    refine(rfixRef_any p _ hs.1 hs.2).mono ?_
    rintro e w2 ⟨rfl,hb2⟩
    have B2:=X0.out.below hb2
    have HB2:=XB.out.trans (hb2.mono XB.out.size)
    clear hb2 c0 c1 c2 c3 c4 c5 c6
    go_wp2
    go_roundw
    case rel=>exact⟨k+1,hlt,by go_num,HM2.out,HB2,B2⟩
    case measure=>simp[intOf];omega
  ·have hkn:l.take k=l:=List.take_of_length_le (by have:=HN.out;omega)
   have HNO:Hid (findL l (bl t)=none):=by have:=hno.out;rwa [hkn] at this
   have f0:=frozen_of_row wr w.heap.size 0 _ _ hbx
   have f1:=frozen_of_row wr w.heap.size 1 _ _ hbx
   have f2:=frozen_of_row wr w.heap.size 2 _ _ hbx
   have f3:=frozen_of_row wr w.heap.size 3 _ _ hbx
   have f4:=frozen_of_row wr w.heap.size 4 _ _ hbx
   have f5:=frozen_of_row wr w.heap.size 5 _ _ hbx
   have f6:=frozen_of_row wr w.heap.size 6 _ _ hbx
   obtain⟨z0,z1,z2,z3,z4,z5,z6⟩:=hbx.cells
   have HBR:=Lib.hid hbr
   clear hkn hno hbx hbr
   go_wp2
   exact bodyPost_ret (v:=.tuple #[.agg #[.string ⟨#[]⟩,.string ⟨#[]⟩,.int .u8 0,.int .i64 0,.int .i64 0,.int .i64 0,.int .i64 0],.bool false]) (by simp[results,Tryz.results84,go_sem,z0,z1,z2,z3,z4,z5,z6,hbw]) rfl (FindPost.none HNO.out (by repeat(first|with_reducible exact HBR.out|with_reducible refine Below.setCell ?_ (by simp) _|with_reducible refine Below.drew ?_|with_reducible refine Below.alloc ?_ (by simp;omega) _)))
end Go.Proofs.YtgmehlgfilpleaaGreatDoor
namespace Go.Proofs.YtgmehlgfilpleaaGreatDoor
open Go.RowKit Go.Lib Go.Sort
set_option linter.unusedVariables false
set_option linter.unusedSimpArgs false
theorem stableZ_fix (A:Option Addr) (cap:Nat) (fv:Value) (w:World):Calls Tryz.prog 193 #[.slice A 0 cap,fv] w fun e w'=>e=.returned (.tuple #[])∧w'=w:=by
 have h1:∀w,Calls Tryz.prog 338 #[.slice A 0 cap,.int .i64 0,.int .i64 0,fv] w fun e w'=>e=.returned (.tuple #[])∧w'=w:=by
  intro w
  go_enter Tryz.func338,Tryz.ntmps338
  go_wp2
  go_loopg [8] 0 (fun g i wr=>i=.int .i64 1∧wr=w)
  case atStart=>exact⟨rfl,rfl⟩
  case round =>
   obtain⟨rfl,hw⟩:=hrel
   have HW:=Lib.hid hw
   clear hw
   go_wp2
   go_end0
   exact⟨rfl,HW.out⟩
 have h2:∀w,Calls Tryz.prog 270 #[.slice A 0 cap,.int .i64 0,fv] w fun e w'=>e=.returned (.tuple #[])∧w'=w:=by
  intro w
  go_enter Tryz.func270,Tryz.ntmps270
  go_wp2
  go_loopg [7,8] 0 (fun g a b wr=>a=.int .i64 0∧b=.int .i64 20∧wr=w)
  case atStart=>exact⟨rfl,rfl,rfl⟩
  case round =>
   obtain⟨rfl,rfl,hw⟩:=hrel
   have HW:=Lib.hid hw
   clear hw
   go_wp2_with fail
   refine(h1 _).mono ?_
   rintro e w2 ⟨rfl,hw2⟩
   have HW2:Hid (w2=w):=hw2.trans HW.out
   clear hw2
   go_wp2
   go_loopg [6] 0 (fun g a wr=>a=.int .i64 20∧wr=w)
   case atStart=>exact⟨rfl,HW2.out⟩
   case round =>
    obtain⟨rfl,hw⟩:=hrel
    have HW:=Lib.hid hw
    clear hw
    go_wp2
    go_end0
    exact⟨rfl,HW.out⟩
 go_enter Tryz.func193,Tryz.ntmps193
 go_wp2_with fail
 refine(h2 _).mono ?_
 rintro e w2 ⟨rfl,rfl⟩
 go_wp2
 go_end0
 exact⟨rfl,rfl⟩
theorem stableZ_air (A:Option Addr) (cap:Nat) (fv:Value) (w:World):Calls Tryz.prog 116 #[.slice A 0 cap,fv] w fun e w'=>e=.returned (.tuple #[])∧w'=w:=by
 have h1:∀w,Calls Tryz.prog 271 #[.slice A 0 cap,.int .i64 0,.int .i64 0,fv] w fun e w'=>e=.returned (.tuple #[])∧w'=w:=by
  intro w
  go_enter Tryz.func271,Tryz.ntmps271
  go_wp2
  go_loopg [8] 0 (fun g i wr=>i=.int .i64 1∧wr=w)
  case atStart=>exact⟨rfl,rfl⟩
  case round =>
   obtain⟨rfl,hw⟩:=hrel
   have HW:=Lib.hid hw
   clear hw
   go_wp2
   go_end0
   exact⟨rfl,HW.out⟩
 have h2:∀w,Calls Tryz.prog 195 #[.slice A 0 cap,.int .i64 0,fv] w fun e w'=>e=.returned (.tuple #[])∧w'=w:=by
  intro w
  go_enter Tryz.func195,Tryz.ntmps195
  go_wp2
  go_loopg [7,8] 0 (fun g a b wr=>a=.int .i64 0∧b=.int .i64 20∧wr=w)
  case atStart=>exact⟨rfl,rfl,rfl⟩
  case round =>
   obtain⟨rfl,rfl,hw⟩:=hrel
   have HW:=Lib.hid hw
   clear hw
   go_wp2_with fail
   refine(h1 _).mono ?_
   rintro e w2 ⟨rfl,hw2⟩
   have HW2:Hid (w2=w):=hw2.trans HW.out
   clear hw2
   go_wp2
   go_loopg [6] 0 (fun g a wr=>a=.int .i64 20∧wr=w)
   case atStart=>exact⟨rfl,HW2.out⟩
   case round =>
    obtain⟨rfl,hw⟩:=hrel
    have HW:=Lib.hid hw
    clear hw
    go_wp2
    go_end0
    exact⟨rfl,HW.out⟩
 go_enter Tryz.func116,Tryz.ntmps116
 go_wp2_with fail
 refine(h2 _).mono ?_
 rintro e w2 ⟨rfl,rfl⟩
 go_wp2
 go_end0
 exact⟨rfl,rfl⟩
theorem stableZ_proc (A:Option Addr) (cap:Nat) (fv:Value) (w:World):Calls Tryz.prog 118 #[.slice A 0 cap,fv] w fun e w'=>e=.returned (.tuple #[])∧w'=w:=by
 have h1:∀w,Calls Tryz.prog 273 #[.slice A 0 cap,.int .i64 0,.int .i64 0,fv] w fun e w'=>e=.returned (.tuple #[])∧w'=w:=by
  intro w
  go_enter Tryz.func273,Tryz.ntmps273
  go_wp2
  go_loopg [8] 0 (fun g i wr=>i=.int .i64 1∧wr=w)
  case atStart=>exact⟨rfl,rfl⟩
  case round =>
   obtain⟨rfl,hw⟩:=hrel
   have HW:=Lib.hid hw
   clear hw
   go_wp2
   go_end0
   exact⟨rfl,HW.out⟩
 have h2:∀w,Calls Tryz.prog 196 #[.slice A 0 cap,.int .i64 0,fv] w fun e w'=>e=.returned (.tuple #[])∧w'=w:=by
  intro w
  go_enter Tryz.func196,Tryz.ntmps196
  go_wp2
  go_loopg [7,8] 0 (fun g a b wr=>a=.int .i64 0∧b=.int .i64 20∧wr=w)
  case atStart=>exact⟨rfl,rfl,rfl⟩
  case round =>
   obtain⟨rfl,rfl,hw⟩:=hrel
   have HW:=Lib.hid hw
   clear hw
   go_wp2_with fail
   refine(h1 _).mono ?_
   rintro e w2 ⟨rfl,hw2⟩
   have HW2:Hid (w2=w):=hw2.trans HW.out
   clear hw2
   go_wp2
   go_loopg [6] 0 (fun g a wr=>a=.int .i64 20∧wr=w)
   case atStart=>exact⟨rfl,HW2.out⟩
   case round =>
    obtain⟨rfl,hw⟩:=hrel
    have HW:=Lib.hid hw
    clear hw
    go_wp2
    go_end0
    exact⟨rfl,HW.out⟩
 go_enter Tryz.func118,Tryz.ntmps118
 go_wp2_with fail
 refine(h2 _).mono ?_
 rintro e w2 ⟨rfl,rfl⟩
 go_wp2
 go_end0
 exact⟨rfl,rfl⟩
theorem cloneZ_fix (w:World):Calls Tryz.prog 192 #[.slice none 0 0] w fun e w'=>e=.returned (.slice none 0 0)∧w'=w:=by
 have hnil:∀W,(binOp .eql 26 (.slice none 0 0) (.slice none 0 0)).run Tryz.prog W=.ok (.bool true) W:=fun W=>Lib.run_eql_slice_nil W _ _ _ _ _ _ _ Tryz.underlying26
 go_enter Tryz.func192,Tryz.ntmps192
 go_wp2
 go_ret
 exact⟨rfl,rfl⟩
theorem sortZ_fix (w:World):Calls Tryz.prog 115 #[.slice none 0 0] w fun e w'=>e=.returned (.slice none 0 0)∧w'=w:=by
 go_enter Tryz.func115,Tryz.ntmps115
 go_wp2_with fail
 refine(cloneZ_fix _).mono ?_
 rintro e w1 ⟨rfl,rfl⟩
 go_wp2_with fail
 refine(stableZ_fix none 0 _ _).mono ?_
 rintro e w1 ⟨rfl,rfl⟩
 go_wp2
 go_ret
 exact⟨rfl,rfl⟩
end Go.Proofs.YtgmehlgfilpleaaGreatDoor
namespace Go.Proofs.YtgmehlgfilpleaaGreatDoor
open Go.RowKit
set_option linter.unusedVariables false
set_option linter.unusedSimpArgs false
theorem any_step {α : Type} {l:List α} {k:Nat} (p : α → Bool) (hk:k<l.length):(l.drop k).any p=(p l[k] || (l.drop (k+1)).any p):=by
 rw[List.drop_eq_getElem_cons hk];rfl
theorem any_end {α : Type} {l:List α} {k:Nat} (p : α → Bool) (hk:l.length≤k):(l.drop k).any p=false:=by
 rw[List.drop_eq_nil_of_le hk];rfl
theorem FxsR.take {w:World} {A:Option Addr} {n c:Nat} {l:List Fx} (h:FxsR w (.slice A n c) l) {k:Nat} (hk:k≤l.length):FxsR w (.slice A k c) (l.take k):=by
 obtain⟨h1,A',c',hv,hc,hm,hx⟩:=h
 simp only[Value.slice.injEq] at hv
 obtain⟨rfl,rfl,rfl⟩:=hv
 have hl:(l.take k).length=k:=by rw[List.length_take];omega
 refine⟨by rw[fxcells_len,hl],A,c,by rw[hl],by rw[hl];omega,hm,fun h0 => ?_⟩
 rw[hl] at h0
 obtain⟨g,o,rfl,hg,hj⟩:=hx (by omega)
 refine⟨g,o,rfl,hg,fun j u hu=>hj j u ?_⟩
 have e:fxcells l=fxcells (l.take k)++fxcells (l.drop k):=by
  unfold fxcells;rw[←List.flatMap_append,List.take_append_drop]
 rw[e,List.getElem?_append_left (List.getElem?_eq_some_iff.1 hu).1]
 exact hu
def aptP (t:List UInt8):Fx→Bool:=fun f=>f.kd == 5&&decide (f.id=t)
def rwP (ap nm:List UInt8):Fx→Bool:=fun f=>f.kd == 6&&(decide (f.id=nm)&&decide (f.rg=ap))
set_option maxRecDepth 100000 in
set_option maxHeartbeats 4000000 in
theorem rairport_any (v:Value) (l:List Fx) (t:ByteArray) (w:World) (h:FxsR w v l) (hN:l.length≤1000000000000) :
  Calls Tryz.prog 135 #[v,.string t] w fun e w'=>e=.returned (.bool (l.any (aptP (bl t))))∧Below w.heap.size w w':=by
 obtain⟨A,c,rfl,hcc,hm⟩:=h.form
 have H:=Lib.hid h
 obtain⟨n,hn⟩:∃n,l.length=n:=⟨_,rfl⟩
 have HN:=Lib.hid hn
 obtain⟨R,hR⟩:∃R,l.any (aptP (bl t))=R:=⟨_,rfl⟩
 have HR0:Hid ((l.drop 0).any (aptP (bl t))=R):=hR
 rw[hR]
 rw[hn] at hcc H hN ⊢
 clear h hn hR
 go_enter Tryz.func135,Tryz.ntmps135
 go_wp2_with fail
 go_loopw [9] (fun i wr=>∃k:Nat,k≤n∧i=.int .i64 k∧Hid ((l.drop k).any (aptP (bl t))=R)∧Hid (Below w.heap.size w wr)) (fun i _=>n-(intOf i).toNat)
 case atStart=>exact⟨0,Nat.zero_le _,rfl,HR0,Below.refl _ _⟩
 case round =>
  obtain⟨k,hk,rfl,hno,hbr⟩:=hrel
  by_cases hlt:k<n
  ·have hkl:k<l.length:=by rw[HN.out];exact hlt
   obtain⟨g,o,c',hA,hg,hat⟩:=H.out.at_ hkl
   rw[HN.out] at hA
   simp only[Value.slice.injEq,true_and] at hA
   obtain⟨rfl,rfl⟩:=hA
   have HM:=Lib.hid (any_step (aptP (bl t)) hkl)
   obtain⟨p,hp⟩:∃p,l[k]=p:=⟨_,rfl⟩
   rw[hp] at hat HM
   obtain⟨c0,c1,c2,c3,c4,c5,c6⟩:=hat.below hg hbr.out hg
   have hgw:g<wr.heap.size:=Nat.lt_of_lt_of_le hg hbr.out.size
   have hk1:(k:Int)<(n:Int):=by omega
   obtain⟨q,hq⟩:∃q,wr.heap.size=q:=⟨_,rfl⟩
   obtain⟨wA,hwA⟩:∃W,wr.alloc (.cells #[.string (sb p.id),.string (sb p.rg),.int .u8 (p.kd:Int),.int .i64 p.lat,.int .i64 p.lon,.int .i64 p.el,.int .i64 p.ra] 38)=W:=⟨_,rfl⟩
   have X1:Hid (FxBox wA q p):=by rw[←hwA,←hq];exact fxBox_new wr p
   have XB:Hid (Below w.heap.size w wA):=by rw[←hwA];exact hbr.out.alloc hbr.out.size _
   have HW:=Lib.hid hwA
   have HQ:=Lib.hid hq
   have HP:Hid (aptP (bl t) p=(p.kd == 5&&decide (p.id=bl t))):=rfl
   have k5:((p.kd:Int) == 5)=(p.kd == 5):=by rw[Bool.eq_iff_iff,beq_iff_eq,beq_iff_eq];omega
   have se:((sb p.id).toList == t.toList)=decide (p.id=bl t):=str_eq'
   obtain⟨K,hK⟩:∃b,(p.kd == 5)=b:=⟨_,rfl⟩
   obtain⟨E,hE⟩:∃b,decide (p.id=bl t)=b:=⟨_,rfl⟩
   rw[hK] at k5 HP
   rw[hE] at se HP
   rw[HP.out] at HM
   clear hat hp hwA hq hK hE HP
   go_upto_region 4 with fail
   rw[HW.out,HQ.out]
   clear HW c0 c1 c2 c3 c4 c5 c6 hgw
   obtain⟨y0,y1,y2,y3,y4,y5,y6⟩:=X1.out.cells
   have hsz:=lt_heap X1.out
   cases K with
   | true =>
    cases E with
    | true =>
     have HV:Hid (R=true):=by unfold Hid;rw[←hno.out,HM.out];rfl
     go_wp2
     go_ret
     exact⟨ret_bool HV.out.symm,XB.out⟩
    | false =>
     have HV:Hid ((l.drop (k+1)).any (aptP (bl t))=R):=by unfold Hid;rw[←hno.out,HM.out];rfl
     go_wp2
     go_roundw
     case rel=>exact⟨k+1,hlt,by go_num,HV,XB⟩
     case measure=>simp[intOf];omega
   | false =>
    have HV:Hid ((l.drop (k+1)).any (aptP (bl t))=R):=by unfold Hid;rw[←hno.out,HM.out];rfl
    go_wp2
    go_roundw
    case rel=>exact⟨k+1,hlt,by go_num,HV,XB⟩
    case measure=>simp[intOf];omega
  ·have HV:Hid (R=false):=by unfold Hid;rw[←hno.out];exact any_end _ (by rw[HN.out];omega)
   have hki:¬(k:Int)<(n:Int):=by omega
   go_wp2
   go_ret
   exact⟨ret_bool HV.out.symm,hbr.out⟩
set_option maxRecDepth 100000 in
set_option maxHeartbeats 4000000 in
theorem rrunwayF_any (v:Value) (l:List Fx) (ap nm:ByteArray) (w:World) (h:FxsR w v l) (hN:l.length≤1000000000000) :
  Calls Tryz.prog 141 #[v,.string ap,.string nm] w fun e w'=>e=.returned (.bool (l.any (rwP (bl ap) (bl nm))))∧Below w.heap.size w w':=by
 obtain⟨A,c,rfl,hcc,hm⟩:=h.form
 have H:=Lib.hid h
 obtain⟨n,hn⟩:∃n,l.length=n:=⟨_,rfl⟩
 have HN:=Lib.hid hn
 obtain⟨R,hR⟩:∃R,l.any (rwP (bl ap) (bl nm))=R:=⟨_,rfl⟩
 have HR0:Hid ((l.drop 0).any (rwP (bl ap) (bl nm))=R):=hR
 rw[hR]
 rw[hn] at hcc H hN ⊢
 clear h hn hR
 go_enter Tryz.func141,Tryz.ntmps141
 go_wp2_with fail
 go_loopw [11] (fun i wr=>∃k:Nat,k≤n∧i=.int .i64 k∧Hid ((l.drop k).any (rwP (bl ap) (bl nm))=R)∧Hid (Below w.heap.size w wr)) (fun i _=>n-(intOf i).toNat)
 case atStart=>exact⟨0,Nat.zero_le _,rfl,HR0,Below.refl _ _⟩
 case round =>
  obtain⟨k,hk,rfl,hno,hbr⟩:=hrel
  by_cases hlt:k<n
  ·have hkl:k<l.length:=by rw[HN.out];exact hlt
   obtain⟨g,o,c',hA,hg,hat⟩:=H.out.at_ hkl
   rw[HN.out] at hA
   simp only[Value.slice.injEq,true_and] at hA
   obtain⟨rfl,rfl⟩:=hA
   have HM:=Lib.hid (any_step (rwP (bl ap) (bl nm)) hkl)
   obtain⟨p,hp⟩:∃p,l[k]=p:=⟨_,rfl⟩
   rw[hp] at hat HM
   obtain⟨c0,c1,c2,c3,c4,c5,c6⟩:=hat.below hg hbr.out hg
   have hgw:g<wr.heap.size:=Nat.lt_of_lt_of_le hg hbr.out.size
   have hk1:(k:Int)<(n:Int):=by omega
   obtain⟨q,hq⟩:∃q,wr.heap.size=q:=⟨_,rfl⟩
   obtain⟨wA,hwA⟩:∃W,wr.alloc (.cells #[.string (sb p.id),.string (sb p.rg),.int .u8 (p.kd:Int),.int .i64 p.lat,.int .i64 p.lon,.int .i64 p.el,.int .i64 p.ra] 38)=W:=⟨_,rfl⟩
   have X1:Hid (FxBox wA q p):=by rw[←hwA,←hq];exact fxBox_new wr p
   have XB:Hid (Below w.heap.size w wA):=by rw[←hwA];exact hbr.out.alloc hbr.out.size _
   have HW:=Lib.hid hwA
   have HQ:=Lib.hid hq
   have HP:Hid (rwP (bl ap) (bl nm) p=(p.kd == 6&&(decide (p.id=bl nm)&&decide (p.rg=bl ap)))):=rfl
   have k5:((p.kd:Int) == 6)=(p.kd == 6):=by rw[Bool.eq_iff_iff,beq_iff_eq,beq_iff_eq];omega
   have se:((sb p.id).toList == nm.toList)=decide (p.id=bl nm):=str_eq'
   have sr:((sb p.rg).toList == ap.toList)=decide (p.rg=bl ap):=str_eq'
   obtain⟨K,hK⟩:∃b,(p.kd == 6)=b:=⟨_,rfl⟩
   obtain⟨E,hE⟩:∃b,decide (p.id=bl nm)=b:=⟨_,rfl⟩
   obtain⟨F,hF⟩:∃b,decide (p.rg=bl ap)=b:=⟨_,rfl⟩
   rw[hK] at k5 HP
   rw[hE] at se HP
   rw[hF] at sr HP
   rw[HP.out] at HM
   clear hat hp hwA hq hK hE hF HP
   go_upto_region 4 with fail
   rw[HW.out,HQ.out]
   clear HW c0 c1 c2 c3 c4 c5 c6 hgw
   obtain⟨y0,y1,y2,y3,y4,y5,y6⟩:=X1.out.cells
   have hsz:=lt_heap X1.out
   have HVF:Hid ((K&&(E&&F))=false→(l.drop (k+1)).any (rwP (bl ap) (bl nm))=R):=fun h=>by rw[←hno.out,HM.out,h];rfl
   have HVT:Hid ((K&&(E&&F))=true→R=true):=fun h=>by rw[←hno.out,HM.out,h];rfl
   clear HM
   cases K with
   | true =>
    cases E with
    | true =>
     cases F with
     | true =>
      have HV:Hid (R=true):=HVT.out rfl
      go_wp2
      go_ret
      exact⟨ret_bool HV.out.symm,XB.out⟩
     | false =>
      have HV:=Lib.hid (HVF.out rfl)
      go_wp2
      go_roundw
      case rel=>exact⟨k+1,hlt,by go_num,HV,XB⟩
      case measure=>simp[intOf];omega
    | false =>
     have HV:=Lib.hid (HVF.out rfl)
     go_wp2
     go_roundw
     case rel=>exact⟨k+1,hlt,by go_num,HV,XB⟩
     case measure=>simp[intOf];omega
   | false =>
    have HV:=Lib.hid (HVF.out rfl)
    go_wp2
    go_roundw
    case rel=>exact⟨k+1,hlt,by go_num,HV,XB⟩
    case measure=>simp[intOf];omega
  ·have HV:Hid (R=false):=by unfold Hid;rw[←hno.out];exact any_end _ (by rw[HN.out];omega)
   have hki:¬(k:Int)<(n:Int):=by omega
   go_wp2
   go_ret
   exact⟨ret_bool HV.out.symm,hbr.out⟩
theorem rkFind_rfs (l:List Fx) (t:List UInt8):(findL l t).isSome=l.any fun f=>decide (fxRef f=t):=by
 unfold findL
 rw[Bool.eq_iff_iff,List.find?_isSome,List.any_eq_true]
set_option maxRecDepth 100000 in
set_option maxHeartbeats 2000000 in
theorem rknown_any (v:Value) (l:List Fx) (t:ByteArray) (w:World) (h:FxsR w v l) (hz:SzL l) (hN:l.length≤1000000000000) :
  Calls Tryz.prog 55 #[v,.string t] w fun e w'=>e=.returned (.bool (l.any fun f=>decide (fxRef f=bl t)))∧Below w.heap.size w w':=by
 have HF:=rfind_any v l t w h hz hN
 rw[←rkFind_rfs]
 obtain⟨A,c,rfl,hcc,hm⟩:=h.form
 obtain⟨o,ho⟩:∃o,findL l (bl t)=o:=⟨_,rfl⟩
 rw[ho] at HF
 rw[ho]
 unfold FindPost at HF
 clear ho h hz
 go_enter Tryz.func55,Tryz.ntmps55
 go_wp2_with fail
 refine HF.mono ?_
 cases o with
 | none =>
  rintro e w1 ⟨rfl,hb⟩
  have HB:=Lib.hid hb
  clear hb HF
  go_wp2
  go_ret
  exact⟨rfl,HB.out.alloc HB.out.size _⟩
 | some p =>
  rintro e w1 ⟨rfl,hb⟩
  have HB:=Lib.hid hb
  clear hb HF
  go_wp2
  go_ret
  exact⟨rfl,HB.out.alloc HB.out.size _⟩
end Go.Proofs.YtgmehlgfilpleaaGreatDoor
