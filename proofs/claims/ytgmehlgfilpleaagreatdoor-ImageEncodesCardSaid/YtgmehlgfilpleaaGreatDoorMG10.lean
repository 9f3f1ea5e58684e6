/-
  Several texts as one.
-/
import Derived.Test.YtgmehlgfilpleaaGreatDoorBase
import Derived.RegionTactic
import Derived.ChangeAlike
import Derived.BigRegion
import Derived.StillTailTactics
namespace Go.Proofs.YtgmehlgfilpleaaGreatDoor
open Go.RowKit
set_option linter.unusedVariables false
set_option linter.unusedSimpArgs false

abbrev FldI:=List UInt8 × Int
def ficells (l:List FldI):List Value:=l.flatMap fun f=>[.string (sb f.1),.int .i64 f.2]
theorem ficells_len (l:List FldI):(ficells l).length=l.length*2:=by
 induction l with
 | nil=>rfl
 | cons f l ih=>unfold ficells at ih ⊢;rw[List.flatMap_cons,List.length_append,ih];simp only[List.length_cons,List.length_nil];omega
theorem ficells_cons (f:FldI) (l:List FldI):ficells (f::l)=.string (sb f.1) :: .int .i64 f.2::ficells l:=rfl
theorem ficells_at (l:List FldI):∀(k:Nat) (h:k<l.length),(ficells l)[k*2]? = some (.string (sb l[k].1))∧(ficells l)[k*2+1]? = some (.int .i64 l[k].2):=by
 induction l with
 | nil=>intro k h;simp at h
 | cons f l ih =>
  intro k h
  rw[ficells_cons]
  cases k with
  | zero=>exact⟨rfl,rfl⟩
  | succ k =>
   have:=ih k (by simpa using h)
   rw[show(k+1)*2=k*2+2 by omega]
   exact this
structure Sc where
 num:Int
 fs:List FldI
 nx:Nat
 la:Int
 dl:Int
 dc:Int
 de:Int
def Sc.bad (s:Sc):Bool:=s.de != 0
def Sc.got (s:Sc):Bool := !s.bad&&decide (s.nx<s.fs.length)
def Sc.note (s:Sc) (c e:Int):Sc:=if s.bad || e == 0 then s else {s with dl:=s.num,dc:=c,de:=e}
def fld (l:List FldI) (k:Nat):FldI:=l.getD k ([],0)
def endCol (l:List FldI):Int:=if l.length=0 then 1 else wrap64 ((fld l (l.length-1)).2+(fld l (l.length-1)).1.length)
def Sc.take (s:Sc):Sc:=if s.bad then s else if s.nx<s.fs.length then {s with nx:=s.nx+1,la:=(fld s.fs s.nx).2} else s.note (endCol s.fs) 4
def Sc.text (s:Sc):List UInt8:=if s.got then (fld s.fs s.nx).1 else []
def Sc.tk (s:Sc) (er:List UInt8→Int):Sc:=if s.got then s.take.note s.take.la (er s.text) else s.take
def Sc.tv (s:Sc) {α : Type} (z : α) (v:List UInt8 → α) : α := if s.got then v s.text else z
def Sc.left (s:Sc):Nat:=if s.bad then 0 else s.fs.length-s.nx
def Sc.endB (s:Sc):Bool:=s.bad || decide (s.nx<s.fs.length)
def Sc.endL (s:Sc):Int:=if s.bad then s.dl else if s.nx<s.fs.length then s.num else 0
def Sc.endC (s:Sc):Int:=if s.bad then s.dc else if s.nx<s.fs.length then (fld s.fs s.nx).2 else 0
def Sc.endE (s:Sc):Int:=if s.bad then s.de else if s.nx<s.fs.length then 4 else 0
def scan0 (num:Int) (fs:List FldI):Sc:=⟨num,fs,0,1,0,0,0⟩
theorem Sc.got_iff {s:Sc}:s.got=true↔s.de=0∧s.nx<s.fs.length:=by unfold Sc.got Sc.bad;simp
theorem Sc.bad_iff {s:Sc}:s.bad=true↔s.de≠0:=by unfold Sc.bad;simp
theorem Sc.take_bad {s:Sc} (h:s.bad=true):s.take=s:=by unfold Sc.take;rw[if_pos h]
theorem Sc.take_got {s:Sc} (h:s.got=true):s.take={s with nx:=s.nx+1,la:=(fld s.fs s.nx).2}:=by
 have:=Sc.got_iff.1 h
 unfold Sc.take;rw[if_neg (by rw[Sc.bad_iff];simp[this.1]),if_pos this.2]
theorem Sc.tk_no {s:Sc} (h:s.got=false) (er:List UInt8→Int):s.tk er=s.take:=by unfold Sc.tk;rw[if_neg (by rw[h];decide)]
theorem Sc.tk_got {s:Sc} (h:s.got=true) (er:List UInt8→Int):s.tk er=s.take.note s.take.la (er s.text):=by unfold Sc.tk;rw[if_pos h]
theorem Sc.tv_no {s:Sc} (h:s.got=false) {α : Type} (z : α) (v:List UInt8 → α):s.tv z v=z:=by unfold Sc.tv;rw[if_neg (by rw[h];decide)]
theorem Sc.tv_got {s:Sc} (h:s.got=true) {α : Type} (z : α) (v:List UInt8 → α):s.tv z v=v s.text:=by unfold Sc.tv;rw[if_pos h]
theorem Sc.note_zero (s:Sc) (c:Int):s.note c 0=s:=by unfold Sc.note;rw[if_pos (by simp)]
theorem Sc.note_bad {s:Sc} (h:s.bad=true) (c e:Int):s.note c e=s:=by unfold Sc.note;rw[if_pos (by rw[h];rfl)]
theorem Sc.note_set {s:Sc} (h:s.bad=false) (c:Int) {e:Int} (he:e≠0):s.note c e={s with dl:=s.num,dc:=c,de:=e}:=by
 unfold Sc.note;rw[if_neg];rw[h];simpa using he
def wordAt (ws:List (List UInt8)) (t:List UInt8) (n:Nat):Int:=match ws with
 | [] => -1
 | w::ws=>if w=t then n else wordAt ws t (n+1)
def wordE (ws:List (List UInt8)) (t:List UInt8):Int:=if wordAt ws t 0 = -1 then 4 else 0

def FsR (w:World) (g:Nat) (v:Value) (fs:List FldI):Prop :=
 ∃A c,v=.slice A fs.length c∧fs.length≤c∧c≤maxLen∧(∀f∈fs,f.1.length≤maxLen) ∧
  (0<fs.length→∃h o,A=some ⟨h,o,none⟩∧h<g∧∀j u,(ficells fs)[j]? = some u→w.cell? ⟨h,o+j,none⟩=some u)
structure Off (g:Nat) (w w':World):Prop extends World.grownBy w w' (some g) where
 c1:∀v,w.cell? ⟨g,1,none⟩=some v→w'.cell? ⟨g,1,none⟩=some v
theorem Off.refl (g:Nat) (w:World):Off g w w:=⟨⟨rfl,rfl,rfl,Nat.le_refl _,fun _ _ _=>rfl⟩,fun _ h=>h⟩
theorem Off.trans {g:Nat} {a b c:World} (h:Off g a b) (k:Off g b c):Off g a c :=
 ⟨⟨k.os.trans h.os,k.tape.trans h.tape,k.output.trans h.output,Nat.le_trans h.size k.size,fun i hi hn=>(k.block i (Nat.lt_of_lt_of_le hi h.size) hn).trans (h.block i hi hn)⟩,fun v hv=>k.c1 v (h.c1 v hv)⟩
theorem Off.of_below {g:Nat} {w w':World} (h:Below w.heap.size w w'):Off g w w' :=
 ⟨⟨h.os,h.tape,h.output,h.size,fun i hi _=>h.block i hi⟩,fun v hv=>(h.cell (p:=⟨g,1,none⟩) (cell_lt hv)).trans hv⟩
theorem cell_set_ne (w:World) (g j:Nat) (u:Value) (hj:j≠1):(w.setCell ⟨g,j,none⟩ u).cell? ⟨g,1,none⟩=w.cell? ⟨g,1,none⟩:=by
 simp[go_sem,hj]
theorem Off.set {g:Nat} {w w':World} (h:Off g w w') (j:Nat) (u:Value) (hj:j≠1:=by decide):Off g w (w'.setCell ⟨g,j,none⟩ u) :=
 ⟨⟨h.os,h.tape,h.output,by simpa using h.size,fun i hi hn=>(heap_setCell_other w' ⟨g,j,none⟩ i u (fun e=>hn (congrArg some e))).trans (h.block i hi hn)⟩,fun v hv=>(cell_set_ne w' g j u hj).trans (h.c1 v hv)⟩
theorem Off.alloc {g:Nat} {w w':World} (h:Off g w w') (o:Obj):Off g w (w'.alloc o):=h.trans (Off.of_below ((Below.refl _ _).alloc (Nat.le_refl _) o))
theorem Off.drewN {g:Nat} {w w':World} (h:Off g w w') (n:Nat):Off g w (w'.drewN n):=h.trans (Off.of_below (below_drewN' (Below.refl _ _) n))
theorem Off.drew {g:Nat} {w w':World} (h:Off g w w'):Off g w w'.drew:=h.trans (Off.of_below (Below.refl _ _).drew)
theorem Off.setNew {g:Nat} {w w':World} (h:Off g w w') {b:Nat} (hb:w.heap.size≤b) (j:Nat) (u:Value):Off g w (w'.setCell ⟨b,j,none⟩ u) :=
 ⟨⟨h.os,h.tape,h.output,by simpa using h.size,fun i hi hn=>(heap_setCell_other w' ⟨b,j,none⟩ i u (fun e=>by simp only at e;omega)).trans (h.block i hi hn)⟩,
  fun v hv=>(World.cell?_of_block (a:=⟨g,1,none⟩) (heap_setCell_other w' ⟨b,j,none⟩ g u (fun e=>by have:=cell_lt hv;simp only at e;omega))).trans (h.c1 v hv)⟩
theorem Off.below {g B:Nat} {w0 w w':World} (h:Off g w w') (hb:Below B w0 w) (hg:B≤g) (hB:B≤w.heap.size):Below B w0 w' :=
 ⟨h.os.trans hb.os,h.tape.trans hb.tape,h.output.trans hb.output,Nat.le_trans hb.size h.size,fun k hk=>(h.block k (Nat.lt_of_lt_of_le hk hB) (by intro e;injection e with e;omega)).trans (hb.block k hk)⟩
theorem Off.cell {g:Nat} {w w':World} (h:Off g w w') {b o:Nat} (hb:b<w.heap.size) (hn:b≠g):w'.cell? ⟨b,o,none⟩=w.cell? ⟨b,o,none⟩ :=
 World.cell?_of_block (w:=w) (a:=⟨b,o,none⟩) (h.block b hb (by intro e;injection e with e;exact hn e))
theorem Off.frozen {g:Nat} {w w':World} (h:Off g w w') {b o:Nat} (hb:b<w.heap.size) (hn:b≠g):w'.frozen? ⟨b,o,none⟩=w.frozen? ⟨b,o,none⟩ :=
 World.frozen?_of_block (w:=w) (a:=⟨b,o,none⟩) (h.block b hb (by intro e;injection e with e;exact hn e))
theorem FsR.keep {w w':World} {g:Nat} {v:Value} {fs:List FldI} (h:FsR w g v fs) (hk:∀k,k<g→w'.heap[k]? = w.heap[k]?):FsR w' g v fs:=by
 obtain⟨A,c,hv,hc,hm,hf,hr⟩:=h
 refine⟨A,c,hv,hc,hm,hf,fun h0 => ?_⟩
 obtain⟨b,o,hA,hb,hx⟩:=hr h0
 exact⟨b,o,hA,hb,fun j u hu=>(World.cell?_of_block (w:=w) (a:=⟨b,o+j,none⟩) (hk b hb)).trans (hx j u hu)⟩
theorem FsR.off {w w':World} {g:Nat} {v:Value} {fs:List FldI} (h:FsR w g v fs) (hg:g<w.heap.size) (ho:Off g w w'):FsR w' g v fs :=
 h.keep fun k hk=>ho.block k (by omega) (by intro e;injection e with e;omega)
theorem FsR.at_ {w:World} {g:Nat} {v:Value} {fs:List FldI} (h:FsR w g v fs) {k:Nat} (hk:k<fs.length) :
  ∃b o c,v=.slice (some ⟨b,o,none⟩) fs.length c∧b<g∧w.cell? ⟨b,o+k*2,none⟩=some (.string (sb (fld fs k).1))∧w.cell? ⟨b,o+k*2+1,none⟩=some (.int .i64 (fld fs k).2)∧(fld fs k).1.length≤maxLen:=by
 obtain⟨A,c,hv,hc,hm,hf,hr⟩:=h
 obtain⟨b,o,rfl,hb,hx⟩:=hr (by omega)
 have hfl:fld fs k=fs[k]:=by unfold fld;rw[List.getD_eq_getElem?_getD,List.getElem?_eq_getElem hk];rfl
 obtain⟨h0,h1⟩:=ficells_at fs k hk
 rw[hfl]
 exact⟨b,o,c,hv,hb,hx _ _ h0,by have:=hx _ _ h1;rwa [←Nat.add_assoc] at this,hf _ (List.getElem_mem hk)⟩
def scC (s:Sc) (v:Value):Array Value := #[.int .i64 s.num,v,.int .i64 (s.nx:Int),.int .i64 s.la,.int .i64 s.dl,.int .i64 s.dc,.int .i64 s.de]
def ScP (w:World) (g:Nat) (s:Sc):Prop:=s.nx≤s.fs.length∧∃v,w.heap[g]? = some (.cells (scC s v) 353 (0,0))∧FsR w g v s.fs
theorem ScP.lt {w:World} {g:Nat} {s:Sc} (h:ScP w g s):g<w.heap.size:=by
 obtain⟨_,v,h,_⟩:=h
 exact(Array.getElem?_eq_some_iff.1 h).1
theorem ScP.keep {w w':World} {g:Nat} {s:Sc} (h:ScP w g s) (hk:∀k,k≤g→w'.heap[k]? = w.heap[k]?):ScP w' g s:=by
 obtain⟨h1,v,h2,h3⟩:=h
 exact⟨h1,v,(hk g (Nat.le_refl _)).trans h2,h3.keep fun k hlt=>hk k (Nat.le_of_lt hlt)⟩
theorem ScP.below {w w':World} {g:Nat} {s:Sc} (h:ScP w g s) (hb:Below w.heap.size w w'):ScP w' g s :=
 h.keep fun k hk=>hb.block k (Nat.lt_of_le_of_lt hk h.lt)
theorem ScP.setNew {w:World} {g:Nat} {s:Sc} (h:ScP w g s) {b j:Nat} (hb:g<b) (u:Value):ScP (w.setCell ⟨b,j,none⟩ u) g s :=
 h.keep fun k hk=>heap_setCell_other w ⟨b,j,none⟩ k u (fun e=>by simp only at e;omega)
theorem ScP.drew {w:World} {g:Nat} {s:Sc} (h:ScP w g s):ScP w.drew g s:=h.below (Below.refl _ _).drew
theorem ScP.drewN {w:World} {g:Nat} {s:Sc} (h:ScP w g s) (n:Nat):ScP (w.drewN n) g s:=h.below (below_drewN' (Below.refl _ _) n)
theorem ScP.alloc {w:World} {g:Nat} {s:Sc} (h:ScP w g s) (o:Obj):ScP (w.alloc o) g s:=h.below ((Below.refl _ _).alloc (Nat.le_refl _) o)

theorem blkCell {w:World} {g:Nat} {cs:Array Value} {T:TypeId} (h:w.heap[g]? = some (.cells cs T (0,0))) (j:Nat) {u:Value} (hu:cs[j]? = some u):w.cell? ⟨g,j,none⟩=some u:=by
 rw[Lib.cell_of_heap h];exact hu
theorem blkFree {w:World} {g:Nat} {cs:Array Value} {T:TypeId} (h:w.heap[g]? = some (.cells cs T (0,0))) (j:Nat):w.frozen? ⟨g,j,none⟩=false:=frozen_of_row w g j cs T h
theorem blkSet {w:World} {g:Nat} {cs:Array Value} {T:TypeId} (h:w.heap[g]? = some (.cells cs T (0,0))) (j:Nat) (u:Value):(w.setCell ⟨g,j,none⟩ u).heap[g]? = some (.cells (cs.setIfInBounds j u) T (0,0)):=heap_setCell_same w g j cs T u h
theorem failed_any (s:Sc) (g:Nat) (w:World) (h:ScP w g s) :
  Calls Tryz.prog 319 #[.pointer (some ⟨g,0,none⟩)] w fun e w'=>e=.returned (.bool s.bad)∧w=w':=by
 obtain⟨hn,v,hb,hf⟩:=h
 have c6:w.cell? ⟨g,6,none⟩=some (.int .i64 s.de):=blkCell hb 6 rfl
 clear hb hf hn
 go_enter Tryz.func319,Tryz.ntmps319
 go_wp2
 go_ret
 exact⟨rfl,rfl⟩
def ScPost (s':Sc) (g:Nat) (w w':World):Prop:=ScP w' g s'∧Off g w w'
theorem ScPost.same {s:Sc} {g:Nat} {w:World} (h:ScP w g s):ScPost s g w w:=⟨h,Off.refl _ _⟩
theorem ScPost.trans {s s':Sc} {g:Nat} {a b c:World} (h:ScPost s g a b) (k:ScPost s' g b c):ScPost s' g a c:=⟨k.1,h.2.trans k.2⟩
theorem ScPost.then_ {s:Sc} {g:Nat} {a b c:World} (h:ScPost s g a b) (k:Below b.heap.size b c):ScPost s g a c:=⟨h.1.below k,h.2.trans (Off.of_below k)⟩
set_option maxHeartbeats 1000000 in
theorem note_any (s:Sc) (c e:Int) (g:Nat) (w:World) (h:ScP w g s) :
  Calls Tryz.prog 313 #[.pointer (some ⟨g,0,none⟩),.int .i64 c,.int .i64 e] w fun en w'=>en=.returned (.tuple #[])∧ScPost (s.note c e) g w w':=by
 have H:=Lib.hid h
 obtain⟨hn,v,hb,hf⟩:=h
 have HB:=Lib.hid hb
 have HF:=Lib.hid hf
 clear hf
 cases hbad:s.bad
 ·by_cases he:e=0
  ·have e1:(e != 0)=false:=bne_eq_false_iff_eq.2 he
   have HN:Hid (s.note c e=s):=by unfold Hid;rw[he,Sc.note_zero]
   clear he hb hn
   have HBD:=Lib.hid hbad
   clear hbad
   go_enter Tryz.func313,Tryz.ntmps313
   go_wp2_with fail
   refine(failed_any s g _ H.out).mono ?_
   rintro en w1 ⟨rfl,rfl⟩
   rw[HBD.out]
   go_wp2
   go_end0
   exact⟨rfl,by rw[HN.out];exact ScPost.same H.out⟩
  ·have e1:(e != 0)=true:=bne_iff_ne.2 he
   have HN:=Lib.hid (Sc.note_set hbad c he)
   have f4:=blkFree hb 4
   have f5:=blkFree hb 5
   have f6:=blkFree hb 6
   have c0:w.cell? ⟨g,0,none⟩=some (.int .i64 s.num):=blkCell hb 0 rfl
   have c4:w.cell? ⟨g,4,none⟩=some (.int .i64 s.dl):=blkCell hb 4 rfl
   have c5:w.cell? ⟨g,5,none⟩=some (.int .i64 s.dc):=blkCell hb 5 rfl
   have c6:w.cell? ⟨g,6,none⟩=some (.int .i64 s.de):=blkCell hb 6 rfl
   have HFIN:Hid (ScPost (s.note c e) g w (((w.setCell ⟨g,4,none⟩ (.int .i64 s.num)).setCell ⟨g,5,none⟩ (.int .i64 c)).setCell ⟨g,6,none⟩ (.int .i64 e))):=by
    have ho:Off g w (((w.setCell ⟨g,4,none⟩ (.int .i64 s.num)).setCell ⟨g,5,none⟩ (.int .i64 c)).setCell ⟨g,6,none⟩ (.int .i64 e)):=(((Off.refl g w).set 4 _).set 5 _).set 6 _
    refine⟨?_,ho⟩
    rw[HN.out]
    exact⟨hn,v,blkSet (blkSet (blkSet HB.out 4 _) 5 _) 6 _,HF.out.off H.out.lt ho⟩
   have HBD:=Lib.hid hbad
   clear hbad he hb hn
   go_enter Tryz.func313,Tryz.ntmps313
   go_wp2_with fail
   refine(failed_any s g _ H.out).mono ?_
   rintro en w1 ⟨rfl,rfl⟩
   rw[HBD.out]
   go_wp2
   go_end0
   exact⟨rfl,HFIN.out⟩
 ·have HN:=Lib.hid (Sc.note_bad hbad c e)
  have HBD:=Lib.hid hbad
  clear hbad hb hn
  go_enter Tryz.func313,Tryz.ntmps313
  go_wp2_with fail
  refine(failed_any s g _ H.out).mono ?_
  rintro en w1 ⟨rfl,rfl⟩
  rw[HBD.out]
  go_wp2
  go_end0
  exact⟨rfl,by rw[HN.out];exact ScPost.same H.out⟩

def TakePost (s:Sc) (g:Nat) (w:World) (e:Ending) (w':World):Prop:=e=.returned (.tuple #[.string (sb s.text),.bool s.got])∧ScPost s.take g w w'
theorem fld_le {w:World} {g:Nat} {v:Value} {fs:List FldI} (h:FsR w g v fs):∃A c,v=.slice A fs.length c∧fs.length≤c∧c≤9223372036854775807:=by
 obtain⟨A,c,hv,hc,hm,_⟩:=h;exact⟨A,c,hv,hc,by unfold maxLen at hm;omega⟩
set_option maxRecDepth 100000 in
set_option maxHeartbeats 2000000 in
theorem take_any (s:Sc) (g:Nat) (w:World) (h:ScP w g s) :
  Calls Tryz.prog 309 #[.pointer (some ⟨g,0,none⟩)] w (TakePost s g w):=by
 have H:=Lib.hid h
 obtain⟨hn,v,hb,hf⟩:=h
 cases hbad:s.bad
 ·have hde:s.de=0:=by unfold Sc.bad at hbad;simpa using hbad
  have HBD:=Lib.hid hbad
  by_cases hlt:s.nx<s.fs.length
  ·have hg:s.got=true:=Sc.got_iff.2 ⟨hde,hlt⟩
   obtain⟨b,o,c,rfl,hbl,hc0,hc1,hsz⟩:=hf.at_ hlt
   have hbn:b≠g:=Nat.ne_of_lt hbl
   have hbw:b<w.heap.size:=Nat.lt_trans hbl H.out.lt
   have HFIN:Hid (∀o':Obj,TakePost s g w (.returned (.tuple #[.string (sb (fld s.fs s.nx).1),.bool true])) ((((w.setCell ⟨g,2,none⟩ (.int .i64 ((s.nx:Int)+1))).setCell ⟨g,3,none⟩ (.int .i64 (fld s.fs s.nx).2)).alloc o').drew)):=by
    intro o'
    have ho:Off g w ((((w.setCell ⟨g,2,none⟩ (.int .i64 ((s.nx:Int)+1))).setCell ⟨g,3,none⟩ (.int .i64 (fld s.fs s.nx).2)).alloc o').drew):=((((Off.refl g w).set 2 _).set 3 _).alloc _).drew
    refine⟨by unfold Sc.text;rw[hg];rfl,?_,ho⟩
    rw[Sc.take_got hg]
    refine⟨hlt,_,?_,hf.off H.out.lt ho⟩
    have h2:=blkSet (blkSet hb 2 (.int .i64 ((s.nx:Int)+1))) 3 (.int .i64 (fld s.fs s.nx).2)
    exact((((Below.refl _ _).alloc (Nat.le_refl _) o').drew).block g (by simpa using H.out.lt)).trans h2
   have k1:w.cell? ⟨g,1,none⟩=some (.slice (some ⟨b,o,none⟩) s.fs.length c):=blkCell hb 1 rfl
   have k2:w.cell? ⟨g,2,none⟩=some (.int .i64 (s.nx:Int)):=blkCell hb 2 rfl
   have k3:w.cell? ⟨g,3,none⟩=some (.int .i64 s.la):=blkCell hb 3 rfl
   have f2:=blkFree hb 2
   have f3:=blkFree hb 3
   have hgw:=H.out.lt
   obtain⟨A',c',hv',hcn,hcm⟩:=fld_le hf
   simp only[Value.slice.injEq,true_and] at hv'
   obtain⟨-,rfl⟩:=hv'
   obtain⟨n,hnn⟩:∃n,s.fs.length=n:=⟨_,rfl⟩
   obtain⟨k,hkk⟩:∃k,s.nx=k:=⟨_,rfl⟩
   obtain⟨tx,htx⟩:∃t,sb (fld s.fs s.nx).1=t:=⟨_,rfl⟩
   obtain⟨co,hco⟩:∃t,(fld s.fs s.nx).2=t:=⟨_,rfl⟩
   rw[htx,hco] at HFIN
   rw[htx] at hc0
   rw[hco] at hc1
   rw[hkk] at HFIN hlt k2 hc0 hc1
   rw[hnn] at hlt hcn k1
   clear hnn hkk htx hco hb hf hn hg hbad hde hsz
   have hne:((k:Int) == (n:Int))=false:=by rw[beq_eq_false_iff_ne];omega
   have hki:(k:Int)<(n:Int):=by omega
   have hknat:((k:Int)).toNat=k:=Int.toNat_natCast k
   go_enter Tryz.func309,Tryz.ntmps309
   go_wp2_with fail
   refine(failed_any s g _ H.out).mono ?_
   rintro en w1 ⟨rfl,rfl⟩
   rw[HBD.out]
   go_wp2
   go_region
   go_wp2
   go_ret2
   exact HFIN.out _
  ·have hg:s.got=false:=by
    rw[←Bool.not_eq_true,Sc.got_iff];intro h;exact hlt h.2
   have HFIN:Hid (∀(col:Int) (w1 w':World),col=endCol s.fs→Below w.heap.size w w1→ScPost (s.note col 4) g w1 w'→TakePost s g w (.returned (.tuple #[.string ⟨#[]⟩,.bool false])) w'):=by
    intro col w1 w' hc hb1 hp
    refine⟨by unfold Sc.text;rw[hg];rfl,?_⟩
    have ht:s.take=s.note col 4:=by unfold Sc.take;rw[if_neg (by rw[hbad];decide),if_neg hlt,hc]
    rw[ht]
    exact⟨hp.1,(Off.of_below hb1).trans hp.2⟩
   have hnl:s.nx=s.fs.length:=by omega
   obtain⟨A,c,rfl,hcn,hcm⟩:=fld_le hf
   have k1:w.cell? ⟨g,1,none⟩=some (.slice A s.fs.length c):=blkCell hb 1 rfl
   have k2:w.cell? ⟨g,2,none⟩=some (.int .i64 (s.nx:Int)):=blkCell hb 2 rfl
   rw[hnl] at k2
   have hgw:=H.out.lt
   by_cases h0:0<s.fs.length
   ·obtain⟨m,hm⟩:∃m,s.fs.length=m+1:=⟨s.fs.length-1,by omega⟩
    obtain⟨b,o,c',hv',hbl,hc0,hc1,hsz⟩:=hf.at_ (k:=m) (by omega)
    have hbn:b≠g:=Nat.ne_of_lt hbl
    have hbw:b<w.heap.size:=Nat.lt_trans hbl H.out.lt
    simp only[Value.slice.injEq,true_and] at hv'
    obtain⟨rfl,rfl⟩:=hv'
    have HCOL:Hid (wrap64 ((fld s.fs m).2+((sb (fld s.fs m).1).size:Int))=endCol s.fs):=by
     unfold Hid endCol;rw[if_neg (by omega),hm];rfl
    have hsz2:(sb (fld s.fs m).1).size≤9223372036854775807:=by unfold maxLen at hsz;exact hsz
    obtain⟨n,hnn⟩:∃n,s.fs.length=n:=⟨_,rfl⟩
    obtain⟨tx,htx⟩:∃t,sb (fld s.fs m).1=t:=⟨_,rfl⟩
    obtain⟨co,hco⟩:∃t,(fld s.fs m).2=t:=⟨_,rfl⟩
    rw[hnn] at h0 hm hcn k1 k2
    rw[htx] at HCOL hc0 hsz2
    rw[hco] at HCOL hc1
    have hi1:((n:Int)-1).toNat=m:=by omega
    have hi2:(0:Int)≤(n:Int)-1:=by omega
    have hi3:(1:Int)≤(n:Int):=by omega
    have hi4:(n:Int)-1<(n:Int):=by omega
    have hi5:(0:Int)<(n:Int):=by omega
    clear hnn htx hco hsz hb hf hn hg hbad hde hlt hnl hm
    go_enter Tryz.func309,Tryz.ntmps309
    go_wp2_with fail
    refine(failed_any s g _ H.out).mono ?_
    rintro en w1 ⟨rfl,rfl⟩
    rw[HBD.out]
    go_wp2_with fail
    refine(note_any s _ 4 g _ (H.out.below ((Below.refl _ _).alloc (Nat.le_refl _) _))).mono ?_
    rintro en w1 ⟨rfl,hp⟩
    have HP:=Lib.hid hp
    clear hp
    go_wp2
    go_ret2
    exact HFIN.out _ _ _ HCOL.out ((Below.refl _ _).alloc (Nat.le_refl _) _) HP.out
   ·have h00:s.fs.length=0:=by omega
    have HCOL:Hid (1=endCol s.fs):=by unfold Hid endCol;rw[if_pos h00]
    rw[h00] at k1 k2 hcn
    clear hb hf hn hg hbad hde hlt hnl h00 h0
    go_enter Tryz.func309,Tryz.ntmps309
    go_wp2_with fail
    refine(failed_any s g _ H.out).mono ?_
    rintro en w1 ⟨rfl,rfl⟩
    rw[HBD.out]
    go_wp2_with fail
    refine(note_any s _ 4 g _ H.out).mono ?_
    rintro en w1 ⟨rfl,hp⟩
    have HP:=Lib.hid hp
    clear hp
    go_wp2
    go_ret2
    exact HFIN.out _ _ _ HCOL.out (Below.refl _ _) HP.out
 ·have hg:s.got=false:=by unfold Sc.got;rw[hbad];rfl
  have HFIN:Hid (TakePost s g w (.returned (.tuple #[.string ⟨#[]⟩,.bool false])) w):=by
   refine⟨by unfold Sc.text;rw[hg];rfl,?_⟩
   rw[Sc.take_bad hbad];exact ScPost.same H.out
  have HBD:=Lib.hid hbad
  clear hbad hb hn hf hg
  go_enter Tryz.func309,Tryz.ntmps309
  go_wp2_with fail
  refine(failed_any s g _ H.out).mono ?_
  rintro en w1 ⟨rfl,rfl⟩
  rw[HBD.out]
  go_wp2
  go_ret2
  exact HFIN.out
end Go.Proofs.YtgmehlgfilpleaaGreatDoor
