/-
  Several texts as one.
-/
import Derived.Test.YtgmehlgfilpleaaGreatDoorBase
import Derived.RegionTactic
import Derived.ChangeAlike
import Derived.BigRegion
import Derived.StillTailTactics
import Derived.Test.YtgmehlgfilpleaaGreatDoorMG10
import Derived.Test.YtgmehlgfilpleaaGreatDoorMG05
namespace Go.Proofs.YtgmehlgfilpleaaGreatDoor
open Go.RowKit
set_option linter.unusedVariables false
set_option linter.unusedSimpArgs false

abbrev FldI:=List UInt8 × Int
def ficells (l:List FldI):List Value:=l.flatMap fun f=>[.string (sb f.1),.int .i64 f.2]
theorem ficells_len (l:List FldI):(ficells l).length=l.length*2:=by
 induction l with
 | nil=>rfl
 | cons f l ih=>unfold ficells at ih ⊢;rw[List.flatMap_cons,List.length_append,ih];simp only[List.length_cons,List.length_nil];omega
theorem ficells_cons (f:FldI) (l:List FldI):ficells (f::l)=.string (sb f.1) :: .int .i64 f.2::ficells l:=rfl
theorem ficells_at (l:List FldI):∀(k:Nat) (h:k<l.length),(ficells l)[k*2]? = some (.string (sb l[k].1))∧(ficells l)[k*2+1]? = some (.int .i64 l[k].2):=by
 induction l with
 | nil=>intro k h;simp at h
 | cons f l ih =>
  intro k h
  rw[ficells_cons]
  cases k with
  | zero=>exact⟨rfl,rfl⟩
  | succ k =>
   have:=ih k (by simpa using h)
   rw[show(k+1)*2=k*2+2 by omega]
   exact this
structure Sc where
 num:Int
 fs:List FldI
 nx:Nat
 la:Int
 dl:Int
 dc:Int
 de:Int
def Sc.bad (s:Sc):Bool:=s.de != 0
def Sc.got (s:Sc):Bool := !s.bad&&decide (s.nx<s.fs.length)
def Sc.note (s:Sc) (c e:Int):Sc:=if s.bad || e == 0 then s else {s with dl:=s.num,dc:=c,de:=e}
def fld (l:List FldI) (k:Nat):FldI:=l.getD k ([],0)
def endCol (l:List FldI):Int:=if l.length=0 then 1 else wrap64 ((fld l (l.length-1)).2+(fld l (l.length-1)).1.length)
def Sc.take (s:Sc):Sc:=if s.bad then s else if s.nx<s.fs.length then {s with nx:=s.nx+1,la:=(fld s.fs s.nx).2} else s.note (endCol s.fs) 4
def Sc.text (s:Sc):List UInt8:=if s.got then (fld s.fs s.nx).1 else []
def Sc.tk (s:Sc) (er:List UInt8→Int):Sc:=if s.got then s.take.note s.take.la (er s.text) else s.take
def Sc.tv (s:Sc) {α : Type} (z : α) (v:List UInt8 → α) : α := if s.got then v s.text else z
def Sc.left (s:Sc):Nat:=if s.bad then 0 else s.fs.length-s.nx
def Sc.endB (s:Sc):Bool:=s.bad || decide (s.nx<s.fs.length)
def Sc.endL (s:Sc):Int:=if s.bad then s.dl else if s.nx<s.fs.length then s.num else 0
def Sc.endC (s:Sc):Int:=if s.bad then s.dc else if s.nx<s.fs.length then (fld s.fs s.nx).2 else 0
def Sc.endE (s:Sc):Int:=if s.bad then s.de else if s.nx<s.fs.length then 4 else 0
def scan0 (num:Int) (fs:List FldI):Sc:=⟨num,fs,0,1,0,0,0⟩
theorem Sc.got_iff {s:Sc}:s.got=true↔s.de=0∧s.nx<s.fs.length:=by unfold Sc.got Sc.bad;simp
theorem Sc.bad_iff {s:Sc}:s.bad=true↔s.de≠0:=by unfold Sc.bad;simp
theorem Sc.take_fs (s:Sc):s.take.fs=s.fs:=by
 unfold Sc.take Sc.note;split <;> (try rfl);split <;> (try rfl);split <;> rfl
theorem Sc.note_fs (s:Sc) (c e:Int):(s.note c e).fs=s.fs:=by unfold Sc.note;split <;> rfl
theorem Sc.take_bad {s:Sc} (h:s.bad=true):s.take=s:=by unfold Sc.take;rw[if_pos h]
theorem Sc.take_got {s:Sc} (h:s.got=true):s.take={s with nx:=s.nx+1,la:=(fld s.fs s.nx).2}:=by
 have:=Sc.got_iff.1 h
 unfold Sc.take;rw[if_neg (by rw[Sc.bad_iff];simp[this.1]),if_pos this.2]
theorem Sc.take_end {s:Sc} (h:s.bad=false) (h2:¬s.nx<s.fs.length):s.take={s with dl:=s.num,dc:=endCol s.fs,de:=4}:=by
 unfold Sc.take;rw[if_neg (by rw[h];decide),if_neg h2];unfold Sc.note;rw[h];rfl
theorem Sc.tk_no {s:Sc} (h:s.got=false) (er:List UInt8→Int):s.tk er=s.take:=by unfold Sc.tk;rw[if_neg (by rw[h];decide)]
theorem Sc.tk_got {s:Sc} (h:s.got=true) (er:List UInt8→Int):s.tk er=s.take.note s.take.la (er s.text):=by unfold Sc.tk;rw[if_pos h]
theorem Sc.tv_no {s:Sc} (h:s.got=false) {α : Type} (z : α) (v:List UInt8 → α):s.tv z v=z:=by unfold Sc.tv;rw[if_neg (by rw[h];decide)]
theorem Sc.tv_got {s:Sc} (h:s.got=true) {α : Type} (z : α) (v:List UInt8 → α):s.tv z v=v s.text:=by unfold Sc.tv;rw[if_pos h]
theorem Sc.note_zero (s:Sc) (c:Int):s.note c 0=s:=by unfold Sc.note;rw[if_pos (by simp)]
theorem Sc.note_bad {s:Sc} (h:s.bad=true) (c e:Int):s.note c e=s:=by unfold Sc.note;rw[if_pos (by rw[h];rfl)]
theorem Sc.note_set {s:Sc} (h:s.bad=false) (c:Int) {e:Int} (he:e≠0):s.note c e={s with dl:=s.num,dc:=c,de:=e}:=by
 unfold Sc.note;rw[if_neg];rw[h];simpa using he
def wordAt (ws:List (List UInt8)) (t:List UInt8) (n:Nat):Int:=match ws with
 | [] => -1
 | w::ws=>if w=t then n else wordAt ws t (n+1)
def wordE (ws:List (List UInt8)) (t:List UInt8):Int:=if wordAt ws t 0 = -1 then 4 else 0

def FsR (w:World) (g:Nat) (v:Value) (fs:List FldI):Prop :=
 ∃A c,v=.slice A fs.length c∧fs.length≤c∧c≤maxLen∧(∀f∈fs,f.1.length≤maxLen) ∧
  (0<fs.length→∃h o,A=some ⟨h,o,none⟩∧h<g∧∀j u,(ficells fs)[j]? = some u→w.cell? ⟨h,o+j,none⟩=some u)
structure Off (g:Nat) (w w':World):Prop extends World.grownBy w w' (some g) where
 c1:∀v,w.cell? ⟨g,1,none⟩=some v→w'.cell? ⟨g,1,none⟩=some v
theorem Off.refl (g:Nat) (w:World):Off g w w:=⟨⟨rfl,rfl,rfl,Nat.le_refl _,fun _ _ _=>rfl⟩,fun _ h=>h⟩
theorem Off.trans {g:Nat} {a b c:World} (h:Off g a b) (k:Off g b c):Off g a c :=
 ⟨⟨k.os.trans h.os,k.tape.trans h.tape,k.output.trans h.output,Nat.le_trans h.size k.size,fun i hi hn=>(k.block i (Nat.lt_of_lt_of_le hi h.size) hn).trans (h.block i hi hn)⟩,fun v hv=>k.c1 v (h.c1 v hv)⟩
theorem Off.of_below {g:Nat} {w w':World} (h:Below w.heap.size w w'):Off g w w' :=
 ⟨⟨h.os,h.tape,h.output,h.size,fun i hi _=>h.block i hi⟩,fun v hv=>(h.cell (p:=⟨g,1,none⟩) (cell_lt hv)).trans hv⟩
theorem cell_set_ne (w:World) (g j:Nat) (u:Value) (hj:j≠1):(w.setCell ⟨g,j,none⟩ u).cell? ⟨g,1,none⟩=w.cell? ⟨g,1,none⟩:=by
 simp[go_sem,hj]
theorem Off.set {g:Nat} {w w':World} (h:Off g w w') (j:Nat) (u:Value) (hj:j≠1:=by decide):Off g w (w'.setCell ⟨g,j,none⟩ u) :=
 ⟨⟨h.os,h.tape,h.output,by simpa using h.size,fun i hi hn=>(heap_setCell_other w' ⟨g,j,none⟩ i u (fun e=>hn (congrArg some e))).trans (h.block i hi hn)⟩,fun v hv=>(cell_set_ne w' g j u hj).trans (h.c1 v hv)⟩
theorem Off.alloc {g:Nat} {w w':World} (h:Off g w w') (o:Obj):Off g w (w'.alloc o):=h.trans (Off.of_below ((Below.refl _ _).alloc (Nat.le_refl _) o))
theorem Off.drewN {g:Nat} {w w':World} (h:Off g w w') (n:Nat):Off g w (w'.drewN n):=h.trans (Off.of_below (below_drewN' (Below.refl _ _) n))
theorem Off.drew {g:Nat} {w w':World} (h:Off g w w'):Off g w w'.drew:=h.trans (Off.of_below (Below.refl _ _).drew)
theorem Off.setNew {g:Nat} {w w':World} (h:Off g w w') {b:Nat} (hb:w.heap.size≤b) (j:Nat) (u:Value):Off g w (w'.setCell ⟨b,j,none⟩ u) :=
 ⟨⟨h.os,h.tape,h.output,by simpa using h.size,fun i hi hn=>(heap_setCell_other w' ⟨b,j,none⟩ i u (fun e=>by simp only at e;omega)).trans (h.block i hi hn)⟩,
  fun v hv=>(World.cell?_of_block (a:=⟨g,1,none⟩) (heap_setCell_other w' ⟨b,j,none⟩ g u (fun e=>by have:=cell_lt hv;simp only at e;omega))).trans (h.c1 v hv)⟩
theorem Off.below {g B:Nat} {w0 w w':World} (h:Off g w w') (hb:Below B w0 w) (hg:B≤g) (hB:B≤w.heap.size):Below B w0 w' :=
 ⟨h.os.trans hb.os,h.tape.trans hb.tape,h.output.trans hb.output,Nat.le_trans hb.size h.size,fun k hk=>(h.block k (Nat.lt_of_lt_of_le hk hB) (by intro e;injection e with e;omega)).trans (hb.block k hk)⟩
theorem Off.cell {g:Nat} {w w':World} (h:Off g w w') {b o:Nat} (hb:b<w.heap.size) (hn:b≠g):w'.cell? ⟨b,o,none⟩=w.cell? ⟨b,o,none⟩ :=
 World.cell?_of_block (w:=w) (a:=⟨b,o,none⟩) (h.block b hb (by intro e;injection e with e;exact hn e))
theorem Off.frozen {g:Nat} {w w':World} (h:Off g w w') {b o:Nat} (hb:b<w.heap.size) (hn:b≠g):w'.frozen? ⟨b,o,none⟩=w.frozen? ⟨b,o,none⟩ :=
 World.frozen?_of_block (w:=w) (a:=⟨b,o,none⟩) (h.block b hb (by intro e;injection e with e;exact hn e))
theorem FsR.keep {w w':World} {g:Nat} {v:Value} {fs:List FldI} (h:FsR w g v fs) (hk:∀k,k<g→w'.heap[k]? = w.heap[k]?):FsR w' g v fs:=by
 obtain⟨A,c,hv,hc,hm,hf,hr⟩:=h
 refine⟨A,c,hv,hc,hm,hf,fun h0 => ?_⟩
 obtain⟨b,o,hA,hb,hx⟩:=hr h0
 exact⟨b,o,hA,hb,fun j u hu=>(World.cell?_of_block (w:=w) (a:=⟨b,o+j,none⟩) (hk b hb)).trans (hx j u hu)⟩
theorem FsR.off {w w':World} {g:Nat} {v:Value} {fs:List FldI} (h:FsR w g v fs) (hg:g<w.heap.size) (ho:Off g w w'):FsR w' g v fs :=
 h.keep fun k hk=>ho.block k (by omega) (by intro e;injection e with e;omega)
theorem FsR.at_ {w:World} {g:Nat} {v:Value} {fs:List FldI} (h:FsR w g v fs) {k:Nat} (hk:k<fs.length) :
  ∃b o c,v=.slice (some ⟨b,o,none⟩) fs.length c∧b<g∧w.cell? ⟨b,o+k*2,none⟩=some (.string (sb (fld fs k).1))∧w.cell? ⟨b,o+k*2+1,none⟩=some (.int .i64 (fld fs k).2)∧(fld fs k).1.length≤maxLen:=by
 obtain⟨A,c,hv,hc,hm,hf,hr⟩:=h
 obtain⟨b,o,rfl,hb,hx⟩:=hr (by omega)
 have hfl:fld fs k=fs[k]:=by unfold fld;rw[List.getD_eq_getElem?_getD,List.getElem?_eq_getElem hk];rfl
 obtain⟨h0,h1⟩:=ficells_at fs k hk
 rw[hfl]
 exact⟨b,o,c,hv,hb,hx _ _ h0,by have:=hx _ _ h1;rwa [←Nat.add_assoc] at this,hf _ (List.getElem_mem hk)⟩
def scC (s:Sc) (v:Value):Array Value := #[.int .i64 s.num,v,.int .i64 (s.nx:Int),.int .i64 s.la,.int .i64 s.dl,.int .i64 s.dc,.int .i64 s.de]
def ScP (w:World) (g:Nat) (s:Sc):Prop:=s.nx≤s.fs.length∧∃v,w.heap[g]? = some (.cells (scC s v) 353 (0,0))∧FsR w g v s.fs
theorem ScP.lt {w:World} {g:Nat} {s:Sc} (h:ScP w g s):g<w.heap.size:=by
 obtain⟨_,v,h,_⟩:=h
 exact(Array.getElem?_eq_some_iff.1 h).1
theorem ScP.keep {w w':World} {g:Nat} {s:Sc} (h:ScP w g s) (hk:∀k,k≤g→w'.heap[k]? = w.heap[k]?):ScP w' g s:=by
 obtain⟨h1,v,h2,h3⟩:=h
 exact⟨h1,v,(hk g (Nat.le_refl _)).trans h2,h3.keep fun k hlt=>hk k (Nat.le_of_lt hlt)⟩
theorem ScP.below {w w':World} {g:Nat} {s:Sc} (h:ScP w g s) (hb:Below w.heap.size w w'):ScP w' g s :=
 h.keep fun k hk=>hb.block k (Nat.lt_of_le_of_lt hk h.lt)
theorem ScP.setNew {w:World} {g:Nat} {s:Sc} (h:ScP w g s) {b j:Nat} (hb:g<b) (u:Value):ScP (w.setCell ⟨b,j,none⟩ u) g s :=
 h.keep fun k hk=>heap_setCell_other w ⟨b,j,none⟩ k u (fun e=>by simp only at e;omega)
theorem ScP.drew {w:World} {g:Nat} {s:Sc} (h:ScP w g s):ScP w.drew g s:=h.below (Below.refl _ _).drew
theorem ScP.drewN {w:World} {g:Nat} {s:Sc} (h:ScP w g s) (n:Nat):ScP (w.drewN n) g s:=h.below (below_drewN' (Below.refl _ _) n)
theorem ScP.alloc {w:World} {g:Nat} {s:Sc} (h:ScP w g s) (o:Obj):ScP (w.alloc o) g s:=h.below ((Below.refl _ _).alloc (Nat.le_refl _) o)

theorem blkCell {w:World} {g:Nat} {cs:Array Value} {T:TypeId} (h:w.heap[g]? = some (.cells cs T (0,0))) (j:Nat) {u:Value} (hu:cs[j]? = some u):w.cell? ⟨g,j,none⟩=some u:=by
 rw[Lib.cell_of_heap h];exact hu
theorem blkFree {w:World} {g:Nat} {cs:Array Value} {T:TypeId} (h:w.heap[g]? = some (.cells cs T (0,0))) (j:Nat):w.frozen? ⟨g,j,none⟩=false:=frozen_of_row w g j cs T h
theorem blkSet {w:World} {g:Nat} {cs:Array Value} {T:TypeId} (h:w.heap[g]? = some (.cells cs T (0,0))) (j:Nat) (u:Value):(w.setCell ⟨g,j,none⟩ u).heap[g]? = some (.cells (cs.setIfInBounds j u) T (0,0)):=heap_setCell_same w g j cs T u h
theorem failed_any (s:Sc) (g:Nat) (w:World) (h:ScP w g s) :
  Calls Tryz.prog 319 #[.pointer (some ⟨g,0,none⟩)] w fun e w'=>e=.returned (.bool s.bad)∧w=w':=by
 obtain⟨hn,v,hb,hf⟩:=h
 have c6:w.cell? ⟨g,6,none⟩=some (.int .i64 s.de):=blkCell hb 6 rfl
 clear hb hf hn
 go_enter Tryz.func319,Tryz.ntmps319
 go_wp2
 go_ret
 exact⟨rfl,rfl⟩
def ScPost (s':Sc) (g:Nat) (w w':World):Prop:=ScP w' g s'∧Off g w w'
theorem ScPost.same {s:Sc} {g:Nat} {w:World} (h:ScP w g s):ScPost s g w w:=⟨h,Off.refl _ _⟩
theorem ScPost.trans {s s':Sc} {g:Nat} {a b c:World} (h:ScPost s g a b) (k:ScPost s' g b c):ScPost s' g a c:=⟨k.1,h.2.trans k.2⟩
theorem ScPost.then_ {s:Sc} {g:Nat} {a b c:World} (h:ScPost s g a b) (k:Below b.heap.size b c):ScPost s g a c:=⟨h.1.below k,h.2.trans (Off.of_below k)⟩
set_option maxHeartbeats 1000000 in
theorem note_any (s:Sc) (c e:Int) (g:Nat) (w:World) (h:ScP w g s) :
  Calls Tryz.prog 313 #[.pointer (some ⟨g,0,none⟩),.int .i64 c,.int .i64 e] w fun en w'=>en=.returned (.tuple #[])∧ScPost (s.note c e) g w w':=by
 have H:=Lib.hid h
 obtain⟨hn,v,hb,hf⟩:=h
 have HB:=Lib.hid hb
 have HF:=Lib.hid hf
 clear hf
 cases hbad:s.bad
 ·by_cases he:e=0
  ·have e1:(e != 0)=false:=bne_eq_false_iff_eq.2 he
   have HN:Hid (s.note c e=s):=by unfold Hid;rw[he,Sc.note_zero]
   clear he hb hn
   have HBD:=Lib.hid hbad
   clear hbad
   go_enter Tryz.func313,Tryz.ntmps313
   go_wp2_with fail
   refine(failed_any s g _ H.out).mono ?_
   rintro en w1 ⟨rfl,rfl⟩
   rw[HBD.out]
   go_wp2
   go_end0
   exact⟨rfl,by rw[HN.out];exact ScPost.same H.out⟩
  ·have e1:(e != 0)=true:=bne_iff_ne.2 he
   have HN:=Lib.hid (Sc.note_set hbad c he)
   have f4:=blkFree hb 4
   have f5:=blkFree hb 5
   have f6:=blkFree hb 6
   have c0:w.cell? ⟨g,0,none⟩=some (.int .i64 s.num):=blkCell hb 0 rfl
   have c4:w.cell? ⟨g,4,none⟩=some (.int .i64 s.dl):=blkCell hb 4 rfl
   have c5:w.cell? ⟨g,5,none⟩=some (.int .i64 s.dc):=blkCell hb 5 rfl
   have c6:w.cell? ⟨g,6,none⟩=some (.int .i64 s.de):=blkCell hb 6 rfl
   have HFIN:Hid (ScPost (s.note c e) g w (((w.setCell ⟨g,4,none⟩ (.int .i64 s.num)).setCell ⟨g,5,none⟩ (.int .i64 c)).setCell ⟨g,6,none⟩ (.int .i64 e))):=by
    have ho:Off g w (((w.setCell ⟨g,4,none⟩ (.int .i64 s.num)).setCell ⟨g,5,none⟩ (.int .i64 c)).setCell ⟨g,6,none⟩ (.int .i64 e)):=(((Off.refl g w).set 4 _).set 5 _).set 6 _
    refine⟨?_,ho⟩
    rw[HN.out]
    exact⟨hn,v,blkSet (blkSet (blkSet HB.out 4 _) 5 _) 6 _,HF.out.off H.out.lt ho⟩
   have HBD:=Lib.hid hbad
   clear hbad he hb hn
   go_enter Tryz.func313,Tryz.ntmps313
   go_wp2_with fail
   refine(failed_any s g _ H.out).mono ?_
   rintro en w1 ⟨rfl,rfl⟩
   rw[HBD.out]
   go_wp2
   go_end0
   exact⟨rfl,HFIN.out⟩
 ·have HN:=Lib.hid (Sc.note_bad hbad c e)
  have HBD:=Lib.hid hbad
  clear hbad hb hn
  go_enter Tryz.func313,Tryz.ntmps313
  go_wp2_with fail
  refine(failed_any s g _ H.out).mono ?_
  rintro en w1 ⟨rfl,rfl⟩
  rw[HBD.out]
  go_wp2
  go_end0
  exact⟨rfl,by rw[HN.out];exact ScPost.same H.out⟩

def TakePost (s:Sc) (g:Nat) (w:World) (e:Ending) (w':World):Prop:=e=.returned (.tuple #[.string (sb s.text),.bool s.got])∧ScPost s.take g w w'
theorem fld_le {w:World} {g:Nat} {v:Value} {fs:List FldI} (h:FsR w g v fs):∃A c,v=.slice A fs.length c∧fs.length≤c∧c≤9223372036854775807:=by
 obtain⟨A,c,hv,hc,hm,_⟩:=h;exact⟨A,c,hv,hc,by unfold maxLen at hm;omega⟩
set_option maxRecDepth 100000 in
set_option maxHeartbeats 2000000 in
theorem take_any (s:Sc) (g:Nat) (w:World) (h:ScP w g s) :
  Calls Tryz.prog 309 #[.pointer (some ⟨g,0,none⟩)] w (TakePost s g w):=by
 have H:=Lib.hid h
 obtain⟨hn,v,hb,hf⟩:=h
 cases hbad:s.bad
 ·have hde:s.de=0:=by unfold Sc.bad at hbad;simpa using hbad
  have HBD:=Lib.hid hbad
  by_cases hlt:s.nx<s.fs.length
  ·have hg:s.got=true:=Sc.got_iff.2 ⟨hde,hlt⟩
   obtain⟨b,o,c,rfl,hbl,hc0,hc1,hsz⟩:=hf.at_ hlt
   have hbn:b≠g:=Nat.ne_of_lt hbl
   have hbw:b<w.heap.size:=Nat.lt_trans hbl H.out.lt
   have HFIN:Hid (∀o':Obj,TakePost s g w (.returned (.tuple #[.string (sb (fld s.fs s.nx).1),.bool true])) ((((w.setCell ⟨g,2,none⟩ (.int .i64 ((s.nx:Int)+1))).setCell ⟨g,3,none⟩ (.int .i64 (fld s.fs s.nx).2)).alloc o').drew)):=by
    intro o'
    have ho:Off g w ((((w.setCell ⟨g,2,none⟩ (.int .i64 ((s.nx:Int)+1))).setCell ⟨g,3,none⟩ (.int .i64 (fld s.fs s.nx).2)).alloc o').drew):=((((Off.refl g w).set 2 _).set 3 _).alloc _).drew
    refine⟨by unfold Sc.text;rw[hg];rfl,?_,ho⟩
    rw[Sc.take_got hg]
    refine⟨hlt,_,?_,hf.off H.out.lt ho⟩
    have h2:=blkSet (blkSet hb 2 (.int .i64 ((s.nx:Int)+1))) 3 (.int .i64 (fld s.fs s.nx).2)
    exact((((Below.refl _ _).alloc (Nat.le_refl _) o').drew).block g (by simpa using H.out.lt)).trans h2
   have k1:w.cell? ⟨g,1,none⟩=some (.slice (some ⟨b,o,none⟩) s.fs.length c):=blkCell hb 1 rfl
   have k2:w.cell? ⟨g,2,none⟩=some (.int .i64 (s.nx:Int)):=blkCell hb 2 rfl
   have k3:w.cell? ⟨g,3,none⟩=some (.int .i64 s.la):=blkCell hb 3 rfl
   have f2:=blkFree hb 2
   have f3:=blkFree hb 3
   have hgw:=H.out.lt
   obtain⟨A',c',hv',hcn,hcm⟩:=fld_le hf
   simp only[Value.slice.injEq,true_and] at hv'
   obtain⟨-,rfl⟩:=hv'
   obtain⟨n,hnn⟩:∃n,s.fs.length=n:=⟨_,rfl⟩
   obtain⟨k,hkk⟩:∃k,s.nx=k:=⟨_,rfl⟩
   obtain⟨tx,htx⟩:∃t,sb (fld s.fs s.nx).1=t:=⟨_,rfl⟩
   obtain⟨co,hco⟩:∃t,(fld s.fs s.nx).2=t:=⟨_,rfl⟩
   rw[htx,hco] at HFIN
   rw[htx] at hc0
   rw[hco] at hc1
   rw[hkk] at HFIN hlt k2 hc0 hc1
   rw[hnn] at hlt hcn k1
   clear hnn hkk htx hco hb hf hn hg hbad hde hsz
   have hne:((k:Int) == (n:Int))=false:=by rw[beq_eq_false_iff_ne];omega
   have hki:(k:Int)<(n:Int):=by omega
   have hknat:((k:Int)).toNat=k:=Int.toNat_natCast k
   go_enter Tryz.func309,Tryz.ntmps309
   go_wp2_with fail
   refine(failed_any s g _ H.out).mono ?_
   rintro en w1 ⟨rfl,rfl⟩
   rw[HBD.out]
   go_wp2
   go_region
   go_wp2
   go_ret2
   exact HFIN.out _
  ·have hg:s.got=false:=by
    rw[←Bool.not_eq_true,Sc.got_iff];intro h;exact hlt h.2
   have HFIN:Hid (∀(col:Int) (w1 w':World),col=endCol s.fs→Below w.heap.size w w1→ScPost (s.note col 4) g w1 w'→TakePost s g w (.returned (.tuple #[.string ⟨#[]⟩,.bool false])) w'):=by
    intro col w1 w' hc hb1 hp
    refine⟨by unfold Sc.text;rw[hg];rfl,?_⟩
    have ht:s.take=s.note col 4:=by unfold Sc.take;rw[if_neg (by rw[hbad];decide),if_neg hlt,hc]
    rw[ht]
    exact⟨hp.1,(Off.of_below hb1).trans hp.2⟩
   have hnl:s.nx=s.fs.length:=by omega
   obtain⟨A,c,rfl,hcn,hcm⟩:=fld_le hf
   have k1:w.cell? ⟨g,1,none⟩=some (.slice A s.fs.length c):=blkCell hb 1 rfl
   have k2:w.cell? ⟨g,2,none⟩=some (.int .i64 (s.nx:Int)):=blkCell hb 2 rfl
   rw[hnl] at k2
   have hgw:=H.out.lt
   by_cases h0:0<s.fs.length
   ·obtain⟨m,hm⟩:∃m,s.fs.length=m+1:=⟨s.fs.length-1,by omega⟩
    obtain⟨b,o,c',hv',hbl,hc0,hc1,hsz⟩:=hf.at_ (k:=m) (by omega)
    have hbn:b≠g:=Nat.ne_of_lt hbl
    have hbw:b<w.heap.size:=Nat.lt_trans hbl H.out.lt
    simp only[Value.slice.injEq,true_and] at hv'
    obtain⟨rfl,rfl⟩:=hv'
    have HCOL:Hid (wrap64 ((fld s.fs m).2+((sb (fld s.fs m).1).size:Int))=endCol s.fs):=by
     unfold Hid endCol;rw[if_neg (by omega),hm];rfl
    have hsz2:(sb (fld s.fs m).1).size≤9223372036854775807:=by unfold maxLen at hsz;exact hsz
    obtain⟨n,hnn⟩:∃n,s.fs.length=n:=⟨_,rfl⟩
    obtain⟨tx,htx⟩:∃t,sb (fld s.fs m).1=t:=⟨_,rfl⟩
    obtain⟨co,hco⟩:∃t,(fld s.fs m).2=t:=⟨_,rfl⟩
    rw[hnn] at h0 hm hcn k1 k2
    rw[htx] at HCOL hc0 hsz2
    rw[hco] at HCOL hc1
    have hi1:((n:Int)-1).toNat=m:=by omega
    have hi2:(0:Int)≤(n:Int)-1:=by omega
    have hi3:(1:Int)≤(n:Int):=by omega
    have hi4:(n:Int)-1<(n:Int):=by omega
    have hi5:(0:Int)<(n:Int):=by omega
    clear hnn htx hco hsz hb hf hn hg hbad hde hlt hnl hm
    go_enter Tryz.func309,Tryz.ntmps309
    go_wp2_with fail
    refine(failed_any s g _ H.out).mono ?_
    rintro en w1 ⟨rfl,rfl⟩
    rw[HBD.out]
    go_wp2_with fail
    refine(note_any s _ 4 g _ (H.out.below ((Below.refl _ _).alloc (Nat.le_refl _) _))).mono ?_
    rintro en w1 ⟨rfl,hp⟩
    have HP:=Lib.hid hp
    clear hp
    go_wp2
    go_ret2
    exact HFIN.out _ _ _ HCOL.out ((Below.refl _ _).alloc (Nat.le_refl _) _) HP.out
   ·have h00:s.fs.length=0:=by omega
    have HCOL:Hid (1=endCol s.fs):=by unfold Hid endCol;rw[if_pos h00]
    rw[h00] at k1 k2 hcn
    clear hb hf hn hg hbad hde hlt hnl h00 h0
    go_enter Tryz.func309,Tryz.ntmps309
    go_wp2_with fail
    refine(failed_any s g _ H.out).mono ?_
    rintro en w1 ⟨rfl,rfl⟩
    rw[HBD.out]
    go_wp2_with fail
    refine(note_any s _ 4 g _ H.out).mono ?_
    rintro en w1 ⟨rfl,hp⟩
    have HP:=Lib.hid hp
    clear hp
    go_wp2
    go_ret2
    exact HFIN.out _ _ _ HCOL.out (Below.refl _ _) HP.out
 ·have hg:s.got=false:=by unfold Sc.got;rw[hbad];rfl
  have HFIN:Hid (TakePost s g w (.returned (.tuple #[.string ⟨#[]⟩,.bool false])) w):=by
   refine⟨by unfold Sc.text;rw[hg];rfl,?_⟩
   rw[Sc.take_bad hbad];exact ScPost.same H.out
  have HBD:=Lib.hid hbad
  clear hbad hb hn hf hg
  go_enter Tryz.func309,Tryz.ntmps309
  go_wp2_with fail
  refine(failed_any s g _ H.out).mono ?_
  rintro en w1 ⟨rfl,rfl⟩
  rw[HBD.out]
  go_wp2
  go_ret2
  exact HFIN.out


theorem latB_ways (a:Int):(Hid (latB a=true) ∧ -32400000≤a∧a≤32400000)∨(Hid (latB a=false)∧(a < -32400000∨(-32400000≤a∧32400000<a))):=by
 unfold latB Hid
 rcases Int.lt_or_le a (-32400000) with h|h
 ·exact .inr ⟨by rw[decide_eq_false (p := -32400000≤a) (by omega)];rfl,.inl h⟩
 ·rcases Int.lt_or_le 32400000 a with h2|h2
  ·exact .inr ⟨by rw[decide_eq_false (p:=a≤32400000) (by omega),Bool.and_false],.inr ⟨h,h2⟩⟩
  ·exact .inl ⟨by rw[decide_eq_true h,decide_eq_true h2];rfl,h,h2⟩
theorem lonB_ways (a:Int):(Hid (lonB a=true) ∧ -64800000<a∧a≤64800000)∨(Hid (lonB a=false)∧(a ≤ -64800000∨(-64800000<a∧64800000<a))):=by
 unfold lonB Hid
 rcases Int.lt_or_le (-64800000) a with h|h
 ·rcases Int.lt_or_le 64800000 a with h2|h2
  ·exact .inr ⟨by rw[decide_eq_false (p:=a≤64800000) (by omega),Bool.and_false],.inr ⟨h,h2⟩⟩
  ·exact .inl ⟨by rw[decide_eq_true h,decide_eq_true h2];rfl,h,h2⟩
 ·exact .inr ⟨by rw[decide_eq_false (p := -64800000<a) (by omega)];rfl,.inl h⟩
set_option maxHeartbeats 400000 in
theorem isLat_any (a:Int) (w:World):Calls Tryz.prog 248 #[.int .i64 a] w fun e w'=>e=.returned (.bool (latB a))∧w=w':=by
 rcases latB_ways a with ⟨hb,h1,h2⟩|⟨hb,h1|⟨h1,h2⟩⟩
 all_goals
  go_enter Tryz.func248,Tryz.ntmps248
  go_wp2
  go_ret
  exact⟨ret_bool (by first|(rw[hb.out];done)|(rw[hb.out];exact decide_eq_false (by omega))|(rw[hb.out];exact decide_eq_true (by omega))|exact hb.out.symm),rfl⟩
set_option maxHeartbeats 400000 in
theorem isLon_any (a:Int) (w:World):Calls Tryz.prog 250 #[.int .i64 a] w fun e w'=>e=.returned (.bool (lonB a))∧w=w':=by
 rcases lonB_ways a with ⟨hb,h1,h2⟩|⟨hb,h1|⟨h1,h2⟩⟩
 all_goals
  go_enter Tryz.func250,Tryz.ntmps250
  go_wp2
  go_ret
  exact⟨ret_bool (by first|(rw[hb.out];done)|(rw[hb.out];exact decide_eq_false (by omega))|(rw[hb.out];exact decide_eq_true (by omega))|exact hb.out.symm),rfl⟩
def CoordPost (v er:Int) (w:World) (e:Ending) (w':World):Prop:=e=.returned (.tuple #[.int .i64 v,.int .i64 er])∧Drawn w w'
set_option maxHeartbeats 1000000 in
theorem parseLat_any (s:ByteArray) (w:World) (hs:s.size≤maxLen):Calls Tryz.prog 359 #[.string s] w (CoordPost (latPV (bl s)) (latPErr (bl s)) w):=by
 have HP:Hid (∀(v er:Int) w',latPErr (bl s)=er→latPV (bl s)=v→Drawn w w'→CoordPost (latPV (bl s)) (latPErr (bl s)) w (.returned (.tuple #[.int .i64 v,.int .i64 er])) w'):=by
  intro v er w' h1 h2 h3;unfold CoordPost;rw[h1,h2];exact⟨rfl,h3⟩
 have HC:=parse_any s 78 83 2 w (by decide) hs
 have HCC:Hid (∀K:Ending→World→Prop,(∀e w',SgnPost (bl s) 78 83 2 w e w'→K e w')→True):=fun _ _=>trivial
 clear HCC
 go_enter Tryz.func359,Tryz.ntmps359
 go_wp2_with fail
 refine HC.mono ?_
 rintro e w' ⟨rfl,k,rfl⟩
 clear HC
 show _
 have HS:Hid (latPErr (bl s)=if sgnB (bl s) 78 83 2 then (if latB (sgnV (bl s) 83 2) then 0 else 2) else 4):=rfl
 cases hb:sgnB (bl s) 78 83 2 with
 | false =>
  have HB:=Lib.hid hb
  try rw[hb]
  clear hb
  simp only[Bool.false_eq_true,if_false]
  have h4:Hid (latPErr (bl s)=4):=by unfold Hid;rw[HS.out,HB.out];rfl
  have hv:Hid (latPV (bl s)=0):=by unfold Hid latPV;rw[h4.out];rfl
  go_wp2
  go_ret2
  exact HP.out _ _ _ h4.out hv.out ⟨_,rfl⟩
 | true =>
  have HB:=Lib.hid hb
  try rw[hb]
  clear hb
  simp only[if_true]
  obtain⟨a,ha⟩:∃a,sgnV (bl s) 83 2=a:=⟨_,rfl⟩
  have HA:=Lib.hid ha
  try rw[ha]
  clear ha
  rcases latB_ways a with ⟨hx,h1,h2⟩|⟨hx,h1|⟨h1,h2⟩⟩
  ·have h4:Hid (latPErr (bl s)=0):=by unfold Hid;rw[HS.out,HB.out,HA.out,hx.out];rfl
   have hv:Hid (latPV (bl s)=a):=by unfold Hid latPV;rw[h4.out];exact HA.out
   go_wp2_with fail
   first
    | (refine(isLat_any a _).mono ?_;rintro e w' ⟨rfl,rfl⟩;rw[hx.out];go_wp2;go_ret2)
    | go_ret2
   exact HP.out _ _ _ h4.out hv.out ⟨_,rfl⟩
  all_goals
   have h4:Hid (latPErr (bl s)=2):=by unfold Hid;rw[HS.out,HB.out,HA.out,hx.out];rfl
   have hv:Hid (latPV (bl s)=0):=by unfold Hid latPV;rw[h4.out];rfl
   go_wp2_with fail
   first
    | (refine(isLat_any a _).mono ?_;rintro e w' ⟨rfl,rfl⟩;rw[hx.out];go_wp2;go_ret2)
    | go_ret2
   exact HP.out _ _ _ h4.out hv.out ⟨_,rfl⟩
set_option maxHeartbeats 1000000 in
theorem parseLon_any (s:ByteArray) (w:World) (hs:s.size≤maxLen):Calls Tryz.prog 360 #[.string s] w (CoordPost (lonPV (bl s)) (lonPErr (bl s)) w):=by
 have HP:Hid (∀(v er:Int) w',lonPErr (bl s)=er→lonPV (bl s)=v→Drawn w w'→CoordPost (lonPV (bl s)) (lonPErr (bl s)) w (.returned (.tuple #[.int .i64 v,.int .i64 er])) w'):=by
  intro v er w' h1 h2 h3;unfold CoordPost;rw[h1,h2];exact⟨rfl,h3⟩
 have HC:=parse_any s 69 87 3 w (by decide) hs
 have HCC:Hid (∀K:Ending→World→Prop,(∀e w',SgnPost (bl s) 69 87 3 w e w'→K e w')→True):=fun _ _=>trivial
 clear HCC
 go_enter Tryz.func360,Tryz.ntmps360
 go_wp2_with fail
 refine HC.mono ?_
 rintro e w' ⟨rfl,k,rfl⟩
 clear HC
 show _
 have HS:Hid (lonPErr (bl s)=if sgnB (bl s) 69 87 3 then (if lonB (sgnV (bl s) 87 3) then 0 else 2) else 4):=rfl
 cases hb:sgnB (bl s) 69 87 3 with
 | false =>
  have HB:=Lib.hid hb
  try rw[hb]
  clear hb
  simp only[Bool.false_eq_true,if_false]
  have h4:Hid (lonPErr (bl s)=4):=by unfold Hid;rw[HS.out,HB.out];rfl
  have hv:Hid (lonPV (bl s)=0):=by unfold Hid lonPV;rw[h4.out];rfl
  go_wp2
  go_ret2
  exact HP.out _ _ _ h4.out hv.out ⟨_,rfl⟩
 | true =>
  have HB:=Lib.hid hb
  try rw[hb]
  clear hb
  simp only[if_true]
  obtain⟨a,ha⟩:∃a,sgnV (bl s) 87 3=a:=⟨_,rfl⟩
  have HA:=Lib.hid ha
  try rw[ha]
  clear ha
  rcases lonB_ways a with ⟨hx,h1,h2⟩|⟨hx,h1|⟨h1,h2⟩⟩
  ·have h4:Hid (lonPErr (bl s)=0):=by unfold Hid;rw[HS.out,HB.out,HA.out,hx.out];rfl
   have hv:Hid (lonPV (bl s)=a):=by unfold Hid lonPV;rw[h4.out];exact HA.out
   go_wp2_with fail
   first
    | (refine(isLon_any a _).mono ?_;rintro e w' ⟨rfl,rfl⟩;rw[hx.out];go_wp2;go_ret2)
    | go_ret2
   exact HP.out _ _ _ h4.out hv.out ⟨_,rfl⟩
  all_goals
   have h4:Hid (lonPErr (bl s)=2):=by unfold Hid;rw[HS.out,HB.out,HA.out,hx.out];rfl
   have hv:Hid (lonPV (bl s)=0):=by unfold Hid lonPV;rw[h4.out];rfl
   go_wp2_with fail
   first
    | (refine(isLon_any a _).mono ?_;rintro e w' ⟨rfl,rfl⟩;rw[hx.out];go_wp2;go_ret2)
    | go_ret2
   exact HP.out _ _ _ h4.out hv.out ⟨_,rfl⟩

def PosPPost (l:List UInt8) (w:World) (e:Ending) (w':World):Prop:=e=.returned (.tuple #[.agg #[.int .i64 (posPLat l),.int .i64 (posPLon l)],.int .i64 (posPErr l)])∧Below w.heap.size w w'
set_option maxHeartbeats 2000000 in
theorem parsePos_any (s:ByteArray) (w:World) (hs:s.size≤maxLen):Calls Tryz.prog 315 #[.string s] w (PosPPost (bl s) w):=by
 unfold maxLen at hs
 have HP:Hid (∀(a b er:Int) w',posPErr (bl s)=er→posPLat (bl s)=a→posPLon (bl s)=b→Below w.heap.size w w'→PosPPost (bl s) w (.returned (.tuple #[.agg #[.int .i64 a,.int .i64 b],.int .i64 er])) w'):=by
  intro a b er w' h1 h2 h3 h4;unfold PosPPost;rw[h1,h2,h3];exact⟨rfl,h4⟩
 have HZ:Hid (posPErr (bl s)≠0→posPLat (bl s)=0∧posPLon (bl s)=0):=by
  intro h;unfold posPLat posPLon;rw[if_neg h,if_neg h];exact⟨rfl,rfl⟩
 by_cases hl:s.size=19
 ·have h19:((s.size:Int) != 19)=false:=bne_eq_false_iff_eq.2 (by omega)
  have h9:9≤s.size:=by omega
  have h9':(9:Int)≤(s.size:Int):=by omega
  have HE:Hid (posPErr (bl s)=if latPErr ((bl s).take 9)=0 then lonPErr ((bl s).drop 9) else latPErr ((bl s).take 9)):=by
   unfold Hid posPErr;rw[if_pos (show(bl s).length=19 from hl)]
  have e1:Hid (bl (s.extract 0 9)=(bl s).take 9):=by unfold Hid;rw[bl_extract];rfl
  have e2:Hid (bl (s.extract 9 s.size)=(bl s).drop 9):=by unfold Hid;rw[bl_extract,List.take_of_length_le (by rw[List.length_drop,bl_len];omega)]
  have HLa:Hid (posPErr (bl s)=0→posPLat (bl s)=latPV ((bl s).take 9)∧posPLon (bl s)=lonPV ((bl s).drop 9)):=by
   intro h;unfold posPLat posPLon;rw[if_pos h,if_pos h];exact⟨rfl,rfl⟩
  clear hl
  go_enter Tryz.func315,Tryz.ntmps315
  go_wp2_with fail
  refine(parseLat_any _ _ (by rw[ByteArray.size_extract];unfold maxLen;omega)).mono ?_
  rintro e w' ⟨rfl,k,rfl⟩
  rw[e1.out]
  obtain⟨ea,hea⟩:∃e,latPErr ((bl s).take 9)=e:=⟨_,rfl⟩
  obtain⟨va,hva⟩:∃v,latPV ((bl s).take 9)=v:=⟨_,rfl⟩
  rw[hea] at HE
  rw[hva] at HLa
  rw[hea,hva]
  clear hea hva
  by_cases h0:ea=0
  ·have e3:(ea != 0)=false:=bne_eq_false_iff_eq.2 h0
   rw[if_pos h0] at HE
   have H0:=Lib.hid h0
   clear h0
   go_wp2_with fail
   refine(parseLon_any _ _ (by rw[ByteArray.size_extract];unfold maxLen;omega)).mono ?_
   rintro e w' ⟨rfl,k2,rfl⟩
   rw[e2.out]
   obtain⟨eb,heb⟩:∃e,lonPErr ((bl s).drop 9)=e:=⟨_,rfl⟩
   obtain⟨vb,hvb⟩:∃v,lonPV ((bl s).drop 9)=v:=⟨_,rfl⟩
   rw[heb] at HE
   rw[hvb] at HLa
   rw[heb,hvb]
   clear heb hvb
   by_cases h0:eb=0
   ·have e4:(eb != 0)=false:=bne_eq_false_iff_eq.2 h0
    have H1:=Lib.hid h0
    clear h0
    have HR:=Lib.hid (HLa.out (HE.out.trans H1.out))
    have HE0:=Lib.hid (HE.out.trans H1.out)
    go_wp2
    exact bodyPost_ret (v:=.tuple #[.agg #[.int .i64 va,.int .i64 vb],.int .i64 0]) (by simp[results,Tryz.results315,go_sem]) rfl (HP.out _ _ _ _ HE0.out HR.out.1 HR.out.2 (by repeat(first|exact Below.refl _ _|refine Below.setCell ?_ (by simp) _|refine below_drewN' ?_ _|refine Below.alloc ?_ (by simp) _)))
   ·have e4:(eb != 0)=true:=bne_iff_ne.2 h0
    have H1:=Lib.hid h0
    have HR:=Lib.hid (HZ.out (by rw[HE.out];exact h0))
    clear h0
    go_wp2
    exact bodyPost_ret (v:=.tuple #[.agg #[.int .i64 0,.int .i64 0],.int .i64 eb]) (by simp[results,Tryz.results315,go_sem]) rfl (HP.out _ _ _ _ HE.out HR.out.1 HR.out.2 (by repeat(first|exact Below.refl _ _|refine Below.setCell ?_ (by simp) _|refine below_drewN' ?_ _|refine Below.alloc ?_ (by simp) _)))
  ·have e3:(ea != 0)=true:=bne_iff_ne.2 h0
   rw[if_neg h0] at HE
   have H0:=Lib.hid h0
   have HR:=Lib.hid (HZ.out (by rw[HE.out];exact h0))
   clear h0
   go_wp2
   exact bodyPost_ret (v:=.tuple #[.agg #[.int .i64 0,.int .i64 0],.int .i64 ea]) (by simp[results,Tryz.results315,go_sem]) rfl (HP.out _ _ _ _ HE.out HR.out.1 HR.out.2 (by repeat(first|exact Below.refl _ _|refine Below.setCell ?_ (by simp) _|refine below_drewN' ?_ _|refine Below.alloc ?_ (by simp) _)))
 ·have h19:((s.size:Int) != 19)=true:=bne_iff_ne.2 (by omega)
  have HE:Hid (posPErr (bl s)=4):=by unfold Hid posPErr;rw[if_neg (show ¬(bl s).length=19 from hl)]
  clear hl
  go_enter Tryz.func315,Tryz.ntmps315
  have HR:=Lib.hid (HZ.out (by rw[HE.out];decide))
  go_wp2
  exact bodyPost_ret (v:=.tuple #[.agg #[.int .i64 0,.int .i64 0],.int .i64 4]) (by simp[results,Tryz.results315,go_sem]) rfl (HP.out _ _ _ _ HE.out HR.out.1 HR.out.2 (by repeat(first|exact Below.refl _ _|refine Below.setCell ?_ (by simp) _|refine below_drewN' ?_ _|refine Below.alloc ?_ (by simp) _)))

theorem ScP.c3 {w:World} {g:Nat} {s:Sc} (h:ScP w g s):w.cell? ⟨g,3,none⟩=some (.int .i64 s.la):=by
 obtain⟨_,v,h,_⟩:=h;exact blkCell h 3 rfl
theorem field_any (s:Sc) (g:Nat) (w:World) (h:ScP w g s) :
  Calls Tryz.prog 256 #[.pointer (some ⟨g,0,none⟩)] w fun e w'=>e=.returned (.string (sb s.text))∧ScPost s.take g w w':=by
 have H:=Lib.hid h
 clear h
 go_enter Tryz.func256,Tryz.ntmps256
 go_wp2_with fail
 refine(take_any s g _ H.out).mono ?_
 rintro e w1 ⟨rfl,hp⟩
 have HP:=Lib.hid hp
 clear hp
 go_wp2
 go_ret
 exact⟨rfl,HP.out⟩
theorem failS_any (s:Sc) (er:Int) (g:Nat) (w:World) (h:ScP w g s) :
  Calls Tryz.prog 259 #[.pointer (some ⟨g,0,none⟩),.int .i64 er] w fun e w'=>e=.returned (.tuple #[])∧ScPost (s.note s.la er) g w w':=by
 have c3:=h.c3
 have H:=Lib.hid h
 clear h
 go_enter Tryz.func259,Tryz.ntmps259
 go_wp2_with fail
 refine(note_any s s.la er g _ H.out).mono ?_
 rintro e w1 ⟨rfl,hp⟩
 have HP:=Lib.hid hp
 clear hp
 go_wp2
 go_end0
 exact⟨rfl,HP.out⟩
def WdR (w:World) (g:Nat) (v:Value) (ws:List (List UInt8)):Prop :=
 ∃A c,v=.slice A ws.length c∧ws.length≤c∧c≤maxLen∧(0<ws.length→∃h o,A=some ⟨h,o,none⟩∧h<w.heap.size∧h≠g∧∀k (hk:k<ws.length),w.cell? ⟨h,o+k,none⟩=some (.string (sb ws[k])))
theorem WdR.off {w w':World} {g:Nat} {v:Value} {ws:List (List UInt8)} (h:WdR w g v ws) (ho:Off g w w'):WdR w' g v ws:=by
 obtain⟨A,c,hv,hc,hm,hr⟩:=h
 refine⟨A,c,hv,hc,hm,fun h0 => ?_⟩
 obtain⟨b,o,hA,hb,hn,hx⟩:=hr h0
 exact⟨b,o,hA,Nat.lt_of_lt_of_le hb ho.size,hn,fun k hk=>(ho.cell hb hn).trans (hx k hk)⟩
theorem WdR.at_ {w:World} {g:Nat} {v:Value} {ws:List (List UInt8)} (h:WdR w g v ws) {k:Nat} (hk:k<ws.length) :
  ∃b o c,v=.slice (some ⟨b,o,none⟩) ws.length c∧w.cell? ⟨b,o+k,none⟩=some (.string (sb ws[k])):=by
 obtain⟨A,c,hv,hc,hm,hr⟩:=h
 obtain⟨b,o,rfl,hb,hn,hx⟩:=hr (by omega)
 exact⟨b,o,c,hv,hx k hk⟩
theorem wordAt_step {ws:List (List UInt8)} {k:Nat} (t:List UInt8) (h:k<ws.length):wordAt (ws.drop k) t k=if ws[k]=t then (k:Int) else wordAt (ws.drop (k+1)) t (k+1):=by
 rw[List.drop_eq_getElem_cons h];rfl
theorem wordAt_end {ws:List (List UInt8)} {k:Nat} (t:List UInt8) (h:ws.length≤k):wordAt (ws.drop k) t k = -1:=by
 rw[List.drop_eq_nil_of_le h];rfl
theorem sb_eq {a b:List UInt8}:((sb a).toList == (sb b).toList)=decide (a=b):=by
 rw[bl_toList,bl_toList,bl_sb,bl_sb,Bool.eq_iff_iff,beq_iff_eq,decide_eq_true_iff]
def wordPost (s:Sc) (ws:List (List UInt8)) (g:Nat) (w:World) (e:Ending) (w':World):Prop:=e=.returned (.int .i64 (s.tv (-1) (fun t=>wordAt ws t 0)))∧ScPost (s.tk (wordE ws)) g w w'
set_option maxRecDepth 100000 in
set_option maxHeartbeats 1000000 in
theorem word_any (s:Sc) (g:Nat) (v:Value) (ws:List (List UInt8)) (w:World) (h:ScP w g s) (hw:WdR w g v ws) :
  Calls Tryz.prog 262 #[.pointer (some ⟨g,0,none⟩),v] w (wordPost s ws g w):=by
 obtain⟨A,c,hv,hc,hm⟩:∃A c,v=.slice A ws.length c∧ws.length≤c∧c≤maxLen:=by
  obtain⟨A,c,hv,hc,hm,_⟩:=hw;exact⟨A,c,hv,hc,hm⟩
 subst hv
 have HFIN:Hid (∀(x:Int) w',s.tv (-1) (fun t=>wordAt ws t 0)=x→ScPost (s.tk (wordE ws)) g w w'→wordPost s ws g w (.returned (.int .i64 x)) w'):=by
  intro x w' h1 h2;unfold wordPost;rw[h1];exact⟨rfl,h2⟩
 unfold maxLen at hm
 have HW:=Lib.hid hw
 have H:=Lib.hid h
 obtain⟨n,hn⟩:∃n,ws.length=n:=⟨_,rfl⟩
 have HN:=Lib.hid hn
 rw[hn] at hc HW ⊢
 clear h hw hn
 cases hg:s.got
 ·have HG:=Lib.hid hg
  have HF1:=Lib.hid (Sc.tv_no hg (-1:Int) (fun t=>wordAt ws t 0))
  have HF2:=Lib.hid (Sc.tk_no hg (wordE ws))
  clear hg
  go_enter Tryz.func262,Tryz.ntmps262
  go_wp2_with fail
  refine(take_any s g _ H.out).mono ?_
  rintro e w1 ⟨rfl,hp⟩
  rw[HG.out]
  have HP:=Lib.hid hp
  clear hp
  go_wp2
  go_ret
  exact HFIN.out _ _ HF1.out (by rw[HF2.out];exact HP.out)
 ·have HG:=Lib.hid hg
  have HF1:=Lib.hid (Sc.tv_got hg (-1:Int) (fun t=>wordAt ws t 0))
  have HF2:=Lib.hid (Sc.tk_got hg (wordE ws))
  obtain⟨t,ht⟩:∃t,s.text=t:=⟨_,rfl⟩
  rw[ht] at HF1 HF2
  have HT:=Lib.hid ht
  clear hg ht
  go_enter Tryz.func262,Tryz.ntmps262
  go_wp2_with fail
  refine(take_any s g _ H.out).mono ?_
  rintro e w1 ⟨rfl,hp⟩
  rw[HG.out,HT.out]
  have HP:=Lib.hid hp
  have HW1:=Lib.hid (HW.out.off hp.2)
  clear hp HW
  go_wp2
  go_loop [7,8,18] (fun _ _ i=>∃k:Nat,k≤n∧i=.int .i64 k∧Hid (wordAt ws t 0=wordAt (ws.drop k) t k)) (fun _ _ i=>n-(intOf i).toNat)
  case atStart=>exact⟨0,Nat.zero_le _,rfl,by unfold Hid;rw[List.drop_zero]⟩
  case round =>
   obtain⟨k,hk,rfl,hx⟩:=hrel
   by_cases hlt:k<n
   ·have hkl:k<ws.length:=by rw[HN.out];exact hlt
    obtain⟨b,o,c',hA,hcell⟩:=HW1.out.at_ hkl
    rw[HN.out] at hA
    simp only[Value.slice.injEq,true_and] at hA
    obtain⟨rfl,rfl⟩:=hA
    have hst:=Lib.hid (wordAt_step t hkl)
    obtain⟨x,hxx⟩:∃x,ws[k]=x:=⟨_,rfl⟩
    rw[hxx] at hcell hst
    have hki:(k:Int)<(n:Int):=by omega
    clear hxx
    by_cases hxt:x=t
    ·have e1:((sb x).toList == (sb t).toList)=true:=by rw[sb_eq,decide_eq_true_iff];exact hxt
     have HV:Hid (wordAt ws t 0=(k:Int)):=by unfold Hid;rw[hx.out,hst.out,if_pos hxt]
     have HE:Hid (s.tk (wordE ws)=s.take):=by
      unfold Hid;rw[HF2.out];unfold wordE;rw[HV.out,if_neg (by omega),Sc.note_zero]
     clear hxt hst hx
     go_wp2
     go_ret
     exact HFIN.out _ _ (by rw[HF1.out,HV.out]) (by rw[HE.out];exact HP.out)
    ·have e1:((sb x).toList == (sb t).toList)=false:=by rw[sb_eq,decide_eq_false_iff_not];exact hxt
     have HV:Hid (wordAt ws t 0=wordAt (ws.drop (k+1)) t (k+1)):=by unfold Hid;rw[hx.out,hst.out,if_neg hxt]
     clear hxt hst hx
     go_wp2
     go_round
     case rel=>exact⟨k+1,hlt,by go_num,HV.out⟩
     case measure=>simp[intOf];omega
   ·have HV:Hid (wordAt ws t 0 = -1):=by unfold Hid;rw[hx.out,wordAt_end t (by rw[HN.out];omega)]
    have HE:Hid (s.tk (wordE ws)=s.take.note s.take.la 4):=by
     unfold Hid;rw[HF2.out];unfold wordE;rw[HV.out,if_pos rfl]
    have c3:=HP.out.1.c3
    have hki:(n:Int)≤(k:Int):=by omega
    clear hx
    go_wp2_with fail
    refine(note_any s.take s.take.la 4 g _ HP.out.1).mono ?_
    rintro e w2 ⟨rfl,hp⟩
    have HP2:=Lib.hid (HP.out.trans hp)
    clear hp
    go_wp2
    go_ret
    exact HFIN.out _ _ (by rw[HF1.out,HV.out]) (by rw[HE.out];exact HP2.out)

theorem text_size {s:Sc} (h:s.text.length≤140737488351232):(sb s.text).size≤140737488351232:=h
end Go.Proofs.YtgmehlgfilpleaaGreatDoor
