/-
  Several texts as one.
-/
import Derived.Test.YtgmehlgfilpleaaGreatDoorMG09
import Derived.Test.YtgmehlgfilpleaaGreatDoorMG14
import Derived.Test.YtgmehlgfilpleaaGreatDoorMG11
import Derived.IntWalk
import Derived.Test.YtgmehlgfilpleaaGreatDoorMG08
import Derived.Test.YtgmehlgfilpleaaGreatDoorMG05
namespace Go.Proofs.YtgmehlgfilpleaaGreatDoor
open Go.RowKit
set_option linter.unusedVariables false
set_option linter.unusedSimpArgs false

theorem ficells_drop:∀(l:List FldI) (k:Nat),ficells (l.drop k)=(ficells l).drop (k*2)
 | [],k=>by simp[ficells]
 | f::l,0=>by simp
 | f::l,k+1=>by
  rw[List.drop_succ_cons,ficells_cons,ficells_drop l k,show(k+1)*2=k*2+1+1 by omega,List.drop_succ_cons,List.drop_succ_cons]
theorem FsR.tx {w:World} {g b o c:Nat} {fs:List FldI} (h:FsR w g (.slice (some ⟨b,o,none⟩) fs.length c) fs) (hg:g≤w.heap.size) {k:Nat} (hk:k<fs.length) :
  TxR w (.slice (some ⟨b,o+k*2,none⟩) (fs.length-k) (c-k)) ((fs.drop k).map (·.1)):=by
 obtain⟨A,c',hv,hc,hm,hf,hr⟩:=h
 obtain⟨b',o',rfl,hb,hx⟩:=hr (by omega)
 simp only[Value.slice.injEq,Option.some.injEq,Addr.mk.injEq,true_and,and_true] at hv
 obtain⟨⟨rfl,rfl⟩,rfl⟩:=hv
 have hl:((fs.drop k).map (·.1)).length=fs.length-k:=by rw[List.length_map,List.length_drop]
 refine⟨ficells (fs.drop k),⟨by rw[ficells_len,hl,List.length_drop],_,_,by rw[hl],by rw[hl];omega,by omega,fun _=>⟨b,o+k*2,rfl,by omega,fun j u hu => ?_⟩⟩,fun j hj => ?_⟩
 ·rw[ficells_drop,List.getElem?_drop] at hu
  have:=hx _ _ hu
  rwa [←Nat.add_assoc] at this
 ·rw[hl] at hj
  have:=ficells_at (fs.drop k) j (by rw[List.length_drop];exact hj)
  rw[List.getElem_map]
  exact⟨this.1,_,this.2⟩

/-- a record: its number, its fields -/
abbrev Ln := Int × List FldI
def airW : List (List UInt8) := [[65, 73, 82, 87, 65, 89]]
def viaW : List (List UInt8) := [[86, 73, 65]]
def dirW : List (List UInt8) := [[66, 79, 84, 72], [70, 79, 82, 87, 65, 82, 68], [66, 65, 67, 75, 87, 65, 82, 68]]
/-- the name of an airway's first record -/
def hd1 (x : Ln) : Sc := (scan0 x.1 x.2).tk (wordE airW)
def hd2 (x : Ln) : Sc := (hd1 x).tk (nameSE 8)
def hdNm (x : Ln) : List UInt8 := (hd1 x).tv [] (nameSV 8)
/-- the point of another record -/
def via1 (x : Ln) : Sc := (scan0 x.1 x.2).tk (wordE viaW)
def via2 (x : Ln) : Sc := (via1 x).take
def via3 (x : Ln) : Sc := if refErr (via1 x).text = 0 then via2 x else (via2 x).note (via2 x).la 5
def via4 (x : Ln) : Sc := (via3 x).tk winSEr
def via5 (x : Ln) : Sc := (via4 x).tk (wordE dirW)
def viaS (x : Ln) (last : Bool) : Sc := if last then via3 x else via5 x
def viaDir (x : Ln) : Int := (via4 x).tv (-1) (fun t => wordAt dirW t 0)
def viaP (x : Ln) (last : Bool) : Pt := if last then ⟨(via1 x).text, -200000, 6000000, 0⟩ else ⟨(via1 x).text, (via3 x).tv 0 winSLo, (via3 x).tv 0 winSHi, (viaDir x % 256).toNat⟩
/-- what Take answers: the name, the points, the diagnostic, whether there is one -/
structure TkO where
  nm : List UInt8
  pts : List Pt
  dl : Int
  dc : Int
  de : Int
  bad : Bool
def tkBad (s : Sc) : TkO := ⟨[], [], s.endL, s.endC, s.endE, true⟩
/-- the points of the records from place k on; done: those ahead -/
def ptsGo (nm : List UInt8) (l0 c0 : Int) (done : List Pt) : List Ln → TkO
  | [] => if chkA nm done = 0 then ⟨nm, done, 0, 0, 0, false⟩ else ⟨[], [], l0, c0, chkA nm done, true⟩
  | x :: r => if (viaS x r.isEmpty).endB then tkBad (viaS x r.isEmpty) else ptsGo nm l0 c0 (done ++ [viaP x r.isEmpty]) r
def takeO : List Ln → TkO
  | [] => ⟨[], [], 1, 1, 4, true⟩
  | x :: r => if (hd2 x).endB then tkBad (hd2 x) else ptsGo (hdNm x) x.1 (fld x.2 0).2 [] r
theorem ptsGo_step (nm : List UInt8) (l0 c0 : Int) (done : List Pt) {L : List Ln} {k : Nat} (h : k < L.length) :
    ptsGo nm l0 c0 done (L.drop k) = if (viaS L[k] (decide (L.length ≤ k + 1))).endB then tkBad (viaS L[k] (decide (L.length ≤ k + 1))) else ptsGo nm l0 c0 (done ++ [viaP L[k] (decide (L.length ≤ k + 1))]) (L.drop (k + 1)) := by
  rw [List.drop_eq_getElem_cons h]
  have e : (L.drop (k + 1)).isEmpty = decide (L.length ≤ k + 1) := by
    rw [Bool.eq_iff_iff, List.isEmpty_iff, List.drop_eq_nil_iff, decide_eq_true_iff]
  rw [← e]; rfl
theorem ptsGo_end (nm : List UInt8) (l0 c0 : Int) (done : List Pt) {L : List Ln} {k : Nat} (h : L.length ≤ k) :
    ptsGo nm l0 c0 done (L.drop k) = if chkA nm done = 0 then ⟨nm, done, 0, 0, 0, false⟩ else ⟨[], [], l0, c0, chkA nm done, true⟩ := by
  rw [List.drop_eq_nil_of_le h]; rfl
/-- records whose parts fit -/
def LnOk (x : Ln) : Prop := x.2.length ≤ 5864062014634 ∧ ∀ f ∈ x.2, f.1.length ≤ 140737488351232
/-- records in memory -/
def LnsR (w : World) (v : Value) (L : List Ln) : Prop :=
  ∃ A c, v = .slice A L.length c ∧ L.length ≤ c ∧ c ≤ maxLen ∧ (∀ x ∈ L, LnOk x) ∧ (0 < L.length → ∃ g o, A = some ⟨g, o, none⟩ ∧ g < w.heap.size ∧
    ∀ k (h : k < L.length), ∃ fv, w.cell? ⟨g, o + k * 2, none⟩ = some (.int .i64 L[k].1) ∧ w.cell? ⟨g, o + k * 2 + 1, none⟩ = some fv ∧ FsR w w.heap.size fv L[k].2)
theorem FsR.grow' {w w' : World} {v : Value} {fs : List FldI} (h : FsR w w.heap.size v fs) (hb : Below w.heap.size w w') : FsR w' w'.heap.size v fs :=
  (h.keep fun k hk => hb.block k hk).mono hb.size
theorem LnsR.below {w w' : World} {v : Value} {L : List Ln} (h : LnsR w v L) (hb : Below w.heap.size w w') : LnsR w' v L := by
  obtain ⟨A, c, hv, hc, hm, hk, hr⟩ := h
  refine ⟨A, c, hv, hc, hm, hk, fun h0 => ?_⟩
  obtain ⟨g, o, hA, hg, hx⟩ := hr h0
  refine ⟨g, o, hA, Nat.lt_of_lt_of_le hg hb.size, fun k hk => ?_⟩
  obtain ⟨fv, h1, h2, h3⟩ := hx k hk
  exact ⟨fv, (hb.cell (p := ⟨g, o + k * 2, none⟩) hg).trans h1, (hb.cell (p := ⟨g, o + k * 2 + 1, none⟩) hg).trans h2, h3.grow' hb⟩
theorem LnsR.form {w : World} {v : Value} {L : List Ln} (h : LnsR w v L) : ∃ A c, v = .slice A L.length c ∧ L.length ≤ c ∧ c ≤ maxLen := by
  obtain ⟨A, c, hv, hc, hm, _⟩ := h; exact ⟨A, c, hv, hc, hm⟩
theorem LnsR.at_ {w : World} {v : Value} {L : List Ln} (h : LnsR w v L) {k : Nat} (hk : k < L.length) :
    ∃ g o c fv, v = .slice (some ⟨g, o, none⟩) L.length c ∧ g < w.heap.size ∧ w.cell? ⟨g, o + k * 2, none⟩ = some (.int .i64 L[k].1) ∧ w.cell? ⟨g, o + k * 2 + 1, none⟩ = some fv ∧ FsR w w.heap.size fv L[k].2 ∧ LnOk L[k] := by
  obtain ⟨A, c, hv, hc, hm, hok, hr⟩ := h
  obtain ⟨g, o, rfl, hg, hx⟩ := hr (by omega)
  obtain ⟨fv, h1, h2, h3⟩ := hx k hk
  exact ⟨g, o, c, fv, hv, hg, h1, h2, h3, hok _ (List.getElem_mem hk)⟩
theorem LnOk.text {s : Sc} (h : ∀ f ∈ s.fs, f.1.length ≤ 140737488351232) : s.text.length ≤ 140737488351232 := by
  unfold Sc.text
  split
  · unfold fld
    rcases Nat.lt_or_ge s.nx s.fs.length with h1 | h1
    · rw [List.getD_eq_getElem?_getD, List.getElem?_eq_getElem h1]
      simp only [Option.getD_some]; exact h _ (List.getElem_mem h1)
    · rw [List.getD_eq_getElem?_getD, List.getElem?_eq_none h1]; simp
  · simp
theorem tk_fsT (s : Sc) (er : List UInt8 → Int) : (s.tk er).fs = s.fs := by
  unfold Sc.tk; split
  · rw [Sc.note_fs, Sc.take_fs]
  · rw [Sc.take_fs]
theorem via1_fs (x : Ln) : (via1 x).fs = x.2 := by unfold via1; rw [tk_fsT]; rfl
theorem via2_fs (x : Ln) : (via2 x).fs = x.2 := by unfold via2; rw [Sc.take_fs, via1_fs]
theorem via3_fs (x : Ln) : (via3 x).fs = x.2 := by unfold via3; split
                                                   · exact via2_fs x
                                                   · rw [Sc.note_fs, via2_fs]
theorem hd1_fs (x : Ln) : (hd1 x).fs = x.2 := by unfold hd1; rw [tk_fsT]; rfl

set_option maxHeartbeats 1000000 in
theorem words3_any (w:World):Calls Tryz.prog 176 #[] w fun e w'=>e=.returned (.slice (some ⟨w.heap.size,0,none⟩) 3 3)∧w'=w.alloc (.cells #[.string ⟨#[66,79,84,72]⟩,.string ⟨#[70,79,82,87,65,82,68]⟩,.string ⟨#[66,65,67,75,87,65,82,68]⟩] 9):=by
 go_enter Tryz.func176,Tryz.ntmps176
 go_wp2
 go_ret
 exact⟨rfl,rfl⟩
def PtBk (w:World) (b:Nat) (p:Pt):Prop:=w.heap[b]? = some (.cells #[.string (sb p.ref),.int .i64 p.lo,.int .i64 p.hi,.int .u8 (p.dir:Int)] 53 (0,0))
def DgT (w:World) (b:Nat) (x y z:Int):Prop:=w.heap[b]? = some (.cells #[.int .i64 x,.int .i64 y,.int .i64 z] 89 (0,0))
theorem heap_lt2 {w:World} {b:Nat} {o:Obj} (h:w.heap[b]? = some o):b<w.heap.size:=(Array.getElem?_eq_some_iff.1 h).1
theorem PtBk.cells {w:World} {b:Nat} {p:Pt} (h:PtBk w b p):w.cell? ⟨b,0,none⟩=some (.string (sb p.ref))∧w.cell? ⟨b,1,none⟩=some (.int .i64 p.lo)∧w.cell? ⟨b,2,none⟩=some (.int .i64 p.hi)∧w.cell? ⟨b,3,none⟩=some (.int .u8 (p.dir:Int))∧b<w.heap.size :=
 ⟨blkCell h 0 rfl,blkCell h 1 rfl,blkCell h 2 rfl,blkCell h 3 rfl,heap_lt2 h⟩
theorem PtBk.frees {w:World} {b:Nat} {p:Pt} (h:PtBk w b p):w.frozen? ⟨b,0,none⟩=false∧w.frozen? ⟨b,1,none⟩=false∧w.frozen? ⟨b,2,none⟩=false∧w.frozen? ⟨b,3,none⟩=false :=
 ⟨blkFree h 0,blkFree h 1,blkFree h 2,blkFree h 3⟩
theorem DgT.cells {w:World} {b:Nat} {x y z:Int} (h:DgT w b x y z):w.cell? ⟨b,0,none⟩=some (.int .i64 x)∧w.cell? ⟨b,1,none⟩=some (.int .i64 y)∧w.cell? ⟨b,2,none⟩=some (.int .i64 z)∧b<w.heap.size :=
 ⟨blkCell h 0 rfl,blkCell h 1 rfl,blkCell h 2 rfl,heap_lt2 h⟩
theorem DgT.frees {w:World} {b:Nat} {x y z:Int} (h:DgT w b x y z):w.frozen? ⟨b,0,none⟩=false∧w.frozen? ⟨b,1,none⟩=false∧w.frozen? ⟨b,2,none⟩=false :=
 ⟨blkFree h 0,blkFree h 1,blkFree h 2⟩
def pt0:Pt:=⟨[],0,0,0⟩
structure PkR (P:World→Nat→Sc→Prop) (w0:World) (g bp:Nat) (s:Sc) (p:Pt) (w:World):Prop where
 sc:P w g s
 bx:PtBk w bp p
 r1:PtBk w (w0.heap.size+1) pt0
 r2:DgT w (w0.heap.size+2) 0 0 0
 gb:g<bp
 lo:w0.heap.size+3≤g
 be:Below w0.heap.size w0 w
theorem PkR.call {P:World→Nat→Sc→Prop} {w0 w w':World} {g bp:Nat} {s s':Sc} {p:Pt} (h:PkR P w0 g bp s p w) (hs:P w' g s') (ho:Off g w w'):PkR P w0 g bp s' p w':=by
 have l1:=heap_lt2 h.bx
 have l2:=heap_lt2 h.r1
 have l3:=heap_lt2 h.r2
 have gb:=h.gb
 have lo:=h.lo
 exact⟨hs,(ho.block bp l1 (by intro e;injection e with e;omega)).trans h.bx,(ho.block _ l2 (by intro e;injection e with e;omega)).trans h.r1,(ho.block _ l3 (by intro e;injection e with e;omega)).trans h.r2,gb,lo,ho.below h.be (by omega) (by omega)⟩
theorem PkR.pthen {w0 w w':World} {g bp:Nat} {s:Sc} {p:Pt} (h:PkR ScP w0 g bp s p w) (hb:Below w.heap.size w w'):PkR ScP w0 g bp s p w':=h.call (h.sc.below hb) (Off.of_below hb)
theorem PkR.palloc {w0 w:World} {g bp:Nat} {s:Sc} {p:Pt} (h:PkR ScP w0 g bp s p w) (o:Obj):PkR ScP w0 g bp s p (w.alloc o):=h.pthen ((Below.refl _ _).alloc (Nat.le_refl _) o)
theorem PkR.pset {w0 w:World} {g bp:Nat} {s:Sc} {p p':Pt} (h:PkR ScP w0 g bp s p w) {j:Nat} {u:Value}
  (hx:(#[.string (sb p.ref),.int .i64 p.lo,.int .i64 p.hi,.int .u8 (p.dir:Int)]:Array Value).setIfInBounds j u = #[.string (sb p'.ref),.int .i64 p'.lo,.int .i64 p'.hi,.int .u8 (p'.dir:Int)]):PkR ScP w0 g bp s p' (w.setCell ⟨bp,j,none⟩ u):=by
 have gb:=h.gb
 have lo:=h.lo
 have ho:∀k,k≠bp→(w.setCell ⟨bp,j,none⟩ u).heap[k]? = w.heap[k]? := fun k hk=>heap_setCell_other w ⟨bp,j,none⟩ k u (fun e=>hk (by simpa using e))
 refine⟨h.sc.keep fun k hk=>ho k (by omega),?_,(ho _ (by omega)).trans h.r1,(ho _ (by omega)).trans h.r2,gb,lo,h.be.setCell (by simp;omega) _⟩
 unfold PtBk
 rw[heap_setCell_same w bp j _ _ _ h.bx,hx]
theorem alloc3a (w:World) (o1 o2 o3:Obj):(((w.alloc o1).alloc o2).alloc o3).heap[w.heap.size+1]? = some o2∧(((w.alloc o1).alloc o2).alloc o3).heap[w.heap.size+2]? = some o3:=by
 have h2:=heap_alloc_new (w.alloc o1) o2
 have h3:=heap_alloc_new ((w.alloc o1).alloc o2) o3
 simp only[World.size_alloc] at h2 h3
 exact⟨(((Below.refl _ _).alloc (Nat.le_refl _) o3).block (w.heap.size+1) (by simp)).trans h2,h3⟩
theorem wdr1 (w:World) (g:Nat) (t:ByteArray) (hg:g<w.heap.size):WdR (w.alloc (.cells #[.string t] 9)) g (.slice (some ⟨w.heap.size,0,none⟩) 1 1) [bl t]:=by
 refine⟨_,_,rfl,Nat.le_refl _,by unfold maxLen;decide,fun _=>⟨w.heap.size,0,rfl,by simp,by omega,fun k hk => ?_⟩⟩
 match k,hk with
 | 0,_=>simp[go_sem,sb_bl]
theorem wdr3 (w:World) (g:Nat) (hg:g<w.heap.size):WdR (w.alloc (.cells #[.string ⟨#[66,79,84,72]⟩,.string ⟨#[70,79,82,87,65,82,68]⟩,.string ⟨#[66,65,67,75,87,65,82,68]⟩] 9)) g (.slice (some ⟨w.heap.size,0,none⟩) 3 3) dirW:=by
 refine⟨_,_,rfl,Nat.le_refl _,by unfold maxLen;decide,fun _=>⟨w.heap.size,0,rfl,by simp,by omega,fun k hk => ?_⟩⟩
 match k,hk with
 | 0,_=>simp[go_sem];rfl
 | 1,_=>simp[go_sem];rfl
 | 2,_=>simp[go_sem];rfl
theorem dirAt_ways (t:List UInt8):wordAt dirW t 0 = -1∨wordAt dirW t 0=0∨wordAt dirW t 0=1∨wordAt dirW t 0=2:=by
 have e:wordAt dirW t 0=if [66,79,84,72]=t then 0 else if [70,79,82,87,65,82,68]=t then 1 else if [66,65,67,75,87,65,82,68]=t then 2 else -1:=rfl
 rw[e]
 by_cases h1:[66,79,84,72]=t
 ·rw[if_pos h1];exact .inr (.inl rfl)
 ·rw[if_neg h1]
  by_cases h2:[70,79,82,87,65,82,68]=t
  ·rw[if_pos h2];exact .inr (.inr (.inl rfl))
  ·rw[if_neg h2]
   by_cases h3:[66,65,67,75,87,65,82,68]=t
   ·rw[if_pos h3];exact .inr (.inr (.inr rfl))
   ·rw[if_neg h3];exact .inl rfl
theorem dir_ways (x:Ln):viaDir x = -1∨viaDir x=0∨viaDir x=1∨viaDir x=2:=by
 unfold viaDir Sc.tv
 split
 ·exact dirAt_ways _
 ·exact .inl rfl
theorem dir_nat (x:Ln):(((viaDir x%256).toNat:Nat):Int)=viaDir x%256∧0≤viaDir x%256∧viaDir x%256<256 ∧ -1≤viaDir x∧viaDir x≤2:=by
 rcases dir_ways x with h|h|h|h <;> rw[h] <;> decide
def PtPost (x:Ln) (last:Bool) (w:World) (e:Ending) (w':World):Prop :=
 e=.returned (.tuple #[.agg #[.string (sb (viaP x last).ref),.int .i64 (viaP x last).lo,.int .i64 (viaP x last).hi,.int .u8 ((viaP x last).dir:Int)],.agg #[.int .i64 (viaS x last).endL,.int .i64 (viaS x last).endC,.int .i64 (viaS x last).endE],.bool (viaS x last).endB])∧Below w.heap.size w w'
theorem ptPost_mk {x:Ln} {last:Bool} {w w':World} {r:List UInt8} {lo hi:Int} {d:Int} {a b c:Int} {f:Bool} (h1:(viaP x last).ref=r) (h2:(viaP x last).lo=lo) (h3:(viaP x last).hi=hi) (h4:((viaP x last).dir:Int)=d)
  (h5:(viaS x last).endL=a) (h6:(viaS x last).endC=b) (h7:(viaS x last).endE=c) (h8:(viaS x last).endB=f) (h:Below w.heap.size w w') :
  PtPost x last w (.returned (.tuple #[.agg #[.string (sb r),.int .i64 lo,.int .i64 hi,.int .u8 d],.agg #[.int .i64 a,.int .i64 b,.int .i64 c],.bool f])) w':=by
 subst h1 h2 h3 h4 h5 h6 h7 h8;exact⟨rfl,h⟩
set_option maxRecDepth 100000 in
set_option maxHeartbeats 4000000 in
theorem takePoint_any (x:Ln) (last:Bool) (v:Value) (w:World) (E:Env w) (h:FsR w w.heap.size v x.2) (hok:LnOk x) :
  Calls Tryz.prog 320 #[.agg #[.int .i64 x.1,v],.bool last] w (PtPost x last w):=by
 have H0:=Lib.hid (fun o1 o2 o3=>h.grow' ((((Below.refl w.heap.size w).alloc (Nat.le_refl _) o1).alloc (by simp) o2).alloc (by simp;omega) o3))
 obtain⟨A,c,rfl,hc,hm⟩:=fld_le h
 obtain⟨n,hnn⟩:∃n,x.2.length=n:=⟨_,rfl⟩
 rw[hnn] at hc H0 ⊢
 have HOK:=Lib.hid hok
 clear h hnn hok
 obtain⟨num,hnum⟩:∃a,x.1=a:=⟨_,rfl⟩
 have HNUM:=Lib.hid hnum
 rw[hnum]
 clear hnum
 go_enter Tryz.func320,Tryz.ntmps320
 go_wp2_with fail
 refine(scan_any num _ x.2 _ (H0.out _ _ _) HOK.out.1).mono ?_
 rintro e w1 ⟨g,rfl,hg,hsc,hb1⟩
 simp only[World.size_alloc] at hg
 have HB1:Hid (Below w.heap.size w w1):=((((Below.refl w.heap.size w).alloc (Nat.le_refl _) _).alloc (by simp) _).alloc (by simp;omega) _).trans (hb1.mono (by simp;omega))
 have R1:Hid (PtBk w1 (w.heap.size+1) pt0):=(hb1.block _ (by simp)).trans (alloc3a w _ _ _).1
 have R2:Hid (DgT w1 (w.heap.size+2) 0 0 0):=(hb1.block _ (by simp)).trans (alloc3a w _ _ _).2
 have hgl:=hsc.lt
 have HSC:Hid (ScP w1 g (scan0 x.1 x.2)):=by unfold Hid;rw[HNUM.out];exact hsc
 clear hb1 hsc
 go_wp2_with fail
 refine(free_any _).mono ?_
 rintro e w2 ⟨rfl,rfl⟩
 have KF:Hid (Below w1.heap.size w1 (w1.alloc (.cells #[.int .i64 (-200000),.int .i64 6000000] 51))):=(Below.refl _ _).alloc (Nat.le_refl _) _
 have HSC:=Lib.hid (HSC.out.below KF.out)
 have R1:Hid (PtBk (w1.alloc (.cells #[.int .i64 (-200000),.int .i64 6000000] 51)) (w.heap.size+1) pt0):=(KF.out.block _ (heap_lt2 R1.out)).trans R1.out
 have R2:Hid (DgT (w1.alloc (.cells #[.int .i64 (-200000),.int .i64 6000000] 51)) (w.heap.size+2) 0 0 0):=(KF.out.block _ (heap_lt2 R2.out)).trans R2.out
 have HB1:=Lib.hid (Below.then_ HB1.out KF.out)
 clear KF hgl
 obtain⟨wf,hwf⟩:∃wf,w1.alloc (.cells #[.int .i64 (-200000),.int .i64 6000000] 51)=wf:=⟨_,rfl⟩
 rw[hwf] at HSC R1 R2 HB1 ⊢
 clear hwf
 have hgl:=HSC.out.lt
 obtain⟨bp,hbp⟩:∃b,wf.heap.size=b:=⟨_,rfl⟩
 have T0:Hid (PkR ScP w g bp (scan0 x.1 x.2) ⟨[],-200000,6000000,0⟩ (wf.alloc (.cells #[.string (sb []),.int .i64 (-200000),.int .i64 6000000,.int .u8 0] 53))):=by
  have hb:Below wf.heap.size wf (wf.alloc (.cells #[.string (sb []),.int .i64 (-200000),.int .i64 6000000,.int .u8 0] 53)):=(Below.refl _ _).alloc (Nat.le_refl _) _
  exact⟨HSC.out.below hb,by rw[←hbp];exact heap_alloc_new wf _,(hb.block _ (heap_lt2 R1.out)).trans R1.out,(hb.block _ (heap_lt2 R2.out)).trans R2.out,by omega,by omega,Below.then_ HB1.out hb⟩
 have T0w:=Lib.hid (T0.out.palloc (.cells #[.string ⟨#[86,73,65]⟩] 9))
 have HWD:=Lib.hid (wdr1 (wf.alloc (.cells #[.string (sb []),.int .i64 (-200000),.int .i64 6000000,.int .u8 0] 53)) g ⟨#[86,73,65]⟩ T0.out.sc.lt)
 have HBP:Hid (wf.heap.size=bp):=hbp
 have hs1:(wf.alloc (.cells #[.string (sb []),.int .i64 (-200000),.int .i64 6000000,.int .u8 0] 53)).heap.size=bp+1:=by rw[World.size_alloc,hbp]
 rw[hs1] at HWD
 clear hbp hs1 T0
 go_wp2_with fail
 rw[HBP.out]
 refine(word_any (scan0 x.1 x.2) g _ viaW _ T0w.out.sc HWD.out).mono ?_
 rintro e w3 ⟨rfl,hp⟩
 have T1:Hid (PkR ScP w g bp (via1 x) ⟨[],-200000,6000000,0⟩ w3):=T0w.out.call hp.1 hp.2
 clear hp T0w HWD
 go_wp2_with fail
 refine(field_any (via1 x) g _ T1.out.sc).mono ?_
 rintro e w4 ⟨rfl,hp⟩
 have T2:Hid (PkR ScP w g bp (via2 x) ⟨[],-200000,6000000,0⟩ w4):=T1.out.call hp.1 hp.2
 have LT:Hid ((via1 x).text.length≤140737488351232):=LnOk.text (by rw[via1_fs];exact HOK.out.2)
 obtain⟨tx,htx⟩:∃t,(via1 x).text=t:=⟨_,rfl⟩
 rw[htx] at LT ⊢
 have HTX:=Lib.hid htx
 have T3:Hid (PkR ScP w g bp (via2 x) ⟨tx,-200000,6000000,0⟩ (w4.setCell ⟨bp,0,none⟩ (.string (sb tx)))):=T2.out.pset rfl
 obtain⟨c0,c1,c2,c3,c4⟩:=T2.out.bx.cells
 obtain⟨f0,f1,f2,f3⟩:=T2.out.bx.frees
 clear hp htx T1 T2
 go_wp2_with fail
 refine(splitRef_any (sb tx) _ (by have:=LT.out;unfold maxLen;show tx.length≤_;omega)).mono ?_
 rintro e w5 ⟨a,b,rfl,_,_,_,_,hd⟩
 rw[bl_sb]
 have T4:=Lib.hid (T3.out.pthen hd.below)
 clear hd T3 c0 c1 c2 c3 c4 f0 f1 f2 f3
 obtain⟨er,her⟩:∃x,refErr tx=x:=⟨_,rfl⟩
 rw[her]
 have HER:=Lib.hid her
 clear her
 have E5:=E.below T4.out.be
 go_upto_if 32 with (fail)
 go_cut [34] (fun _ wx=>Hid (PkR ScP w g bp (via3 x) ⟨tx,-200000,6000000,0⟩ wx))
 case first =>
  by_cases h0:er=0
  ·have e1:(er != 0)=false:=bne_eq_false_iff_eq.2 h0
   have HS:Hid (via3 x=via2 x):=by unfold Hid via3;rw[HTX.out,HER.out,if_pos h0]
   clear h0
   go_wp2
   go_meet
   unfold Hid;rw[HS.out];exact T4.out
  ·have e1:(er != 0)=true:=bne_iff_ne.2 h0
   have HS:Hid (via3 x=(via2 x).note (via2 x).la 5):=by unfold Hid via3;rw[HTX.out,HER.out,if_neg h0]
   clear h0
   go_wp2_with fail
   refine(failS_any (via2 x) 5 g _ T4.out.sc).mono ?_
   rintro e w6 ⟨rfl,hp⟩
   have T5:=Lib.hid (T4.out.call hp.1 hp.2)
   clear hp
   go_wp2
   go_meet
   unfold Hid;rw[HS.out];exact T5.out
 case rest =>
  have T6:=hcut
  have E6:=E.below T6.out.be
  have hgn:12≤g:=by have:=E.size;have:=T6.out.lo;omega
  have LT3:Hid ((via3 x).text.length≤140737488351232):=LnOk.text (by rw[via3_fs];exact HOK.out.2)
  go_upto_if 36 with (fail)
  go_cut [44] (fun _ wx=>Hid (PkR ScP w g bp (viaS x last) (viaP x last) wx))
  case first =>
   cases last
   ·go_wp2_with fail
    refine(winS_any (via3 x) g _ E6 hgn LT3.out T6.out.sc).mono ?_
    rintro e w7 ⟨rfl,hp⟩
    have T7:Hid (PkR ScP w g bp (via4 x) ⟨tx,-200000,6000000,0⟩ w7):=T6.out.call hp.1 hp.2
    obtain⟨lo,hlo⟩:∃y,(via3 x).tv 0 winSLo=y:=⟨_,rfl⟩
    obtain⟨hi,hhi⟩:∃y,(via3 x).tv 0 winSHi=y:=⟨_,rfl⟩
    rw[hlo,hhi]
    have T8:Hid (PkR ScP w g bp (via4 x) ⟨tx,lo,hi,0⟩ ((w7.setCell ⟨bp,1,none⟩ (.int .i64 lo)).setCell ⟨bp,2,none⟩ (.int .i64 hi))) :=
     (T7.out.pset (p':=⟨tx,lo,6000000,0⟩) rfl).pset rfl
    have HLO:=Lib.hid hlo
    have HHI:=Lib.hid hhi
    obtain⟨c0,c1,c2,c3,c4⟩:=T7.out.bx.cells
    obtain⟨f0,f1,f2,f3⟩:=T7.out.bx.frees
    clear hp hlo hhi T7
    go_wp2_with fail
    refine(words3_any _).mono ?_
    rintro e w8 ⟨rfl,rfl⟩
    have HWD:=Lib.hid (wdr3 _ g T8.out.sc.lt)
    have T9:=Lib.hid (T8.out.palloc (.cells #[.string ⟨#[66,79,84,72]⟩,.string ⟨#[70,79,82,87,65,82,68]⟩,.string ⟨#[66,65,67,75,87,65,82,68]⟩] 9))
    have hsz:((w7.setCell ⟨bp,1,none⟩ (.int .i64 lo)).setCell ⟨bp,2,none⟩ (.int .i64 hi)).heap.size=w7.heap.size:=by simp
    rw[hsz] at HWD
    clear T8 c0 c1 c2 c3 c4 f0 f1 f2 f3 hsz
    go_wp2_with fail
    refine(word_any (via4 x) g _ dirW _ T9.out.sc HWD.out).mono ?_
    rintro e w8 ⟨rfl,hp⟩
    have T10:Hid (PkR ScP w g bp (via5 x) ⟨tx,lo,hi,0⟩ w8):=T9.out.call hp.1 hp.2
    obtain⟨hd1,hd2,hd3,hd4,hd5⟩:=dir_nat x
    have HVD:Hid ((via4 x).tv (-1) (fun t=>wordAt dirW t 0)=viaDir x):=rfl
    rw[HVD.out]
    obtain⟨d,hd⟩:∃d,viaDir x=d:=⟨_,rfl⟩
    rw[hd] at hd1 hd2 hd3 hd4 hd5 ⊢
    have HD1:=Lib.hid hd1
    have HD:=Lib.hid hd
    have T11:Hid (PkR ScP w g bp (via5 x) ⟨tx,lo,hi,(d%256).toNat⟩ (w8.setCell ⟨bp,3,none⟩ (.int .u8 (d%256)))):=T10.out.pset (by rw[HD1.out];rfl)
    have HPT:Hid (viaP x false=⟨tx,lo,hi,(d%256).toNat⟩):=by unfold Hid viaP;rw[if_neg (by decide),HTX.out,HLO.out,HHI.out,HD.out]
    obtain⟨c0,c1,c2,c3,c4⟩:=T10.out.bx.cells
    obtain⟨f0,f1,f2,f3⟩:=T10.out.bx.frees
    have hwr:IntKind.u8.wrap d=d%256:=by simp[IntKind.wrap,IntKind.bits,IntKind.signed]
    clear hp T9 HWD T10 hd hd1
    go_wp2
    go_meet
    unfold Hid;rw[HPT.out];exact T11.out
   ·have HPT:Hid (viaP x true=⟨tx,-200000,6000000,0⟩):=by unfold Hid viaP;rw[if_pos rfl,HTX.out]
    go_wp2
    go_meet
    unfold Hid;rw[HPT.out];exact T6.out
  case rest =>
   have T7:=hcut
   obtain⟨S,hS⟩:∃S,viaS x last=S:=⟨_,rfl⟩
   obtain⟨P,hP⟩:∃P,viaP x last=P:=⟨_,rfl⟩
   rw[hS,hP] at T7
   have HS:=Lib.hid hS
   have HP:=Lib.hid hP
   clear hS hP
   go_wp2_with fail
   refine(endS_any S g _ T7.out.sc).mono ?_
   rintro e w8 ⟨rfl,hb⟩
   have T8:=Lib.hid (T7.out.pthen hb)
   clear hb
   obtain⟨el,hel⟩:∃x,S.endL=x:=⟨_,rfl⟩
   obtain⟨ec,hec⟩:∃x,S.endC=x:=⟨_,rfl⟩
   obtain⟨ee,hee⟩:∃x,S.endE=x:=⟨_,rfl⟩
   obtain⟨eb,heb⟩:∃x,S.endB=x:=⟨_,rfl⟩
   rw[hel,hec,hee,heb]
   have HEL:=Lib.hid hel
   have HEC:=Lib.hid hec
   have HEE:=Lib.hid hee
   have HEB:=Lib.hid heb
   clear hel hec hee heb
   obtain⟨c0,c1,c2,c3,c4⟩:=T8.out.bx.cells
   obtain⟨r0,r1,r2,r3,r4⟩:=T8.out.r1.cells
   obtain⟨q0,q1,q2,q3⟩:=T8.out.r1.frees
   obtain⟨d0,d1,d2,d3⟩:=T8.out.r2.cells
   obtain⟨e0,e1,e2⟩:=T8.out.r2.frees
   have hlo:=T8.out.lo
   have hgb:=T8.out.gb
   have hb1:w.heap.size+1<bp:=by omega
   have hb2:w.heap.size+2<bp:=by omega
   have HBE:=Lib.hid T8.out.be
   clear hlo hgb
   go_wp2
   go_region
   go_wp2
   exact bodyPost_ret (v:=.tuple #[.agg #[.string (sb P.ref),.int .i64 P.lo,.int .i64 P.hi,.int .u8 (P.dir:Int)],.agg #[.int .i64 el,.int .i64 ec,.int .i64 ee],.bool eb]) (by simp[results,Tryz.results320,go_sem,r0,r1,r2,r3,r4,d0,d1,d2,d3]) rfl (ptPost_mk (by rw[HP.out]) (by rw[HP.out]) (by rw[HP.out]) (by rw[HP.out]) (by rw[HS.out];exact HEL.out) (by rw[HS.out];exact HEC.out) (by rw[HS.out];exact HEE.out) (by rw[HS.out];exact HEB.out) (by repeat(with_reducible first|exact HBE.out|refine Below.setCell ?_ (by simp;try omega) _|refine Below.drew ?_|refine below_drewN' ?_ _|refine Below.alloc ?_ (by have:=HBE.out.size;simp;try omega) _)))

end Go.Proofs.YtgmehlgfilpleaaGreatDoor
namespace Go.Proofs.YtgmehlgfilpleaaGreatDoor
set_option linter.unusedVariables false
set_option linter.unusedSimpArgs false

def joinW (W:List (List (List UInt8))):List UInt8:=W.flatMap fun ws=>unW ws++[10]
def numW (n:Nat):List (List (List UInt8))→List Rec
 | []=>[]
 | ws::W=>(n,colsW 0 ws)::numW (n+1) W
structure WsOk (ws:List (List UInt8)):Prop where
 ne:ws≠[]
 tok:∀w∈ws,w≠[]∧w.all tokB=true
 len:(unW ws).length≤200
theorem WsOk.no10 {ws:List (List UInt8)} (h:WsOk ws):(10:UInt8) ∉ unW ws:=fun hm=>by
 have:=List.all_eq_true.1 (unW_ok ws h.tok).1 10 hm
 exact absurd this (by decide)
theorem linesL_joinW:∀(W:List (List (List UInt8))),(∀ws∈W,WsOk ws)→linesL (joinW W)=W.map unW++[[]]
 | [],_=>rfl
 | ws::W,h=>by
  have e:joinW (ws::W)=unW ws++10::joinW W:=by
   unfold joinW;rw[List.flatMap_cons,List.append_assoc];rfl
  rw[e,linesL_cut,cutAt_mid (h ws (by simp)).no10,if_pos rfl,linesL_joinW W (fun x hx=>h x (List.mem_cons_of_mem _ hx))]
  rfl
theorem recs_joinW:∀(W:List (List (List UInt8))) (n:Nat),(∀ws∈W,WsOk ws)→recsL n (W.map unW++[[]])=numW n W∧dgsL n (W.map unW++[[]])=[]
 | [],n,_=>⟨rfl,rfl⟩
 | ws::W,n,h=>by
  have hw:=h ws (by simp)
  have hs:=split_unW hw.tok hw.len
  obtain⟨i1,i2⟩:=recs_joinW W (n+1) (fun x hx=>h x (List.mem_cons_of_mem _ hx))
  have hr:isRec (unW ws)=true:=by
   unfold isRec
   rw[hs.1,hs.2]
   have:(colsW 0 ws).isEmpty=false:=by
    rw[List.isEmpty_eq_false_iff]
    intro e
    have:=congrArg List.length e
    rw[colsW_len] at this
    exact hw.ne (List.eq_nil_of_length_eq_zero (by simpa using this))
   rw[this];rfl
  constructor
  ·show(if isRec (unW ws) then (n,splitF (unW ws))::recsL (n+1) (W.map unW++[[]]) else _)=_
   rw[if_pos hr,hs.2,i1];rfl
  ·show(if splitErr (unW ws) == 0 then dgsL (n+1) (W.map unW++[[]]) else _)=_
   rw[hs.1,if_pos (by decide)];exact i2
theorem joinW_len:∀(W:List (List (List UInt8))),(∀ws∈W,WsOk ws)→(joinW W).length≤W.length*201
 | [],_=>Nat.zero_le _
 | ws::W,h=>by
  have:=joinW_len W (fun x hx=>h x (List.mem_cons_of_mem _ hx))
  have h2:=(h ws (by simp)).len
  unfold joinW at this ⊢
  rw[List.flatMap_cons,List.length_append,List.length_append,List.length_cons,List.length_cons]
  simp only[List.length_nil]
  omega
theorem read_joinW {W:List (List (List UInt8))} (h:∀ws∈W,WsOk ws) (hl:W.length≤1000):readRecs (joinW W)=numW 1 W∧readDgs (joinW W)=[]:=by
 have h1:=joinW_len W h
 have h2:=recs_joinW W 1 h
 unfold readRecs readDgs
 rw[if_neg (by omega),if_neg (by omega),linesL_joinW W h,h2.1,h2.2]
 exact⟨rfl,rfl⟩
def lnOf (r:Rec):Ln:=((r.1:Int),fldI r.2)
theorem recs_small:∀(ls:List (List UInt8)) (n:Nat),∀r∈recsL n ls,(∀f∈r.2,f.1.length≤200)∧r.2.length≤201
 | [],n,r,h=>by cases h
 | l::ls,n,r,h=>by
  have h2:r∈(if isRec l then (n,splitF l)::recsL (n+1) ls else recsL (n+1) ls):=h
  split at h2
  ·rcases List.mem_cons.1 h2 with rfl|h2
   ·exact splitF_small l
   ·exact recs_small ls (n+1) r h2
  ·exact recs_small ls (n+1) r h2
theorem readRecs_small (s:List UInt8):(∀r∈readRecs s,(∀f∈r.2,f.1.length≤200)∧r.2.length≤201)∧(readRecs s).length≤262145:=by
 unfold readRecs
 split
 ·exact⟨by simp,by simp⟩
 ·have h1:=recsL_len (linesL s) 1
  have h2:=linesL_len s
  exact⟨recs_small _ _,by omega⟩
theorem lns_of {w:World} {v:Value} {rs:List Rec} (h:RecsR w v rs) (hs:∀r∈rs,(∀f∈r.2,f.1.length≤200)∧r.2.length≤201):LnsR w v (rs.map lnOf):=by
 obtain⟨L,hL,⟨⟨hl,A,c,hv,hc,hm,hr⟩,_⟩,hF⟩:=h
 have hlen:(rs.map lnOf).length=rs.length:=List.length_map _
 have hLl:L.length=rs.length:=by rw[←hL,List.length_map]
 refine⟨A,c,by rw[hlen];exact hv,by rw[hlen];exact hc,hm,?_,fun h0 => ?_⟩
 ·intro x hx
  rw[List.mem_map] at hx
  obtain⟨r,hr,rfl⟩:=hx
  have:=hs r hr
  refine⟨by show(fldI r.2).length≤_;rw[fldI_len];omega,fldI_small this.1 (by omega)⟩
 ·rw[hlen] at h0
  obtain⟨g,o,hA,hg,hx⟩:=hr h0
  refine⟨g,o,hA,hg,fun k hk => ?_⟩
  rw[hlen] at hk
  have hkL:k<L.length:=by omega
  have hrk:L[k].1=rs[k]:=by
   have:(L.map (·.1))[k]? = rs[k]? := by rw[hL]
   rw[List.getElem?_map,List.getElem?_eq_getElem hkL,List.getElem?_eq_getElem hk] at this
   simpa using this
  have hk2:∀c∈L.map (fun x=>[Value.int .i64 (x.1.1:Int),x.2]),c.length=2:=by
   intro c hc;rw[List.mem_map] at hc;obtain⟨p,_,rfl⟩:=hc;rfl
  have e:rcells L=(L.map fun x=>[Value.int .i64 (x.1.1:Int),x.2]).flatten:=by unfold rcells;rw[List.flatMap_def]
  have f0:=flat_at _ hk2 k 0 (by rw[List.length_map];exact hkL) (by decide)
  have f1:=flat_at _ hk2 k 1 (by rw[List.length_map];exact hkL) (by decide)
  rw[←e,List.getElem_map] at f0 f1
  have c0:=hx _ _ f0
  have c1:=hx _ _ f1
  rw[Nat.add_zero] at c0
  rw[←Nat.add_assoc] at c1
  rw[hrk] at c0
  refine⟨L[k].2,?_,c1,?_⟩
  ·rw[List.getElem_map];exact c0
  ·rw[List.getElem_map]
   have hf:=hF _ (List.getElem_mem hkL)
   rw[hrk] at hf
   exact fsr_of hf (hs _ (List.getElem_mem hk)).1
end Go.Proofs.YtgmehlgfilpleaaGreatDoor
