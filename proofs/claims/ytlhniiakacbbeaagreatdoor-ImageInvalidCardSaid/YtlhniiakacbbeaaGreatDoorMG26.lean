/-
  Several texts as one.
-/
import Derived.Test.YtlhniiakacbbeaaGreatDoorMG25
import Derived.Test.YtlhniiakacbbeaaGreatDoorMG05
import Derived.Test.YtlhniiakacbbeaaGreatDoorMG21
import Derived.Test.YtlhniiakacbbeaaGreatDoorShelf
import Derived.Test.YtlhniiakacbbeaaGreatDoorMG12
namespace Go.Proofs.YtlhniiakacbbeaaGreatDoor
open Go.RowKit
set_option linter.unusedVariables false
set_option linter.unusedSimpArgs false

abbrev Rec := Nat × List Fld
abbrev Dg := Nat × Int × Int
def isRec (l : List UInt8) : Bool := splitErr l == 0 && !(splitF l).isEmpty
def recsL (n : Nat) : List (List UInt8) → List Rec
 | [] => []
 | l :: r => if isRec l then (n, splitF l) :: recsL (n + 1) r else recsL (n + 1) r
def dgsL (n : Nat) : List (List UInt8) → List Dg
 | [] => []
 | l :: r => if splitErr l == 0 then dgsL (n + 1) r else (n, splitCol l, splitErr l) :: dgsL (n + 1) r
theorem recsL_snoc (l : List (List UInt8)) (x : List UInt8) : ∀ n, recsL n (l ++ [x]) = recsL n l ++ (if isRec x then [(n + l.length, splitF x)] else []) := by
 induction l with
 | nil => intro n; simp only [List.nil_append, recsL, List.length_nil, Nat.add_zero]
 | cons y l ih =>
  intro n
  simp only [List.cons_append, recsL, ih, List.length_cons]
  rw [show n + 1 + l.length = n + (l.length + 1) by omega]
  split <;> rfl
theorem dgsL_snoc (l : List (List UInt8)) (x : List UInt8) : ∀ n, dgsL n (l ++ [x]) = dgsL n l ++ (if splitErr x == 0 then [] else [(n + l.length, splitCol x, splitErr x)]) := by
 induction l with
 | nil => intro n; simp only [List.nil_append, dgsL, List.length_nil, Nat.add_zero]
 | cons y l ih =>
  intro n
  simp only [List.cons_append, dgsL, ih, List.length_cons]
  rw [show n + 1 + l.length = n + (l.length + 1) by omega]
  split <;> rfl
theorem recsL_len (l : List (List UInt8)) : ∀ n, (recsL n l).length ≤ l.length := by
 induction l with
 | nil => intro n; simp [recsL]
 | cons y l ih =>
  intro n
  have := ih (n + 1)
  unfold recsL
  split
  ·simp only [List.length_cons]; omega
  ·simp only [List.length_cons]; omega
def dcells (l : List Dg) : List Value := l.flatMap fun d => [.int .i64 (d.1 : Int), .int .i64 d.2.1, .int .i64 d.2.2]
theorem dcells_snoc (l : List Dg) (d : Dg) : dcells (l ++ [d]) = dcells l ++ [.int .i64 (d.1 : Int), .int .i64 d.2.1, .int .i64 d.2.2] := by
 unfold dcells; rw [List.flatMap_append]; rfl
def rcells (L : List (Rec × Value)) : List Value := L.flatMap fun x => [.int .i64 (x.1.1 : Int), x.2]
theorem rcells_snoc (L : List (Rec × Value)) (x : Rec × Value) : rcells (L ++ [x]) = rcells L ++ [.int .i64 (x.1.1 : Int), x.2] := by
 unfold rcells; rw [List.flatMap_append]; rfl
def FieldsIn (w : World) (L : List (Rec × Value)) : Prop := ∀ x ∈ L, RdT w 236 2 x.2 x.1.2.length (fcells x.1.2)
theorem FieldsIn.nil (w : World) : FieldsIn w [] := by intro x hx; cases hx
theorem FieldsIn.below {w w' : World} {L : List (Rec × Value)} (h : FieldsIn w L) (hb : Below w.heap.size w w') : FieldsIn w' L := fun x hx => (h x hx).below hb
theorem FieldsIn.grown {w w' : World} {L : List (Rec × Value)} {row : Option Nat} (h : FieldsIn w L) (hg : w.grownBy w' row) (hr : ∀ k, row = some k → ∃ cur e' z, w.heap[k]? = some (.cells cur e' z) ∧ e' ≠ 236) : FieldsIn w' L := fun x hx => (h x hx).grown hg hr
theorem FieldsIn.snoc {w : World} {L : List (Rec × Value)} {x : Rec × Value} (h : FieldsIn w L) (hx : RdT w 236 2 x.2 x.1.2.length (fcells x.1.2)) : FieldsIn w (L ++ [x]) := by
 intro y hy
 rw [List.mem_append, List.mem_singleton] at hy
 rcases hy with hy | rfl
 ·exact h y hy
 ·exact hx
def Own2 (w : World) (base : Nat) (out bad : Value) (rs : List Rec) (ds : List Dg) : Prop :=
 ∃ L : List (Rec × Value), L.map (·.1) = rs ∧ w.ownsRow base 152 2 out rs.length (rcells L) ∧ FieldsIn w L ∧ w.ownsRow base 83 3 bad ds.length (dcells ds)
theorem Own2.below {w w' : World} {base : Nat} {out bad : Value} {rs : List Rec} {ds : List Dg} (h : Own2 w base out bad rs ds) (hb : Below w.heap.size w w') : Own2 w' base out bad rs ds := by
 obtain ⟨L, h1, h2, h3, h4⟩ := h
 exact ⟨L, h1, own_below h2 hb, h3.below hb, own_below h4 hb⟩
theorem own_lt {w : World} {base size n : Nat} {e : TypeId} {v : Value} {xs : List Value} (h : w.ownsRow base e size v n xs) : ∀ k, v.ownBlock = some k → base ≤ k := fun k hk => (h.lt k hk).1
theorem Own2.rec_ {w0 w w' : World} {base : Nat} {out bad v' : Value} {rs : List Rec} {ds : List Dg} {r : Rec} {fv : Value} {L : List (Rec × Value)}
  (h1 : L.map (·.1) = rs) (h2 : w.ownsRow base 152 2 out rs.length (rcells L)) (h3 : FieldsIn w L) (h4 : w.ownsRow base 83 3 bad ds.length (dcells ds))
  (hf : RdT w 236 2 fv r.2.length (fcells r.2)) (hb : Below base w0 w) (hB : base ≤ w.heap.size) {o : Obj}
  (hown : w'.ownsRow base 152 2 v' (rs.length + 1) (rcells L ++ [.int .i64 (r.1 : Int), fv])) (hg : (w.alloc o).grownBy w' out.ownBlock) : Own2 w' base v' bad (rs ++ [r]) ds ∧ Below base w0 w' := by
 have hblk : ∀ k, out.ownBlock = some k → ∃ cur e' z, (w.alloc o).heap[k]? = some (.cells cur e' z) ∧ e' ≠ 236 := by
  intro k hk
  obtain ⟨cur, e', z, hh, he⟩ := own_block (h2.alloc o) k hk
  exact ⟨cur, e', z, hh, by rw [he]; decide⟩
 refine ⟨⟨L ++ [(r, fv)], by rw [List.map_append, h1]; rfl, ?_, ?_, ?_⟩, (hb.alloc hB o).grown hg (by simp; omega) (own_lt h2)⟩
 ·rw [rcells_snoc, List.length_append]; exact hown
 ·exact ((h3.below ((Below.refl _ _).alloc (Nat.le_refl _) o)).grown hg hblk).snoc ((hf.alloc o).grown hg hblk)
 ·exact (h4.alloc o).kept hg (own_apart (h4.alloc o) (h2.alloc o) (by decide))
theorem Own2.diag {w0 w w' : World} {base : Nat} {out bad v' : Value} {rs : List Rec} {ds : List Dg} {d : Dg} {L : List (Rec × Value)}
  (h1 : L.map (·.1) = rs) (h2 : w.ownsRow base 152 2 out rs.length (rcells L)) (h3 : FieldsIn w L) (h4 : w.ownsRow base 83 3 bad ds.length (dcells ds))
  (hb : Below base w0 w) (hB : base ≤ w.heap.size) {o : Obj}
  (hown : w'.ownsRow base 83 3 v' (ds.length + 1) (dcells ds ++ [.int .i64 (d.1 : Int), .int .i64 d.2.1, .int .i64 d.2.2])) (hg : (w.alloc o).grownBy w' bad.ownBlock) : Own2 w' base out v' rs (ds ++ [d]) ∧ Below base w0 w' := by
 have hblk : ∀ k, bad.ownBlock = some k → ∃ cur e' z, (w.alloc o).heap[k]? = some (.cells cur e' z) ∧ e' ≠ 236 := by
  intro k hk
  obtain ⟨cur, e', z, hh, he⟩ := own_block (h4.alloc o) k hk
  exact ⟨cur, e', z, hh, by rw [he]; decide⟩
 refine ⟨⟨L, h1, ?_, ?_, ?_⟩, (hb.alloc hB o).grown hg (by simp; omega) (own_lt h4)⟩
 ·exact (h2.alloc o).kept hg (own_apart (h2.alloc o) (h4.alloc o) (by decide))
 ·exact (h3.below ((Below.refl _ _).alloc (Nat.le_refl _) o)).grown hg hblk
 ·rw [dcells_snoc, List.length_append]; exact hown

def RecsR (w : World) (v : Value) (rs : List Rec) : Prop := ∃ L : List (Rec × Value), L.map (·.1) = rs ∧ RdT w 152 2 v rs.length (rcells L) ∧ FieldsIn w L
def DgsR (w : World) (v : Value) (ds : List Dg) : Prop := RdT w 83 3 v ds.length (dcells ds)
def readRecs (l : List UInt8) : List Rec := if 262144 < l.length then [] else recsL 1 (linesL l)
def readDgs (l : List UInt8) : List Dg := if 262144 < l.length then [(1, 1, 3)] else (dgsL 1 (linesL l)).take 50
def ReadPost (s : ByteArray) (w : World) (e : Ending) (w' : World) : Prop :=
 ∃ v d, e = .returned (.tuple #[v, d]) ∧ RecsR w' v (readRecs (bl s)) ∧ DgsR w' d (readDgs (bl s)) ∧ Below w.heap.size w w'
theorem infoLine : (Tryz.prog.info? 152).map (fun i => (i.zero, i.size, i.bytes)) = some (some (.agg #[.int .i64 0, .slice none 0 0]), 2, 32) := by kernel_rfl
theorem infoDiag : (Tryz.prog.info? 83).map (fun i => (i.zero, i.size, i.bytes)) = some (some (.agg #[.int .i64 0, .int .i64 0, .int .i64 0]), 3, 24) := by kernel_rfl
theorem cell_three_new (w : World) (a b c : Value) (t : TypeId) : ∀ j u, [a, b, c][j]? = some u → (w.alloc (.cells #[a, b, c] t)).cell? ((⟨w.heap.size, 0, none⟩ : Addr).add j) = some u := by
 intro j u h
 match j, h with
 | 0, h => simp at h; subst h; simp [Addr.add_lit, go_sem]
 | 1, h => simp at h; subst h; simp [Addr.add_lit, go_sem]
 | 2, h => simp at h; subst h; simp [Addr.add_lit, go_sem]
 | j + 3, h => simp at h


theorem take50_push {D ds : List Dg} {d : Dg} (h : D.take 50 = ds) (hl : ds.length < 50) : (D ++ [d]).take 50 = ds ++ [d] := by
 have h2 : D.length < 50 := by
  have := congrArg List.length h
  rw [List.length_take] at this
  omega
 rw [List.take_of_length_le (by omega)] at h
 subst h
 rw [List.take_of_length_le (by rw [List.length_append]; simp; omega)]
theorem take50_full {D ds : List Dg} {d : Dg} (h : D.take 50 = ds) (hl : ¬ ds.length < 50) : (D ++ [d]).take 50 = ds := by
 have h2 : 50 ≤ D.length := by
  have := congrArg List.length h
  rw [List.length_take] at this
  omega
 rw [List.take_append_of_le_length h2, h]
theorem lines_snoc {ls : List (List UInt8)} {k : Nat} {x : List UInt8} (h : k < ls.length) (hx : ls[k]? = some x) : ls.take (k + 1) = ls.take k ++ [x] := by
 rw [List.take_succ_eq_append_getElem h]
 rw [List.getElem?_eq_getElem h, Option.some.injEq] at hx
 rw [hx]
theorem step_rec {ls : List (List UInt8)} {k : Nat} {x : List UInt8} {rs : List Rec} (h : k < ls.length) (hx : ls[k]? = some x) (hr : recsL 1 (ls.take k) = rs) :
  recsL 1 (ls.take (k + 1)) = if isRec x then rs ++ [(k + 1, splitF x)] else rs := by
 rw [lines_snoc h hx, recsL_snoc, hr, List.length_take, Nat.min_eq_left (by omega), Nat.add_comm 1 k]
 split
 ·rfl
 ·rw [List.append_nil]
theorem step_dg {ls : List (List UInt8)} {k : Nat} {x : List UInt8} {ds : List Dg} (h : k < ls.length) (hx : ls[k]? = some x) (hr : (dgsL 1 (ls.take k)).take 50 = ds) :
  (dgsL 1 (ls.take (k + 1))).take 50 = if splitErr x == 0 then ds else if ds.length < 50 then ds ++ [(k + 1, splitCol x, splitErr x)] else ds := by
 rw [lines_snoc h hx, dgsL_snoc, List.length_take, Nat.min_eq_left (by omega), Nat.add_comm 1 k]
 split
 ·rw [List.append_nil, hr]
 ·split
  ·exact take50_push hr (by assumption)
  ·exact take50_full hr (by assumption)

set_option maxRecDepth 100000 in
set_option maxHeartbeats 400000 in
theorem read_long (s : ByteArray) (w : World) (h : 262144 < s.size) (hs : s.size ≤ maxLen) :
  Calls Tryz.prog 78 #[.string s] w (ReadPost s w) := by
 unfold maxLen at hs
 have h1 : (262144 : Int) < (s.size : Int) := by omega
 have H1 : Hid (readRecs (bl s) = []) := if_pos h
 have H2 : Hid (readDgs (bl s) = [(1, 1, 3)]) := if_pos h
 clear h
 go_enter Tryz.func78, Tryz.ntmps78
 go_wp2
 go_ret2
 refine ⟨_, _, rfl, ?_, ?_, (Below.refl _ _).alloc (Nat.le_refl _) _⟩
 ·rw [H1.out]; exact ⟨[], rfl, RdT.nil _ _ _, FieldsIn.nil _⟩
 ·rw [H2.out]; exact rdT_new w [.int .i64 1, .int .i64 1, .int .i64 3] _ 3 1 rfl (by unfold maxLen; omega)
set_option maxRecDepth 100000 in
set_option maxHeartbeats 4000000 in
theorem read_short (s : ByteArray) (w : World) (E : Env w) (hs : s.size ≤ 262144) :
  Calls Tryz.prog 78 #[.string s] w (ReadPost s w) := by
 have h1 : (s.size : Int) ≤ 262144 := by omega
 obtain ⟨iL, hiL, hzL0, hzL1, hzL2⟩ := info_parts infoLine
 obtain ⟨iD, hiD, hzD0, hzD1, hzD2⟩ := info_parts infoDiag
 go_enter Tryz.func78, Tryz.ntmps78
 go_wp2_with fail
 refine (splitNl s _ E (by omega)).mono ?_
 rintro e w1 ⟨lv, rfl, hlv, hb1⟩
 have E1 := E.below hb1
 have hn0 : 0 < (linesL (bl s)).length := List.length_pos_iff.2 (linesL_ne _)
 have hnl := linesL_len (bl s)
 rw [bl_len] at hnl
 obtain ⟨ls, hls⟩ : ∃ ls, linesL (bl s) = ls := ⟨_, rfl⟩
 have hmem := linesL_mem (bl s)
 rw [hls] at hlv hn0 hnl hmem
 have HLS := Lib.hid hls
 have hmem := Lib.hid hmem
 clear hls
 obtain ⟨n, hn⟩ : ∃ n, ls.length = n := ⟨_, rfl⟩
 rw [hn] at hlv hn0 hnl
 have HN := Lib.hid hn
 clear hn
 obtain ⟨⟨hll, A, c, rfl, hnc, hcm, hcell⟩, _⟩ := hlv
 obtain ⟨g, o, rfl, hg, hcell⟩ := hcell hn0
 have HC := Lib.hid hcell
 clear hcell hll
 unfold maxLen at hcm
 go_wp2_with fail
 go_loopw [4, 5, 19] (fun v d i wr => ∃ k : Nat, k ≤ n ∧ i = .int .i64 k ∧ Own2 wr w1.heap.size v d (recsL 1 (ls.take k)) ((dgsL 1 (ls.take k)).take 50) ∧ Below w1.heap.size w1 wr) (fun _ _ i _ => n - (intOf i).toNat)
 case atStart =>
  exact ⟨0, Nat.zero_le _, rfl, ⟨[], rfl, World.ownsRow_nil _ _ _ _, FieldsIn.nil _, World.ownsRow_nil _ _ _ _⟩, Below.refl _ _⟩
 case round =>
  obtain ⟨k, hk, rfl, hown, hbr⟩ := hrel
  obtain ⟨rs, hrs⟩ : ∃ rs, recsL 1 (ls.take k) = rs := ⟨_, rfl⟩
  obtain ⟨ds, hds⟩ : ∃ ds, (dgsL 1 (ls.take k)).take 50 = ds := ⟨_, rfl⟩
  rw [hrs, hds] at hown
  have HRS := Lib.hid hrs
  have HDS := Lib.hid hds
  have hrl : rs.length ≤ k := by
   have := recsL_len (ls.take k) 1
   rw [hrs, List.length_take] at this
   omega
  have hdl : ds.length ≤ 50 := by
   rw [← hds, List.length_take]; omega
  clear hrs hds
  by_cases hlt : k < n
  ·have hkl : k < ls.length := by rw [HN.out]; exact hlt
   obtain ⟨x, hx⟩ : ∃ x : ByteArray, bl x = ls[k] := ⟨sb ls[k], rfl⟩
   have hxs : x.size ≤ s.size := by
    have := hmem.out _ (List.getElem_mem hkl)
    rw [← hx, bl_len, bl_len] at this
    exact this
   have hlk : Hid (ls[k]? = some (bl x)) := by unfold Hid; rw [hx, List.getElem?_eq_getElem hkl]
   have hc : wr.cell? ⟨g, o + k, none⟩ = some (.string x) := by
    refine (hbr.cell (p := ⟨g, o + k, none⟩) hg).trans (HC.out k _ ?_)
    unfold scells
    rw [List.getElem?_map, hlk.out]
    show some (Value.string (sb (bl x))) = _
    rw [sb_bl]
   clear hx
   have hsr := Lib.hid (step_rec hkl hlk.out HRS.out)
   have hsd := Lib.hid (step_dg hkl hlk.out HDS.out)
   clear hkl
   have H2 := Lib.hid hown
   obtain ⟨L, o1, o2, o3, o4⟩ := hown
   obtain ⟨A1, c1, rfl, _⟩ := (Rd.of_own o2).form
   obtain ⟨A2, c2, rfl, _⟩ := (Rd.of_own o4).form
   clear o1 o2 o3 o4
   go_wp2_with fail
   refine (split_any x _ (E1.of_below hbr E1.size) (by unfold maxLen; omega)).mono ?_
   rintro e w2 ⟨fv, rfl, hfv, hb2⟩
   obtain ⟨fs, hfs⟩ : ∃ fs, splitF (bl x) = fs := ⟨_, rfl⟩
   obtain ⟨er, her⟩ : ∃ er, splitErr (bl x) = er := ⟨_, rfl⟩
   obtain ⟨co, hco⟩ : ∃ co, splitCol (bl x) = co := ⟨_, rfl⟩
   rw [hfs] at hfv
   rw [her, hco]
   rw [hfs] at hsr
   rw [her, hco] at hsd
   have hrecx : Hid (isRec (bl x) = (er == 0 && !fs.isEmpty)) := by unfold Hid isRec; rw [hfs, her]
   rw [hrecx.out] at hsr
   obtain ⟨A3, c3, rfl, _⟩ := hfv.1.form
   have hbr2 := hbr.trans (hb2.mono hbr.size)
   have hB2 := hbr2.size
   obtain ⟨L, o1, o2, o3, o4⟩ := H2.out.below hb2
   have O1 := Lib.hid o1
   clear hfs her hco o1
   by_cases he0 : er = 0
   ·have e1 : (er != 0) = false := by rw [he0]; rfl
    have e2 : (er == 0) = true := by rw [he0]; rfl
    rw [e2, if_pos rfl] at hsd
    rw [e2, Bool.true_and] at hsr
    clear he0 e2
    by_cases hfl : 0 < fs.length
    ·have hfl' : (0 : Int) < (fs.length : Int) := by omega
     have e3 : fs.isEmpty = false := by rw [List.isEmpty_eq_false_iff]; intro e; rw [e] at hfl; simp at hfl
     rw [e3, Bool.not_false, if_pos rfl] at hsr
     clear e3
     go_wp2_with (at_builtin; refine wpList_append_own _ rfl (.tmp 48) (.tmp 53) 142 rfl w1.heap.size 152 iL (.agg #[.int .i64 0, .slice none 0 0]) 2 32 Tryz.underlying142 hiL hzL0 hzL1 hzL2 rfl (by decide) _ _ _ rfl (o2.alloc _) ⟨w2.heap.size, 0, none⟩ 1 1 [.int .i64 ((k : Int) + 1), .slice A3 fs.length c3] rfl rfl (cell_two_new _ _ _ _) (by intro u hu; simp at hu; rcases hu with rfl | rfl <;> rfl) (by unfold maxLen; omega) (by omega) (by simp; omega) ?_)
     intro v' w' hown' hgrow _
     have R : Own2 w' w1.heap.size v' (.slice A2 ds.length c2) (recsL 1 (ls.take (k + 1))) ((dgsL 1 (ls.take (k + 1))).take 50) ∧ Below w1.heap.size w1 w' := by rw [hsr.out, hsd.out]; exact Own2.rec_ (r := (k + 1, fs)) O1.out o2 o3 o4 hfv hbr2 hB2 hown' hgrow
     clear hown' hgrow o2 o3 o4 H2 hfv
     go_wp2
     go_roundw
     case rel => exact ⟨k + 1, hlt, by go_num, R.1, R.2⟩
     case measure => simp [intOf]; omega
    ·have hfl' : (fs.length : Int) ≤ 0 := by omega
     have e3 : fs.isEmpty = true := by rw [List.isEmpty_iff]; exact List.eq_nil_of_length_eq_zero (by omega)
     rw [e3, Bool.not_true, if_neg (by decide)] at hsr
     have R : Own2 w2 w1.heap.size (.slice A1 rs.length c1) (.slice A2 ds.length c2) (recsL 1 (ls.take (k + 1))) ((dgsL 1 (ls.take (k + 1))).take 50) := by rw [hsr.out, hsd.out]; exact H2.out.below hb2
     clear o2 o3 o4 H2 hfv e3
     go_wp2
     go_roundw
     case rel => exact ⟨k + 1, hlt, by go_num, R, hbr2⟩
     case measure => simp [intOf]; omega
   ·have e1 : (er != 0) = true := bne_iff_ne.2 he0
    have e2 : (er == 0) = false := beq_eq_false_iff_ne.2 he0
    rw [e2, if_neg (by decide)] at hsd
    rw [e2, Bool.false_and, if_neg (by decide)] at hsr
    clear he0 e2
    by_cases hdl2 : ds.length < 50
    ·have hdl' : (ds.length : Int) < 50 := by omega
     rw [if_pos hdl2] at hsd
     go_wp2_with (at_builtin; refine wpList_append_own _ rfl (.tmp 36) (.tmp 42) 77 rfl w1.heap.size 83 iD (.agg #[.int .i64 0, .int .i64 0, .int .i64 0]) 3 24 Tryz.underlying77 hiD hzD0 hzD1 hzD2 rfl (by decide) _ _ _ rfl (o4.alloc _) ⟨w2.heap.size, 0, none⟩ 1 1 [.int .i64 ((k : Int) + 1), .int .i64 co, .int .i64 er] rfl rfl (cell_three_new _ _ _ _ _) (by intro u hu; simp at hu; rcases hu with rfl | rfl | rfl <;> rfl) (by unfold maxLen; omega) (by omega) (by simp; omega) ?_)
     intro v' w' hown' hgrow _
     have R : Own2 w' w1.heap.size (.slice A1 rs.length c1) v' (recsL 1 (ls.take (k + 1))) ((dgsL 1 (ls.take (k + 1))).take 50) ∧ Below w1.heap.size w1 w' := by rw [hsr.out, hsd.out]; exact Own2.diag (d := (k + 1, co, er)) O1.out o2 o3 o4 hbr2 hB2 hown' hgrow
     clear hown' hgrow o2 o3 o4 H2 hfv
     go_wp2
     go_roundw
     case rel => exact ⟨k + 1, hlt, by go_num, R.1, R.2⟩
     case measure => simp [intOf]; omega
    ·have hdl' : (50 : Int) ≤ (ds.length : Int) := by omega
     rw [if_neg hdl2] at hsd
     have R : Own2 w2 w1.heap.size (.slice A1 rs.length c1) (.slice A2 ds.length c2) (recsL 1 (ls.take (k + 1))) ((dgsL 1 (ls.take (k + 1))).take 50) := by rw [hsr.out, hsd.out]; exact H2.out.below hb2
     clear o2 o3 o4 H2 hfv
     go_wp2
     go_roundw
     case rel => exact ⟨k + 1, hlt, by go_num, R, hbr2⟩
     case measure => simp [intOf]; omega
  ·have hall : ls.take k = ls := List.take_of_length_le (by rw [HN.out]; omega)
   have F1 : Hid (readRecs (bl s) = rs) := by unfold Hid readRecs; rw [if_neg (by rw [bl_len]; omega), HLS.out, ← HRS.out, hall]
   have F2 : Hid (readDgs (bl s) = ds) := by unfold Hid readDgs; rw [if_neg (by rw [bl_len]; omega), HLS.out, ← HDS.out, hall]
   have H2 := Lib.hid hown
   clear hall hown
   go_wp2
   go_ret2
   obtain ⟨L, o1, o2, o3, o4⟩ := H2.out
   refine ⟨_, _, rfl, ?_, ?_, Below.then_ hb1 hbr⟩
   ·rw [F1.out]; exact ⟨L, o1, RdT.of_own o2, o3⟩
   ·rw [F2.out]; exact RdT.of_own o4
theorem read_any (s : ByteArray) (w : World) (E : Env w) (hs : s.size ≤ maxLen) :
  Calls Tryz.prog 78 #[.string s] w (ReadPost s w) := by
 by_cases h : 262144 < s.size
 ·exact read_long s w h hs
 ·exact read_short s w E (by omega)

theorem Rd.three {w : World} {n : Nat} {v : Value} {xs : List Value} (h : Rd w 3 v n xs) {k : Nat} (hk : k < n) : ∃ g o c a b d, v = .slice (some ⟨g, o, none⟩) n c ∧ n ≤ c ∧ g < w.heap.size ∧ xs[k * 3]? = some a ∧ xs[k * 3 + 1]? = some b ∧ xs[k * 3 + 2]? = some d ∧ w.cell? ⟨g, o + k * 3, none⟩ = some a ∧ w.cell? ⟨g, o + k * 3 + 1, none⟩ = some b ∧ w.cell? ⟨g, o + k * 3 + 2, none⟩ = some d := by
 obtain ⟨hl, A, c, hv, hc, hm, hr⟩ := h
 obtain ⟨g, o, rfl, hg, hx⟩ := hr (by omega)
 have h1 : k * 3 < xs.length := by omega
 have h2 : k * 3 + 1 < xs.length := by omega
 have h3 : k * 3 + 2 < xs.length := by omega
 have e2 := hx _ _ (List.getElem?_eq_getElem h2)
 have e3 := hx _ _ (List.getElem?_eq_getElem h3)
 rw [← Nat.add_assoc] at e2 e3
 exact ⟨g, o, c, xs[k * 3], xs[k * 3 + 1], xs[k * 3 + 2], hv, hc, hg, List.getElem?_eq_getElem h1, List.getElem?_eq_getElem h2, List.getElem?_eq_getElem h3, hx _ _ (List.getElem?_eq_getElem h1), e2, by rwa [Nat.add_assoc] at e3 ⊢⟩
theorem dcells_at (l : List Dg) : ∀ (k : Nat) (h : k < l.length), (dcells l)[k * 3]? = some (.int .i64 (l[k].1 : Int)) ∧ (dcells l)[k * 3 + 1]? = some (.int .i64 l[k].2.1) ∧ (dcells l)[k * 3 + 2]? = some (.int .i64 l[k].2.2) := by
 induction l with
 | nil => intro k h; simp at h
 | cons d l ih =>
  intro k h
  cases k with
  | zero => exact ⟨rfl, rfl, rfl⟩
  | succ k =>
   have := ih k (by simpa using h)
   rw [show (k + 1) * 3 = k * 3 + 3 by omega]
   exact this
theorem rcells_at (L : List (Rec × Value)) : ∀ (k : Nat) (h : k < L.length), (rcells L)[k * 2]? = some (.int .i64 (L[k].1.1 : Int)) ∧ (rcells L)[k * 2 + 1]? = some L[k].2 := by
 induction L with
 | nil => intro k h; simp at h
 | cons d l ih =>
  intro k h
  cases k with
  | zero => exact ⟨rfl, rfl⟩
  | succ k =>
   have := ih k (by simpa using h)
   rw [show (k + 1) * 2 = k * 2 + 2 by omega]
   exact this
theorem RecsR.form {w : World} {v : Value} {rs : List Rec} (h : RecsR w v rs) : ∃ A c, v = .slice A rs.length c ∧ rs.length ≤ c ∧ c ≤ maxLen := by
 obtain ⟨L, _, h2, _⟩ := h
 exact h2.1.form
theorem RecsR.below {w w' : World} {v : Value} {rs : List Rec} (h : RecsR w v rs) (hb : Below w.heap.size w w') : RecsR w' v rs := by
 obtain ⟨L, h1, h2, h3⟩ := h
 exact ⟨L, h1, h2.below hb, h3.below hb⟩
theorem DgsR.below {w w' : World} {v : Value} {ds : List Dg} (h : DgsR w v ds) (hb : Below w.heap.size w w') : DgsR w' v ds := RdT.below h hb
theorem DgsR.form {w : World} {v : Value} {ds : List Dg} (h : DgsR w v ds) : ∃ A c, v = .slice A ds.length c ∧ ds.length ≤ c ∧ c ≤ maxLen := h.1.form
theorem RecsR.at_ {w : World} {v : Value} {rs : List Rec} (h : RecsR w v rs) {k : Nat} (hk : k < rs.length) : ∃ g o c fv, v = .slice (some ⟨g, o, none⟩) rs.length c ∧ w.cell? ⟨g, o + k * 2, none⟩ = some (.int .i64 (rs[k].1 : Int)) ∧ w.cell? ⟨g, o + k * 2 + 1, none⟩ = some fv ∧ RdT w 236 2 fv rs[k].2.length (fcells rs[k].2) := by
 obtain ⟨L, h1, h2, h3⟩ := h
 have hl : L.length = rs.length := by rw [← h1, List.length_map]
 have hkL : k < L.length := by omega
 have e : L[k].1 = rs[k] := by simp only [← h1, List.getElem_map]
 obtain ⟨g, o, c, a, b, hv, _, _, x1, x2, y1, y2⟩ := h2.1.two hk
 have := rcells_at L k hkL
 rw [this.1, Option.some.injEq] at x1
 rw [this.2, Option.some.injEq] at x2
 subst x1 x2
 rw [e] at y1
 refine ⟨g, o, c, _, hv, y1, y2, ?_⟩
 rw [← e]
 exact h3 _ (List.getElem_mem hkL)
theorem DgsR.at_ {w : World} {v : Value} {ds : List Dg} (h : DgsR w v ds) {k : Nat} (hk : k < ds.length) : ∃ g o c, v = .slice (some ⟨g, o, none⟩) ds.length c ∧ w.cell? ⟨g, o + k * 3, none⟩ = some (.int .i64 (ds[k].1 : Int)) ∧ w.cell? ⟨g, o + k * 3 + 1, none⟩ = some (.int .i64 ds[k].2.1) ∧ w.cell? ⟨g, o + k * 3 + 2, none⟩ = some (.int .i64 ds[k].2.2) := by
 obtain ⟨g, o, c, a, b, d, hv, _, _, x1, x2, x3, y1, y2, y3⟩ := Rd.three h.1 hk
 have := dcells_at ds k hk
 rw [this.1, Option.some.injEq] at x1
 rw [this.2.1, Option.some.injEq] at x2
 rw [this.2.2, Option.some.injEq] at x3
 subst x1 x2 x3
 exact ⟨g, o, c, hv, y1, y2, y3⟩



def winSLo (l : List UInt8) : Int := pwLo l (winSpec l)
def winSHi (l : List UInt8) : Int := pwHi l (winSpec l)
def winSEr (l : List UInt8) : Int := pwErr l (winSpec l)
def WinSPost (s : Sc) (g : Nat) (w : World) (e : Ending) (w' : World) : Prop :=
 e = .returned (.agg #[.int .i64 (s.tv 0 winSLo), .int .i64 (s.tv 0 winSHi)]) ∧ ScPost (s.tk winSEr) g w w'
theorem WinSPost.mk {s : Sc} {g : Nat} {w w' : World} {a b : Int} (h1 : s.tv 0 winSLo = a) (h2 : s.tv 0 winSHi = b) (h : ScPost (s.tk winSEr) g w w') : WinSPost s g w (.returned (.agg #[.int .i64 a, .int .i64 b])) w' := by
 unfold WinSPost; rw [h1, h2]; exact ⟨rfl, h⟩

def TxR (w : World) (v : Value) (ts : List (List UInt8)) : Prop :=
 ∃ xs : List Value, Rd w 2 v ts.length xs ∧ ∀ k (h : k < ts.length), xs[k * 2]? = some (.string (sb ts[k])) ∧ ∃ n : Int, xs[k * 2 + 1]? = some (.int .i64 n)
theorem TxR.form {w : World} {v : Value} {ts : List (List UInt8)} (h : TxR w v ts) : ∃ A c, v = .slice A ts.length c ∧ ts.length ≤ c ∧ c ≤ maxLen := by
 obtain ⟨xs, h1, _⟩ := h; exact h1.form
theorem TxR.below {w w' : World} {v : Value} {ts : List (List UInt8)} (h : TxR w v ts) (hb : Below w.heap.size w w') : TxR w' v ts := by
 obtain ⟨xs, h1, h2⟩ := h; exact ⟨xs, h1.below hb, h2⟩
theorem TxR.at_ {w : World} {v : Value} {ts : List (List UInt8)} (h : TxR w v ts) {k : Nat} (hk : k < ts.length) :
  ∃ g o c, ∃ n : Int, v = .slice (some ⟨g, o, none⟩) ts.length c ∧ g < w.heap.size ∧ w.cell? ⟨g, o + k * 2, none⟩ = some (.string (sb ts[k])) ∧ w.cell? ⟨g, o + k * 2 + 1, none⟩ = some (.int .i64 n) := by
 obtain ⟨xs, h1, h2⟩ := h
 obtain ⟨g, o, c, a, b, hv, _, hg, x1, x2, y1, y2⟩ := h1.two hk
 obtain ⟨z1, n, z2⟩ := h2 k hk
 rw [z1, Option.some.injEq] at x1
 rw [z2, Option.some.injEq] at x2
 subst x1 x2
 exact ⟨g, o, c, n, hv, hg, y1, y2⟩
def LnR (w : World) (v : Value) (L : List (List (List UInt8))) : Prop :=
 ∃ xs : List Value, Rd w 2 v L.length xs ∧ ∀ k (h : k < L.length), ∃ (n : Int) (fv : Value), xs[k * 2]? = some (.int .i64 n) ∧ xs[k * 2 + 1]? = some fv ∧ TxR w fv L[k]
theorem LnR.form {w : World} {v : Value} {L : List (List (List UInt8))} (h : LnR w v L) : ∃ A c, v = .slice A L.length c ∧ L.length ≤ c ∧ c ≤ maxLen := by
 obtain ⟨xs, h1, _⟩ := h; exact h1.form
theorem LnR.below {w w' : World} {v : Value} {L : List (List (List UInt8))} (h : LnR w v L) (hb : Below w.heap.size w w') : LnR w' v L := by
 obtain ⟨xs, h1, h2⟩ := h
 exact ⟨xs, h1.below hb, fun k hk => by obtain ⟨n, fv, x0, x1, x2⟩ := h2 k hk; exact ⟨n, fv, x0, x1, x2.below hb⟩⟩
theorem LnR.at_ {w : World} {v : Value} {L : List (List (List UInt8))} (h : LnR w v L) {k : Nat} (hk : k < L.length) :
  ∃ g o c, ∃ (a : Int) (fv : Value), v = .slice (some ⟨g, o, none⟩) L.length c ∧ g < w.heap.size ∧ w.cell? ⟨g, o + k * 2, none⟩ = some (.int .i64 a) ∧ w.cell? ⟨g, o + k * 2 + 1, none⟩ = some fv ∧ TxR w fv L[k] := by
 obtain ⟨xs, h1, h2⟩ := h
 obtain ⟨g, o, c, a, b, hv, _, hg, x1, x2, y1, y2⟩ := h1.two hk
 obtain ⟨n, fv, z0, z1, z2⟩ := h2 k hk
 rw [z0, Option.some.injEq] at x1
 rw [z1, Option.some.injEq] at x2
 subst x1 x2
 exact ⟨g, o, c, n, fv, hv, hg, y1, y2, z2⟩

def nameSV (m : Int) (t : List UInt8) : List UInt8 := if nameB t m then t else []
def nameSE (m : Int) (t : List UInt8) : Int := if nameB t m then 0 else 5
def NBox (w : World) (b : Nat) (x : Int) (T : TypeId) : Prop := w.heap[b]? = some (.cells #[.int .i64 x] T (0, 0))
theorem NBox.cell {w : World} {b : Nat} {x : Int} {T : TypeId} (h : NBox w b x T) : w.cell? ⟨b, 0, none⟩ = some (.int .i64 x) := blkCell h 0 rfl
theorem NBox.off {w w' : World} {g b : Nat} {x : Int} {T : TypeId} (h : NBox w b x T) (ho : Off g w w') (hb : b ≠ g) : NBox w' b x T :=
 (ho.block b (Array.getElem?_eq_some_iff.1 h).1 (by intro e; injection e with e; exact hb e)).trans h
theorem NBox.below {w w' : World} {b : Nat} {x : Int} {T : TypeId} (h : NBox w b x T) (hb : Below w.heap.size w w') : NBox w' b x T :=
 (hb.block b (Array.getElem?_eq_some_iff.1 h).1).trans h
theorem nbox_new (w : World) (x : Int) (T : TypeId) : NBox (w.alloc (.cells #[.int .i64 x] T)) w.heap.size x T := heap_alloc_new w _
def StrSPost (V : List UInt8 → List UInt8) (E : List UInt8 → Int) (s : Sc) (g : Nat) (w : World) (e : Ending) (w' : World) : Prop := e = .returned (.string (sb (s.tv [] V))) ∧ ScPost (s.tk E) g w w'
theorem StrSPost.mk {V : List UInt8 → List UInt8} {E : List UInt8 → Int} {s : Sc} {g : Nat} {w w' : World} {x : List UInt8} (h1 : s.tv [] V = x) (h2 : ScPost (s.tk E) g w w') : StrSPost V E s g w (.returned (.string (sb x))) w' := by
 unfold StrSPost; rw [h1]; exact ⟨rfl, h2⟩
def NamePost (m : Int) (t : ByteArray) (w : World) (e : Ending) (w' : World) : Prop := e = .returned (.tuple #[.string (sb (nameSV m (bl t))), .int .i64 (nameSE m (bl t))]) ∧ w = w'
theorem nameClo_any (t : ByteArray) (m : Int) (b : Nat) (w : World) (ht : t.size ≤ maxLen) (hb : NBox w b m 3) :
  Calls Tryz.prog 292 #[.string t, .pointer (some ⟨b, 0, none⟩)] w (NamePost m t w) := by
 have hc := hb.cell
 have HF : Hid (∀ (x : ByteArray) (k : Int) w', x = sb (nameSV m (bl t)) → k = nameSE m (bl t) → w = w' → NamePost m t w (.returned (.tuple #[.string x, .int .i64 k])) w') := by
  rintro x k w' rfl rfl rfl; exact ⟨rfl, rfl⟩
 clear hb
 cases hn : nameB (bl t) m
 ·have HV : Hid ((⟨#[]⟩ : ByteArray) = sb (nameSV m (bl t)) ∧ (5 : Int) = nameSE m (bl t)) := by unfold Hid nameSV nameSE; rw [hn]; exact ⟨rfl, rfl⟩
  have HN := Lib.hid hn
  clear hn
  go_enter Tryz.func292, Tryz.ntmps292
  go_wp2_with fail
  refine (name_any t m _ ht).mono ?_
  rintro e w' ⟨rfl, rfl⟩
  rw [HN.out]
  go_wp2
  go_ret2
  exact HF.out _ _ _ HV.out.1 HV.out.2 rfl
 ·have HV : Hid (t = sb (nameSV m (bl t)) ∧ (0 : Int) = nameSE m (bl t)) := by unfold Hid nameSV nameSE; rw [hn]; exact ⟨(sb_bl t).symm, rfl⟩
  have HN := Lib.hid hn
  clear hn
  go_enter Tryz.func292, Tryz.ntmps292
  go_wp2_with fail
  refine (name_any t m _ ht).mono ?_
  rintro e w' ⟨rfl, rfl⟩
  rw [HN.out]
  go_wp2
  go_ret2
  exact HF.out _ _ _ HV.out.1 HV.out.2 rfl
theorem nameS_zero {m : Int} {t : List UInt8} (h : nameSE m t ≠ 0) : nameSV m t = [] := by
 unfold nameSE at h; unfold nameSV
 by_cases h1 : nameB t m = true
 ·rw [if_pos h1] at h; exact absurd rfl h
 ·rw [if_neg h1]
set_option maxRecDepth 100000 in
set_option maxHeartbeats 1000000 in
theorem takenName_any (m : Int) (b : Nat) (s : Sc) (g : Nat) (w : World) (hts : s.text.length ≤ 140737488351232) (hbg : b ≠ g) (hbx : NBox w b m 3) (h : ScP w g s) :
  Calls Tryz.prog 291 #[.pointer (some ⟨g, 0, none⟩), .func (.func 292) #[] #[.pointer (some ⟨b, 0, none⟩)]] w (StrSPost (nameSV m) (nameSE m) s g w) := by
 have H := Lib.hid h
 have HBX := Lib.hid hbx
 clear h hbx
 cases hg : s.got
 ·have HG := Lib.hid hg
  have HF1 := Lib.hid (Sc.tv_no hg ([] : List UInt8) (nameSV m))
  have HF2 := Lib.hid (Sc.tk_no hg (nameSE m))
  clear hg
  go_enter Tryz.func291, Tryz.ntmps291
  go_wp2_with fail
  refine (take_any s g _ H.out).mono ?_
  rintro e w1 ⟨rfl, hp⟩
  rw [HG.out]
  have HP := Lib.hid hp
  clear hp
  go_wp2
  go_ret
  exact StrSPost.mk HF1.out (by rw [HF2.out]; exact HP.out)
 ·have HG := Lib.hid hg
  have HF1 := Lib.hid (Sc.tv_got hg ([] : List UInt8) (nameSV m))
  have HF2 := Lib.hid (Sc.tk_got hg (nameSE m))
  obtain ⟨t, ht⟩ : ∃ t, s.text = t := ⟨_, rfl⟩
  have hsz := text_size hts
  rw [ht] at HF1 HF2 hsz
  have HT := Lib.hid ht
  have HSZ := Lib.hid hsz
  clear hg ht hts hsz
  go_enter Tryz.func291, Tryz.ntmps291
  go_wp2_with fail
  refine (take_any s g _ H.out).mono ?_
  rintro e w1 ⟨rfl, hp⟩
  rw [HG.out, HT.out]
  have HP := Lib.hid hp
  have HB1 := Lib.hid (HBX.out.off hp.2 hbg)
  clear hp
  go_wp2_with fail
  refine (nameClo_any (sb t) m b _ (by have := HSZ.out; unfold maxLen; omega) HB1.out).mono ?_
  rintro e w2 ⟨rfl, rfl⟩
  rw [bl_sb]
  have c3 := HP.out.1.c3
  obtain ⟨x, hx⟩ : ∃ x, nameSV m t = x := ⟨_, rfl⟩
  obtain ⟨er, her⟩ : ∃ x, nameSE m t = x := ⟨_, rfl⟩
  have hz : er ≠ 0 → x = [] := by rw [← her, ← hx]; exact nameS_zero
  rw [hx] at HF1
  rw [her] at HF2
  rw [hx, her]
  clear hx her
  by_cases h0 : er = 0
  ·have e1 : (er != 0) = false := bne_eq_false_iff_eq.2 h0
   have HE : Hid (s.tk (nameSE m) = s.take) := by unfold Hid; rw [HF2.out, h0, Sc.note_zero]
   clear h0 hz
   go_wp2
   go_ret
   exact StrSPost.mk HF1.out (by rw [HE.out]; exact HP.out)
  ·have e1 : (er != 0) = true := bne_iff_ne.2 h0
   have HX := Lib.hid (hz h0)
   clear h0 hz
   go_wp2_with fail
   refine (note_any s.take s.take.la er g _ HP.out.1).mono ?_
   rintro e w3 ⟨rfl, hp⟩
   have HP3 := Lib.hid (HP.out.trans hp)
   clear hp
   go_wp2
   go_ret
   exact StrSPost.mk (x := []) (by rw [HF1.out, HX.out]) (by rw [HF2.out]; exact HP3.out)
set_option maxHeartbeats 1000000 in
theorem nameS_any (m : Int) (s : Sc) (g : Nat) (w : World) (hts : s.text.length ≤ 140737488351232) (h : ScP w g s) :
  Calls Tryz.prog 232 #[.pointer (some ⟨g, 0, none⟩), .int .i64 m] w (StrSPost (nameSV m) (nameSE m) s g w) := by
 have hgs := h.lt
 have H : Hid (ScP (w.alloc (.cells #[.int .i64 m] 3)) g s) := h.alloc _
 have HB : Hid (NBox (w.alloc (.cells #[.int .i64 m] 3)) w.heap.size m 3) := nbox_new w m _
 have HO : Hid (Off g w (w.alloc (.cells #[.int .i64 m] 3))) := (Off.refl g w).alloc _
 clear h
 go_enter Tryz.func232, Tryz.ntmps232
 go_wp2_with fail
 refine (takenName_any m _ s g _ hts (by omega) HB.out H.out).mono ?_
 rintro e w1 ⟨rfl, hp⟩
 have HP : Hid (ScPost (s.tk (nameSE m)) g w w1) := ⟨hp.1, HO.out.trans hp.2⟩
 clear hp
 go_wp2
 go_ret
 exact ⟨rfl, HP.out⟩
end Go.Proofs.YtlhniiakacbbeaaGreatDoor
