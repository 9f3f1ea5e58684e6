/-
  Contracts: the lines of a text: strings.Split by "\n"; flightdeckref08.Lines.
-/
import Derived.Test.YtlgajjlnbcbijaaGreatDoorMem
import Derived.Lib.SplitLaws
namespace Go.Proofs.YtlgajjlnbcbijaaGreatDoor
open Go.RowKit
set_option linter.unusedVariables false
set_option linter.unusedSimpArgs false

/-- the lines of a text -/
def linesL : List UInt8 → List (List UInt8)
  | [] => [[]]
  | c :: l => if c = 10 then [] :: linesL l else (c :: (linesL l).headD []) :: (linesL l).tail
theorem linesL_ne (l : List UInt8) : linesL l ≠ [] := by
  cases l with
  | nil => simp [linesL]
  | cons c l => unfold linesL; split <;> simp
theorem linesL_eta (l : List UInt8) : (linesL l).headD [] :: (linesL l).tail = linesL l := by
  cases h : linesL l with
  | nil => exact absurd h (linesL_ne l)
  | cons a r => rfl
theorem linesL_cons (c : UInt8) (l : List UInt8) : linesL (c :: l) = if c = 10 then [] :: linesL l else (c :: (linesL l).headD []) :: (linesL l).tail := rfl
theorem linesL_cut (l : List UInt8) : linesL l = if (cutAt 10 l).2.2 then (cutAt 10 l).1 :: linesL (cutAt 10 l).2.1 else [l] := by
  induction l with
  | nil => rfl
  | cons c l ih =>
    rw [linesL_cons, cutAt_cons]
    by_cases h : c = 10
    · rw [if_pos h, if_pos h, if_pos rfl]
    · rw [if_neg h, if_neg h]
      rcases cutAt_spec 10 l with ⟨h1, _, _⟩ | ⟨h1, _, _, _⟩
      · rw [h1, if_pos rfl] at ih
        rw [ih, h1, if_pos rfl]; rfl
      · rw [h1, if_neg (by decide)] at ih
        rw [ih, h1, if_neg (by decide)]; rfl
theorem linesL_len (l : List UInt8) : (linesL l).length ≤ l.length + 1 := by
  induction l with
  | nil => simp [linesL]
  | cons c l ih =>
    unfold linesL
    have := linesL_eta l
    have h2 : (linesL l).length = (linesL l).tail.length + 1 := by rw [← this]; simp
    split
    · simp only [List.length_cons]; omega
    · simp only [List.length_cons]; omega
theorem linesL_mem (l : List UInt8) : ∀ x ∈ linesL l, x.length ≤ l.length := by
  induction l with
  | nil => simp [linesL]
  | cons c l ih =>
    have hh : (linesL l).headD [] ∈ linesL l := by
      rw [← linesL_eta l]; simp
    unfold linesL
    split
    · intro x hx
      simp only [List.mem_cons] at hx
      rcases hx with rfl | hx
      · simp
      · have := ih x hx; simp only [List.length_cons]; omega
    · intro x hx
      simp only [List.mem_cons] at hx
      rcases hx with rfl | hx
      · have := ih _ hh; simp only [List.length_cons]; omega
      · have := ih x (List.mem_of_mem_tail hx); simp only [List.length_cons]; omega

theorem countFrom_succ (sub : List UInt8) (fuel : Nat) (s : List UInt8) : Lib.countFrom sub (fuel + 1) s = if Lib.index s sub == -1 then 0 else 1 + Lib.countFrom sub fuel (s.drop ((Lib.index s sub).toNat + sub.length)) := rfl
theorem countFrom_one (c : UInt8) (fuel : Nat) (s : List UInt8) (h : s.length < fuel) : Lib.countFrom [c] fuel s = if (cutAt c s).2.2 then 1 + Lib.countFrom [c] (fuel - 1) (cutAt c s).2.1 else 0 := by
  match fuel, h with
  | fuel + 1, h =>
    rw [countFrom_succ]
    rcases index_one c s with ⟨h1, h2⟩ | ⟨i, h1, h2⟩
    · rw [h1, h2]; rfl
    · have e : ((i : Int) == -1) = false := by rw [beq_eq_false_iff_ne]; omega
      rw [h1, h2, e]
      rfl
theorem countFrom_fuel (c : UInt8) : ∀ (n : Nat) (f f' : Nat) (s : List UInt8), s.length ≤ n → s.length < f → s.length < f' → Lib.countFrom [c] f s = Lib.countFrom [c] f' s := by
  intro n
  induction n with
  | zero =>
    intro f f' s h h1 h2
    have : s = [] := List.eq_nil_of_length_eq_zero (by omega)
    subst this
    rw [countFrom_one c f [] h1, countFrom_one c f' [] h2]; rfl
  | succ n ih =>
    intro f f' s h h1 h2
    rw [countFrom_one c f s h1, countFrom_one c f' s h2]
    rcases cutAt_spec c s with ⟨k1, k2, _⟩ | ⟨k1, _⟩
    · have hl : (cutAt c s).2.1.length < s.length := by
        have := congrArg List.length k2
        rw [List.length_append, List.length_cons] at this
        omega
      rw [k1, ih (f - 1) (f' - 1) _ (by omega) (by omega) (by omega)]
    · rw [k1]; rfl
theorem splitK_lines : ∀ (n : Nat) (s : List UInt8), s.length ≤ n → Lib.splitK [10] 0 (Lib.count s [10]) s = linesL s := by
  intro n
  induction n with
  | zero =>
    intro s h
    have : s = [] := List.eq_nil_of_length_eq_zero (by omega)
    subst this
    rfl
  | succ n ih =>
    intro s h
    rw [linesL_cut]
    unfold Lib.count
    rw [countFrom_one 10 _ s (by omega)]
    rcases index_one 10 s with ⟨h1, h2⟩ | ⟨i, h1, h2⟩
    · rw [h2]; rfl
    · have hl : (s.drop (i + 1)).length < s.length := by
        rcases cutAt_spec 10 s with ⟨k1, k2, _⟩ | ⟨k1, _⟩
        · rw [h2] at k2
          have := congrArg List.length k2
          rw [List.length_append, List.length_cons] at this
          simp only [] at this ⊢
          omega
        · rw [h2] at k1; cases k1
      rw [h2]
      simp only [if_true, Nat.add_sub_cancel]
      have e : ((i : Int) == -1) = false := by rw [beq_eq_false_iff_ne]; omega
      rw [Nat.add_comm 1, Lib.splitK, h1, e]
      simp only [Bool.false_eq_true, if_false, List.length_cons, List.length_nil, Int.toNat_natCast, Nat.add_zero]
      rw [countFrom_fuel 10 s.length s.length ((s.drop (i + 1)).length + 1) _ (by omega) (by omega) (by omega)]
      have := ih (s.drop (i + 1)) (by omega)
      unfold Lib.count at this
      rw [Nat.zero_add, this]
/-- a block that the call just laid -/
theorem rdT_new (w : World) (cs : List Value) (e : TypeId) (size n : Nat) (h : cs.length = n * size) (hm : n ≤ maxLen) : RdT (w.alloc (.cells cs.toArray e)) e size (.slice (some ⟨w.heap.size, 0, none⟩) n n) n cs := by
  have hh : (w.alloc (.cells cs.toArray e)).heap[w.heap.size]? = some (.cells cs.toArray e) := heap_alloc_new w _
  refine ⟨⟨h, _, n, rfl, Nat.le_refl _, hm, fun _ => ⟨w.heap.size, 0, rfl, heap_lt hh, fun j u hu => ?_⟩⟩, .inr ⟨_, _, _, _, _, rfl, hh⟩⟩
  rw [Nat.zero_add, cell_of_row _ _ _ _ _ _ hh]
  simpa using hu
def scells (l : List (List UInt8)) : List Value := l.map fun x => .string (sb x)
/-- the lines of a text, as a slice of strings of the call's own -/
def LinesPost (s : ByteArray) (w : World) (e : Ending) (w' : World) : Prop :=
  ∃ v, e = .returned v ∧ RdT w' 9 1 v (linesL (bl s)).length (scells (linesL (bl s))) ∧ Below w.heap.size w w'
theorem splitNl (s : ByteArray) (w : World) (E : Env w) (hs : s.size ≤ 1048576) :
    Calls Tryz.prog 157 #[.string s, .string ⟨#[10]⟩] w (LinesPost s w) := by
  obtain ⟨m, hm⟩ := E.most
  refine (Tryz.strings_Split s ⟨#[10]⟩ m w (by omega) hm (by decide)).mono ?_
  rintro e w' ⟨rfl, rfl⟩
  have h1 : (Lib.splitB ⟨#[10]⟩ 0 (Lib.countB s ⟨#[10]⟩) s).map bl = linesL (bl s) := by
    have h := Lib.splitB_data ⟨#[10]⟩ 0 (Lib.countB s ⟨#[10]⟩) s
    exact h.trans (splitK_lines _ _ (Nat.le_refl _))
  have hlen : (Lib.splitB ⟨#[10]⟩ 0 (Lib.countB s ⟨#[10]⟩) s).length = (linesL (bl s)).length := by rw [← h1, List.length_map]
  have hcnt : Lib.countB s ⟨#[10]⟩ + 1 = (linesL (bl s)).length := by
    rw [← hlen]; exact (Lib.splitB_all ⟨#[10]⟩ (by decide) 0 _ s rfl).symm
  have hc : scells (linesL (bl s)) = (Lib.splitB ⟨#[10]⟩ 0 (Lib.countB s ⟨#[10]⟩) s).map Value.string := by
    unfold scells
    rw [← h1, List.map_map]
    apply List.map_congr_left
    intro x _
    show Value.string (sb (bl x)) = _
    rw [sb_bl]
  refine ⟨_, rfl, ?_, (Below.refl _ _).alloc (Nat.le_refl _) _⟩
  rw [hcnt, hc]
  exact rdT_new w _ _ 1 _ (by rw [List.length_map, hlen, Nat.mul_one]) (by have := linesL_len (bl s); rw [bl_len] at this; unfold maxLen; omega)

/-! ### flightdeckref08.Lines -/
/-- no newline in s from b to j -/
def NoNl (s : ByteArray) (b j : Nat) : Prop := (10 : UInt8) ∉ ((bl s).drop b).take (j - b)
theorem noNl_self (s : ByteArray) (b : Nat) : NoNl s b b := by unfold NoNl; rw [Nat.sub_self]; simp
theorem noNl_succ {s : ByteArray} {b j : Nat} (hb : b ≤ j) (hj : j < s.size) (hc : (s[j].toNat : Int) ≠ 10) (h : NoNl s b j) : NoNl s b (j + 1) := by
  unfold NoNl at *
  have hl : j - b < ((bl s).drop b).length := by rw [List.length_drop, bl_len]; omega
  rw [show j + 1 - b = (j - b) + 1 by omega, List.take_succ_eq_append_getElem hl, List.mem_append, List.mem_singleton, List.getElem_drop]
  rintro (e | e)
  · exact h e
  · apply hc
    have : (bl s)[b + (j - b)]'(by rw [bl_len]; omega) = s[j] := by
      have hh : b + (j - b) = j := by omega
      simp only [hh]; rfl
    rw [this] at e
    rw [← e]; rfl
theorem lines_nl {s : ByteArray} {b j : Nat} (hb : b ≤ j) (hj : j < s.size) (hc : (s[j].toNat : Int) = 10) (h : NoNl s b j) : linesL ((bl s).drop b) = bl (s.extract b j) :: linesL ((bl s).drop (j + 1)) := by
  have hl : j - b < ((bl s).drop b).length := by rw [List.length_drop, bl_len]; omega
  have h1 : (bl s).drop b = ((bl s).drop b).take (j - b) ++ (10 : UInt8) :: (bl s).drop (j + 1) := by
    conv => lhs; rw [← List.take_append_drop (j - b) ((bl s).drop b)]
    rw [List.drop_drop, show b + (j - b) = j by omega, List.drop_eq_getElem_cons (show j < (bl s).length from hj)]
    have e10 : s[j] = 10 := by apply UInt8.toNat_inj.1; show s[j].toNat = 10; omega
    exact congrArg (fun c : UInt8 => ((bl s).drop b).take (j - b) ++ c :: (bl s).drop (j + 1)) e10
  rw [bl_extract, linesL_cut, h1, cutAt_mid (by unfold NoNl at h; exact h), if_pos rfl, ← h1]
theorem lines_end {s : ByteArray} {b : Nat} (hb : b ≤ s.size) (h : NoNl s b s.size) : linesL ((bl s).drop b) = [bl (s.extract b s.size)] := by
  have e : ((bl s).drop b).take (s.size - b) = (bl s).drop b := List.take_of_length_le (by rw [List.length_drop, bl_len]; omega)
  unfold NoNl at h
  rw [e] at h
  rw [bl_extract, e, linesL_cut, cutAt_none h, if_neg Bool.false_ne_true]
theorem scells_snoc (l : List (List UInt8)) (x : ByteArray) : scells (l ++ [bl x]) = scells l ++ [.string x] := by
  unfold scells; rw [List.map_append]
  show _ ++ [Value.string (sb (bl x))] = _
  rw [sb_bl]
theorem string_step {base : Nat} {w0 wr w' : World} {v v' : Value} {e : TypeId} {done : List (List UInt8)} {t : ByteArray} {o : Obj}
    (hlt : ∀ k, v.ownBlock = some k → base ≤ k ∧ k < wr.heap.size) (hb : Below base w0 wr) (hown' : w'.ownsRow base e 1 v' (done.length + 1) (scells done ++ [.string t])) (hg : (wr.alloc o).grownBy w' v.ownBlock) (hB : base ≤ wr.heap.size) :
    w'.ownsRow base e 1 v' (done ++ [bl t]).length (scells (done ++ [bl t])) ∧ Below base w0 w' := by
  refine ⟨?_, (hb.alloc hB o).grown hg (by simp; omega) (fun k hk => (hlt k hk).1)⟩
  rw [scells_snoc, List.length_append]
  exact hown'
set_option maxRecDepth 100000 in
set_option maxHeartbeats 4000000 in
theorem rlines_any (s : ByteArray) (w : World) (hs : s.size ≤ 1048576) :
    Calls Tryz.prog 200 #[.string s] w (LinesPost s w) := by
  obtain ⟨i0, hi, hz0, hz1, hz2⟩ := info_parts infoString
  obtain ⟨all, hall⟩ : ∃ all, linesL (bl s) = all := ⟨_, rfl⟩
  have HALL := Lib.hid hall
  clear hall
  go_enter Tryz.func200, Tryz.ntmps200
  go_wp2
  go_loopw [3, 4, 5] (fun v bv i wr => ∃ (j b : Nat) (done : List (List UInt8)), i = .int .i64 j ∧ bv = .int .i64 b ∧ b ≤ j ∧ done.length ≤ j ∧ wr.ownsRow w.heap.size 9 1 v done.length (scells done) ∧ Below w.heap.size w wr ∧
    ((j ≤ s.size ∧ Hid (NoNl s b j ∧ all = done ++ linesL ((bl s).drop b))) ∨ (j = s.size + 1 ∧ Hid (all = done)))) (fun _ _ i _ => s.size + 2 - (intOf i).toNat)
  case atStart => exact ⟨0, 0, [], rfl, rfl, Nat.le_refl _, Nat.le_refl _, World.ownsRow_nil _ _ _ _, Below.refl _ _, .inl ⟨Nat.zero_le _, noNl_self _ _, by rw [← HALL.out]; rfl⟩⟩
  case round =>
    obtain ⟨j, b, done, rfl, rfl, hbj, hdl, hown, hbr, hst⟩ := hrel
    rcases hst with ⟨hj, hst⟩ | ⟨hj, hdone⟩
    · have hlen2 : ∀ x : List UInt8, (done ++ [x]).length ≤ j + 1 := by intro x; simp; omega
      by_cases hjs : j < s.size
      · have hje : ((j : Int) == (s.size : Int)) = false := by rw [beq_eq_false_iff_ne]; omega
        by_cases h10 : (s[j].toNat : Int) = 10
        · have e10 : ((s[j].toNat : Int) == 10) = true := beq_iff_eq.2 h10
          have HB := Lib.hid (lines_nl hbj hjs h10 hst.out.1)
          clear h10
          go_wp2_with (at_builtin; refine wpList_append_own _ rfl (.tmp 22) (.tmp 27) 100 rfl w.heap.size 9 i0 (.string ⟨#[]⟩) 1 16 Tryz.underlying100 hi hz0 hz1 hz2 rfl (by decide) _ _ _ rfl (hown.alloc _) ⟨wr.heap.size, 0, none⟩ 1 1 [.string (s.extract b j)] rfl rfl (cell_one_new _ _ _) (by intro u hu; simp at hu; rcases hu with rfl; rfl) (by unfold maxLen; omega) (by omega) (by have := hbr.size; simp; omega) ?_)
          intro v' w' hown' hgrow _
          have R := string_step hown.lt hbr hown' hgrow hbr.size
          clear hown hown' hgrow
          go_wp2
          go_roundw
          case rel => exact ⟨j + 1, j + 1, _, by go_num, by go_num, Nat.le_refl _, hlen2 _, R.1, R.2, .inl ⟨hjs, noNl_self _ _, by rw [hst.out.2, HB.out, List.append_assoc]; rfl⟩⟩
          case measure => simp [intOf]; omega
        · have e10 : ((s[j].toNat : Int) == 10) = false := beq_eq_false_iff_ne.2 h10
          have HB := Lib.hid (noNl_succ hbj hjs h10 hst.out.1)
          clear h10
          go_wp2
          go_roundw
          case rel => exact ⟨j + 1, b, done, by go_num, rfl, by omega, by omega, hown, hbr, .inl ⟨hjs, HB.out, hst.out.2⟩⟩
          case measure => simp [intOf]; omega
      · have hje0 : j = s.size := by omega
        subst hje0
        have hje : ((s.size : Int) == (s.size : Int)) = true := by simp
        have HB := Lib.hid (lines_end hbj hst.out.1)
        go_wp2_with (at_builtin; refine wpList_append_own _ rfl (.tmp 22) (.tmp 27) 100 rfl w.heap.size 9 i0 (.string ⟨#[]⟩) 1 16 Tryz.underlying100 hi hz0 hz1 hz2 rfl (by decide) _ _ _ rfl (hown.alloc _) ⟨wr.heap.size, 0, none⟩ 1 1 [.string (s.extract b s.size)] rfl rfl (cell_one_new _ _ _) (by intro u hu; simp at hu; rcases hu with rfl; rfl) (by unfold maxLen; omega) (by omega) (by have := hbr.size; simp; omega) ?_)
        intro v' w' hown' hgrow _
        have R := string_step hown.lt hbr hown' hgrow hbr.size
        clear hown hown' hgrow
        go_wp2
        go_roundw
        case rel => exact ⟨s.size + 1, s.size + 1, _, by go_num, by go_num, Nat.le_refl _, hlen2 _, R.1, R.2, .inr ⟨rfl, Lib.hid (by rw [hst.out.2, HB.out])⟩⟩
        case measure => simp [intOf] <;> omega
    · have HF := Lib.hid (HALL.out.trans hdone.out)
      have hgt : (s.size : Int) < (j : Int) := by omega
      have H2 := Lib.hid hown
      clear hj hdl hown
      go_wp2
      go_ret
      refine ⟨_, rfl, ?_, hbr⟩
      rw [HF.out]
      exact RdT.of_own H2.out
end Go.Proofs.YtlgajjlnbcbijaaGreatDoor
