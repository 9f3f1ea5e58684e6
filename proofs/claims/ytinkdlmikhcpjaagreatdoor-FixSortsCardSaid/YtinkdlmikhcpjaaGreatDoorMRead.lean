/-
  Several texts as one.
  Contracts: the lines of a text: strings.Split by "\n"; flightdeckref08.Lines.
  Plain laws: the text of an altitude is read as that altitude.
  Contracts: distances as texts (DistText of both sides), and the plain law that the text of a distance is read as it.
  Contracts: distances read from texts: ParseDist of both sides.
  Contract: record.Split: the fields of a line.
  Contract: the reference's Split.
  Contracts: record.Read and flightdeckref08.Read: the records and the diagnostics of a source text.
  Contracts of the law's own helpers: cut, sameFields (at equal fields).
  Plain laws: the text of a window is read as that window; a text that is read is the text of what was read.
-/
import Derived.Test.YtinkdlmikhcpjaaGreatDoorMParse
import Derived.Lib.SplitLaws
import Derived.Test.YtinkdlmikhcpjaaGreatDoorMWords
namespace Go.Proofs.YtinkdlmikhcpjaaGreatDoor
open Go.RowKit
set_option linter.unusedVariables false
set_option linter.unusedSimpArgs false

/-- the lines of a text -/
def linesL : List UInt8 → List (List UInt8)
  | [] => [[]]
  | c :: l => if c = 10 then [] :: linesL l else (c :: (linesL l).headD []) :: (linesL l).tail
theorem linesL_ne (l : List UInt8) : linesL l ≠ [] := by
  cases l with
  | nil => simp [linesL]
  | cons c l => unfold linesL; split <;> simp
theorem linesL_eta (l : List UInt8) : (linesL l).headD [] :: (linesL l).tail = linesL l := by
  cases h : linesL l with
  | nil => exact absurd h (linesL_ne l)
  | cons a r => rfl
theorem linesL_cons (c : UInt8) (l : List UInt8) : linesL (c :: l) = if c = 10 then [] :: linesL l else (c :: (linesL l).headD []) :: (linesL l).tail := rfl
theorem linesL_cut (l : List UInt8) : linesL l = if (cutAt 10 l).2.2 then (cutAt 10 l).1 :: linesL (cutAt 10 l).2.1 else [l] := by
  induction l with
  | nil => rfl
  | cons c l ih =>
    rw [linesL_cons, cutAt_cons]
    by_cases h : c = 10
    · rw [if_pos h, if_pos h, if_pos rfl]
    · rw [if_neg h, if_neg h]
      rcases cutAt_spec 10 l with ⟨h1, _, _⟩ | ⟨h1, _, _, _⟩
      · rw [h1, if_pos rfl] at ih
        rw [ih, h1, if_pos rfl]; rfl
      · rw [h1, if_neg (by decide)] at ih
        rw [ih, h1, if_neg (by decide)]; rfl
theorem linesL_len (l : List UInt8) : (linesL l).length ≤ l.length + 1 := by
  induction l with
  | nil => simp [linesL]
  | cons c l ih =>
    unfold linesL
    have := linesL_eta l
    have h2 : (linesL l).length = (linesL l).tail.length + 1 := by rw [← this]; simp
    split
    · simp only [List.length_cons]; omega
    · simp only [List.length_cons]; omega
theorem linesL_mem (l : List UInt8) : ∀ x ∈ linesL l, x.length ≤ l.length := by
  induction l with
  | nil => simp [linesL]
  | cons c l ih =>
    have hh : (linesL l).headD [] ∈ linesL l := by
      rw [← linesL_eta l]; simp
    unfold linesL
    split
    · intro x hx
      simp only [List.mem_cons] at hx
      rcases hx with rfl | hx
      · simp
      · have := ih x hx; simp only [List.length_cons]; omega
    · intro x hx
      simp only [List.mem_cons] at hx
      rcases hx with rfl | hx
      · have := ih _ hh; simp only [List.length_cons]; omega
      · have := ih x (List.mem_of_mem_tail hx); simp only [List.length_cons]; omega

theorem countFrom_succ (sub : List UInt8) (fuel : Nat) (s : List UInt8) : Lib.countFrom sub (fuel + 1) s = if Lib.index s sub == -1 then 0 else 1 + Lib.countFrom sub fuel (s.drop ((Lib.index s sub).toNat + sub.length)) := rfl
theorem countFrom_one (c : UInt8) (fuel : Nat) (s : List UInt8) (h : s.length < fuel) : Lib.countFrom [c] fuel s = if (cutAt c s).2.2 then 1 + Lib.countFrom [c] (fuel - 1) (cutAt c s).2.1 else 0 := by
  match fuel, h with
  | fuel + 1, h =>
    rw [countFrom_succ]
    rcases index_one c s with ⟨h1, h2⟩ | ⟨i, h1, h2⟩
    · rw [h1, h2]; rfl
    · have e : ((i : Int) == -1) = false := by rw [beq_eq_false_iff_ne]; omega
      rw [h1, h2, e]
      rfl
theorem countFrom_fuel (c : UInt8) : ∀ (n : Nat) (f f' : Nat) (s : List UInt8), s.length ≤ n → s.length < f → s.length < f' → Lib.countFrom [c] f s = Lib.countFrom [c] f' s := by
  intro n
  induction n with
  | zero =>
    intro f f' s h h1 h2
    have : s = [] := List.eq_nil_of_length_eq_zero (by omega)
    subst this
    rw [countFrom_one c f [] h1, countFrom_one c f' [] h2]; rfl
  | succ n ih =>
    intro f f' s h h1 h2
    rw [countFrom_one c f s h1, countFrom_one c f' s h2]
    rcases cutAt_spec c s with ⟨k1, k2, _⟩ | ⟨k1, _⟩
    · have hl : (cutAt c s).2.1.length < s.length := by
        have := congrArg List.length k2
        rw [List.length_append, List.length_cons] at this
        omega
      rw [k1, ih (f - 1) (f' - 1) _ (by omega) (by omega) (by omega)]
    · rw [k1]; rfl
theorem splitK_lines : ∀ (n : Nat) (s : List UInt8), s.length ≤ n → Lib.splitK [10] 0 (Lib.count s [10]) s = linesL s := by
  intro n
  induction n with
  | zero =>
    intro s h
    have : s = [] := List.eq_nil_of_length_eq_zero (by omega)
    subst this
    rfl
  | succ n ih =>
    intro s h
    rw [linesL_cut]
    unfold Lib.count
    rw [countFrom_one 10 _ s (by omega)]
    rcases index_one 10 s with ⟨h1, h2⟩ | ⟨i, h1, h2⟩
    · rw [h2]; rfl
    · have hl : (s.drop (i + 1)).length < s.length := by
        rcases cutAt_spec 10 s with ⟨k1, k2, _⟩ | ⟨k1, _⟩
        · rw [h2] at k2
          have := congrArg List.length k2
          rw [List.length_append, List.length_cons] at this
          simp only [] at this ⊢
          omega
        · rw [h2] at k1; cases k1
      rw [h2]
      simp only [if_true, Nat.add_sub_cancel]
      have e : ((i : Int) == -1) = false := by rw [beq_eq_false_iff_ne]; omega
      rw [Nat.add_comm 1, Lib.splitK, h1, e]
      simp only [Bool.false_eq_true, if_false, List.length_cons, List.length_nil, Int.toNat_natCast, Nat.add_zero]
      rw [countFrom_fuel 10 s.length s.length ((s.drop (i + 1)).length + 1) _ (by omega) (by omega) (by omega)]
      have := ih (s.drop (i + 1)) (by omega)
      unfold Lib.count at this
      rw [Nat.zero_add, this]
/-- a block that the call just laid -/
theorem rdT_new (w : World) (cs : List Value) (e : TypeId) (size n : Nat) (h : cs.length = n * size) (hm : n ≤ maxLen) : RdT (w.alloc (.cells cs.toArray e)) e size (.slice (some ⟨w.heap.size, 0, none⟩) n n) n cs := by
  have hh : (w.alloc (.cells cs.toArray e)).heap[w.heap.size]? = some (.cells cs.toArray e) := heap_alloc_new w _
  refine ⟨⟨h, _, n, rfl, Nat.le_refl _, hm, fun _ => ⟨w.heap.size, 0, rfl, heap_lt hh, fun j u hu => ?_⟩⟩, .inr ⟨_, _, _, _, _, rfl, hh⟩⟩
  rw [Nat.zero_add, cell_of_row _ _ _ _ _ _ hh]
  simpa using hu
def scells (l : List (List UInt8)) : List Value := l.map fun x => .string (sb x)
/-- the lines of a text, as a slice of strings of the call's own -/
def LinesPost (s : ByteArray) (w : World) (e : Ending) (w' : World) : Prop :=
  ∃ v, e = .returned v ∧ RdT w' 9 1 v (linesL (bl s)).length (scells (linesL (bl s))) ∧ Below w.heap.size w w'
theorem splitNl (s : ByteArray) (w : World) (E : Env w) (hs : s.size ≤ 1048576) :
    Calls Tryz.prog 125 #[.string s, .string ⟨#[10]⟩] w (LinesPost s w) := by
  obtain ⟨m, hm⟩ := E.most
  refine (Tryz.strings_Split s ⟨#[10]⟩ m w (by omega) hm (by decide)).mono ?_
  rintro e w' ⟨rfl, rfl⟩
  have h1 : (Lib.splitB ⟨#[10]⟩ 0 (Lib.countB s ⟨#[10]⟩) s).map bl = linesL (bl s) := by
    have h := Lib.splitB_data ⟨#[10]⟩ 0 (Lib.countB s ⟨#[10]⟩) s
    exact h.trans (splitK_lines _ _ (Nat.le_refl _))
  have hlen : (Lib.splitB ⟨#[10]⟩ 0 (Lib.countB s ⟨#[10]⟩) s).length = (linesL (bl s)).length := by rw [← h1, List.length_map]
  have hcnt : Lib.countB s ⟨#[10]⟩ + 1 = (linesL (bl s)).length := by
    rw [← hlen]; exact (Lib.splitB_all ⟨#[10]⟩ (by decide) 0 _ s rfl).symm
  have hc : scells (linesL (bl s)) = (Lib.splitB ⟨#[10]⟩ 0 (Lib.countB s ⟨#[10]⟩) s).map Value.string := by
    unfold scells
    rw [← h1, List.map_map]
    apply List.map_congr_left
    intro x _
    show Value.string (sb (bl x)) = _
    rw [sb_bl]
  refine ⟨_, rfl, ?_, (Below.refl _ _).alloc (Nat.le_refl _) _⟩
  rw [hcnt, hc]
  exact rdT_new w _ _ 1 _ (by rw [List.length_map, hlen, Nat.mul_one]) (by have := linesL_len (bl s); rw [bl_len] at this; unfold maxLen; omega)

/-! ### flightdeckref08.Lines -/
/-- no newline in s from b to j -/
def NoNl (s : ByteArray) (b j : Nat) : Prop := (10 : UInt8) ∉ ((bl s).drop b).take (j - b)
theorem noNl_self (s : ByteArray) (b : Nat) : NoNl s b b := by unfold NoNl; rw [Nat.sub_self]; simp
theorem noNl_succ {s : ByteArray} {b j : Nat} (hb : b ≤ j) (hj : j < s.size) (hc : (s[j].toNat : Int) ≠ 10) (h : NoNl s b j) : NoNl s b (j + 1) := by
  unfold NoNl at *
  have hl : j - b < ((bl s).drop b).length := by rw [List.length_drop, bl_len]; omega
  rw [show j + 1 - b = (j - b) + 1 by omega, List.take_succ_eq_append_getElem hl, List.mem_append, List.mem_singleton, List.getElem_drop]
  rintro (e | e)
  · exact h e
  · apply hc
    have : (bl s)[b + (j - b)]'(by rw [bl_len]; omega) = s[j] := by
      have hh : b + (j - b) = j := by omega
      simp only [hh]; rfl
    rw [this] at e
    rw [← e]; rfl
theorem lines_nl {s : ByteArray} {b j : Nat} (hb : b ≤ j) (hj : j < s.size) (hc : (s[j].toNat : Int) = 10) (h : NoNl s b j) : linesL ((bl s).drop b) = bl (s.extract b j) :: linesL ((bl s).drop (j + 1)) := by
  have hl : j - b < ((bl s).drop b).length := by rw [List.length_drop, bl_len]; omega
  have h1 : (bl s).drop b = ((bl s).drop b).take (j - b) ++ (10 : UInt8) :: (bl s).drop (j + 1) := by
    conv => lhs; rw [← List.take_append_drop (j - b) ((bl s).drop b)]
    rw [List.drop_drop, show b + (j - b) = j by omega, List.drop_eq_getElem_cons (show j < (bl s).length from hj)]
    have e10 : s[j] = 10 := by apply UInt8.toNat_inj.1; show s[j].toNat = 10; omega
    exact congrArg (fun c : UInt8 => ((bl s).drop b).take (j - b) ++ c :: (bl s).drop (j + 1)) e10
  rw [bl_extract, linesL_cut, h1, cutAt_mid (by unfold NoNl at h; exact h), if_pos rfl, ← h1]
theorem lines_end {s : ByteArray} {b : Nat} (hb : b ≤ s.size) (h : NoNl s b s.size) : linesL ((bl s).drop b) = [bl (s.extract b s.size)] := by
  have e : ((bl s).drop b).take (s.size - b) = (bl s).drop b := List.take_of_length_le (by rw [List.length_drop, bl_len]; omega)
  unfold NoNl at h
  rw [e] at h
  rw [bl_extract, e, linesL_cut, cutAt_none h, if_neg Bool.false_ne_true]
theorem scells_snoc (l : List (List UInt8)) (x : ByteArray) : scells (l ++ [bl x]) = scells l ++ [.string x] := by
  unfold scells; rw [List.map_append]
  show _ ++ [Value.string (sb (bl x))] = _
  rw [sb_bl]
theorem string_step {base : Nat} {w0 wr w' : World} {v v' : Value} {e : TypeId} {done : List (List UInt8)} {t : ByteArray} {o : Obj}
    (hlt : ∀ k, v.ownBlock = some k → base ≤ k ∧ k < wr.heap.size) (hb : Below base w0 wr) (hown' : w'.ownsRow base e 1 v' (done.length + 1) (scells done ++ [.string t])) (hg : (wr.alloc o).grownBy w' v.ownBlock) (hB : base ≤ wr.heap.size) :
    w'.ownsRow base e 1 v' (done ++ [bl t]).length (scells (done ++ [bl t])) ∧ Below base w0 w' := by
  refine ⟨?_, (hb.alloc hB o).grown hg (by simp; omega) (fun k hk => (hlt k hk).1)⟩
  rw [scells_snoc, List.length_append]
  exact hown'
set_option maxRecDepth 100000 in
set_option maxHeartbeats 4000000 in
theorem rlines_any (s : ByteArray) (w : World) (hs : s.size ≤ 1048576) :
    Calls Tryz.prog 126 #[.string s] w (LinesPost s w) := by
  obtain ⟨i0, hi, hz0, hz1, hz2⟩ := info_parts infoString
  obtain ⟨all, hall⟩ : ∃ all, linesL (bl s) = all := ⟨_, rfl⟩
  have HALL := Lib.hid hall
  clear hall
  go_enter Tryz.func126, Tryz.ntmps126
  go_wp2
  go_loopw [3, 4, 5] (fun v bv i wr => ∃ (j b : Nat) (done : List (List UInt8)), i = .int .i64 j ∧ bv = .int .i64 b ∧ b ≤ j ∧ done.length ≤ j ∧ wr.ownsRow w.heap.size 9 1 v done.length (scells done) ∧ Below w.heap.size w wr ∧
    ((j ≤ s.size ∧ Hid (NoNl s b j ∧ all = done ++ linesL ((bl s).drop b))) ∨ (j = s.size + 1 ∧ Hid (all = done)))) (fun _ _ i _ => s.size + 2 - (intOf i).toNat)
  case atStart => exact ⟨0, 0, [], rfl, rfl, Nat.le_refl _, Nat.le_refl _, World.ownsRow_nil _ _ _ _, Below.refl _ _, .inl ⟨Nat.zero_le _, noNl_self _ _, by rw [← HALL.out]; rfl⟩⟩
  case round =>
    obtain ⟨j, b, done, rfl, rfl, hbj, hdl, hown, hbr, hst⟩ := hrel
    rcases hst with ⟨hj, hst⟩ | ⟨hj, hdone⟩
    · have hlen2 : ∀ x : List UInt8, (done ++ [x]).length ≤ j + 1 := by intro x; simp; omega
      by_cases hjs : j < s.size
      · have hje : ((j : Int) == (s.size : Int)) = false := by rw [beq_eq_false_iff_ne]; omega
        by_cases h10 : (s[j].toNat : Int) = 10
        · have e10 : ((s[j].toNat : Int) == 10) = true := beq_iff_eq.2 h10
          have HB := Lib.hid (lines_nl hbj hjs h10 hst.out.1)
          clear h10
          go_wp2_with (at_builtin; refine wpList_append_own _ rfl (.tmp 22) (.tmp 27) 45 rfl w.heap.size 9 i0 (.string ⟨#[]⟩) 1 16 Tryz.underlying45 hi hz0 hz1 hz2 rfl (by decide) _ _ _ rfl (hown.alloc _) ⟨wr.heap.size, 0, none⟩ 1 1 [.string (s.extract b j)] rfl rfl (cell_one_new _ _ _) (by intro u hu; simp at hu; rcases hu with rfl; rfl) (by unfold maxLen; omega) (by omega) (by have := hbr.size; simp; omega) ?_)
          intro v' w' hown' hgrow _
          have R := string_step hown.lt hbr hown' hgrow hbr.size
          clear hown hown' hgrow
          go_wp2
          go_roundw
          case rel => exact ⟨j + 1, j + 1, _, by go_num, by go_num, Nat.le_refl _, hlen2 _, R.1, R.2, .inl ⟨hjs, noNl_self _ _, by rw [hst.out.2, HB.out, List.append_assoc]; rfl⟩⟩
          case measure => simp [intOf]; omega
        · have e10 : ((s[j].toNat : Int) == 10) = false := beq_eq_false_iff_ne.2 h10
          have HB := Lib.hid (noNl_succ hbj hjs h10 hst.out.1)
          clear h10
          go_wp2
          go_roundw
          case rel => exact ⟨j + 1, b, done, by go_num, rfl, by omega, by omega, hown, hbr, .inl ⟨hjs, HB.out, hst.out.2⟩⟩
          case measure => simp [intOf]; omega
      · have hje0 : j = s.size := by omega
        subst hje0
        have hje : ((s.size : Int) == (s.size : Int)) = true := by simp
        have HB := Lib.hid (lines_end hbj hst.out.1)
        go_wp2_with (at_builtin; refine wpList_append_own _ rfl (.tmp 22) (.tmp 27) 45 rfl w.heap.size 9 i0 (.string ⟨#[]⟩) 1 16 Tryz.underlying45 hi hz0 hz1 hz2 rfl (by decide) _ _ _ rfl (hown.alloc _) ⟨wr.heap.size, 0, none⟩ 1 1 [.string (s.extract b s.size)] rfl rfl (cell_one_new _ _ _) (by intro u hu; simp at hu; rcases hu with rfl; rfl) (by unfold maxLen; omega) (by omega) (by have := hbr.size; simp; omega) ?_)
        intro v' w' hown' hgrow _
        have R := string_step hown.lt hbr hown' hgrow hbr.size
        clear hown hown' hgrow
        go_wp2
        go_roundw
        case rel => exact ⟨s.size + 1, s.size + 1, _, by go_num, by go_num, Nat.le_refl _, hlen2 _, R.1, R.2, .inr ⟨rfl, Lib.hid (by rw [hst.out.2, HB.out])⟩⟩
        case measure => simp [intOf] <;> omega
    · have HF := Lib.hid (HALL.out.trans hdone.out)
      have hgt : (s.size : Int) < (j : Int) := by omega
      have H2 := Lib.hid hown
      clear hj hdl hown
      go_wp2
      go_ret
      refine ⟨_, rfl, ?_, hbr⟩
      rw [HF.out]
      exact RdT.of_own H2.out
end Go.Proofs.YtinkdlmikhcpjaaGreatDoor
namespace Go.Proofs.YtinkdlmikhcpjaaGreatDoor
set_option linter.unusedVariables false
set_option linter.unusedSimpArgs false

theorem dig_nat {d : Nat} (h : d < 10) : (UInt8.ofNat (48 + d)).toNat = 48 + d := by
  rw [UInt8.toNat_ofNat']; omega
theorem dig_B {d : Nat} (h : d < 10) : digitB (UInt8.ofNat (48 + d)) = true := by
  unfold digitB; rw [dig_nat h]; simp; omega
theorem digFrom_snoc (a : Nat) (l : List UInt8) (c : UInt8) : digFrom a (l ++ [c]) = 10 * digFrom a l + (c.toNat - 48) := by
  unfold digFrom; rw [List.foldl_append]; rfl
theorem dec_all (n : Nat) : (Lib.decDigits n).all digitB = true := by
  induction n using Nat.strongRecOn with
  | _ n ih =>
    by_cases h : n < 10
    · rw [decDigits_small h, List.all_cons, dig_B h]; rfl
    · rw [decDigits_big h, List.all_append, ih (n / 10) (by omega), List.all_cons, dig_B (by omega)]; rfl
theorem dec_val (n : Nat) : digVal (Lib.decDigits n) = n := by
  induction n using Nat.strongRecOn with
  | _ n ih =>
    by_cases h : n < 10
    · rw [decDigits_small h]
      show 10 * 0 + ((UInt8.ofNat (48 + n)).toNat - 48) = n
      rw [dig_nat h]; omega
    · rw [decDigits_big h]
      unfold digVal at ih ⊢
      rw [digFrom_snoc, ih (n / 10) (by omega), dig_nat (by omega)]; omega
theorem dec_ne (n : Nat) : Lib.decDigits n ≠ [] := by
  by_cases h : n < 10
  · rw [decDigits_small h]; simp
  · rw [decDigits_big h]; simp
theorem headD_append {l r : List UInt8} (h : l ≠ []) : (l ++ r).headD 0 = l.headD 0 := by
  cases l with
  | nil => exact absurd rfl h
  | cons a l => rfl
theorem dec_head (n : Nat) : (n = 0 ∧ Lib.decDigits n = [48]) ∨ (0 < n ∧ 48 < ((Lib.decDigits n).headD 0).toNat) := by
  induction n using Nat.strongRecOn with
  | _ n ih =>
    by_cases h : n < 10
    · by_cases h0 : n = 0
      · subst h0; exact .inl ⟨rfl, by rw [decDigits_small (by omega)]; rfl⟩
      · right
        rw [decDigits_small h]
        show 0 < n ∧ 48 < (UInt8.ofNat (48 + n)).toNat
        rw [dig_nat h]; omega
    · right
      rw [decDigits_big h, headD_append (dec_ne _)]
      rcases ih (n / 10) (by omega) with h1 | h1
      · omega
      · exact ⟨by omega, h1.2⟩
theorem dec_zeroAhead (n : Nat) : zeroAhead (Lib.decDigits n) = false := by
  unfold zeroAhead
  rcases dec_head n with ⟨_, h⟩ | ⟨_, h⟩
  · rw [h]; rfl
  · have e : ((Lib.decDigits n).headD 0 == 48) = false := by
      rw [beq_eq_false_iff_ne]; intro e; rw [e] at h; exact absurd h (by decide)
    rw [e, Bool.and_false]
theorem dec_plain (n : Nat) : plainB (Lib.decDigits n) = true := by
  unfold plainB
  rw [dec_zeroAhead, dec_all, List.isEmpty_eq_false_iff.2 (dec_ne n)]; rfl
theorem notin_digits {l : List UInt8} {c : UInt8} (h : l.all digitB = true) (hc : digitB c = false) : c ∉ l := by
  intro hm
  have := List.all_eq_true.1 h c hm
  rw [hc] at this; cases this
theorem headIs_append {c : UInt8} {l r : List UInt8} (h0 : l ≠ []) (h : c ∉ l) : headIs c (l ++ r) = false := by
  cases l with
  | nil => exact absurd rfl h0
  | cons a l =>
    have : a ≠ c := fun e => h (by rw [e]; simp)
    simp [headIs, this]
theorem pair_dec {x y : Nat} (hx : x < 10) (hy : y < 10) (h : ¬ (x = 0 ∧ y = 0)) : pairB (Lib.decDigits x ++ Lib.decDigits y) = true ∧ digVal (Lib.decDigits x ++ Lib.decDigits y) = 10 * x + y := by
  rw [decDigits_small hx, decDigits_small hy]
  constructor
  · unfold pairB
    have e1 : ([UInt8.ofNat (48 + x)] ++ [UInt8.ofNat (48 + y)]).all digitB = true := by
      simp only [List.cons_append, List.nil_append, List.all_cons, List.all_nil, dig_B hx, dig_B hy]; rfl
    have e2 : (([UInt8.ofNat (48 + x)] ++ [UInt8.ofNat (48 + y)]) == [48, 48]) = false := by
      rw [beq_eq_false_iff_ne]
      intro e
      simp only [List.cons_append, List.nil_append, List.cons.injEq, and_true] at e
      have a1 := congrArg UInt8.toNat e.1
      have a2 := congrArg UInt8.toNat e.2
      rw [dig_nat hx] at a1
      rw [dig_nat hy] at a2
      have b1 : (48 : UInt8).toNat = 48 := rfl
      omega
    rw [e1, e2]; rfl
  · show 10 * (10 * 0 + ((UInt8.ofNat (48 + x)).toNat - 48)) + ((UInt8.ofNat (48 + y)).toNat - 48) = _
    rw [dig_nat hx, dig_nat hy]; omega
/-- the parts of the text of an altitude without its sign -/
theorem altAbs_cut (b : Nat) : ∃ p f, cutAt 46 (altAbs b) = (Lib.decDigits (b / 100), p, f) ∧ (∀ g, altOf g (Lib.decDigits (b / 100)) p f = if g then (if b = 0 then none else some (-(b : Int))) else some (b : Int)) := by
  have hn : (46 : UInt8) ∉ Lib.decDigits (b / 100) := notin_digits (dec_all _) (by decide)
  by_cases h : b % 100 = 0
  · refine ⟨[], false, by rw [altAbs_whole h, cutAt_none hn], fun g => ?_⟩
    have e : b / 100 * 100 = b := by omega
    unfold altOf
    simp only [dec_plain, dec_val, e, Bool.not_false, Bool.true_or, Bool.and_self, if_true, Bool.false_eq_true, if_false, Nat.add_zero]
  · obtain ⟨k1, k2⟩ := @pair_dec (b % 100 / 10) (b % 10) (by omega) (by omega) (by omega)
    refine ⟨Lib.decDigits (b % 100 / 10) ++ Lib.decDigits (b % 10), true, ?_, fun g => ?_⟩
    · rw [altAbs_part h, List.cons_append, cutAt_mid hn]
    · have e : b / 100 * 100 + (10 * (b % 100 / 10) + b % 10) = b := by omega
      unfold altOf
      simp only [dec_plain, dec_val, k1, k2, e, Bool.not_true, Bool.false_or, Bool.and_self, if_true]
theorem altAbs_head (b : Nat) {c : UInt8} (hc : digitB c = false) : headIs c (altAbs b) = false := by
  unfold altAbs
  exact headIs_append (dec_ne _) (notin_digits (dec_all _) hc)
/-- the text of an altitude is read as that altitude -/
theorem altSpec_altOut {a : Int} (h : rangedB a = true) : altSpec (altOut a) = some a := by
  have hr : -200000 ≤ a ∧ a ≤ 6000000 := by unfold rangedB at h; simpa using h
  by_cases hn : a < 0
  · obtain ⟨b, rfl⟩ : ∃ b : Nat, a = -(b : Int) := ⟨(-a).toNat, by omega⟩
    obtain ⟨p, f, h1, h2⟩ := altAbs_cut b
    rw [altOut_neg (by omega) (by omega), altSpec_eq (g := true) (r := altAbs b) (by simp [headIs]) rfl h1, h2, if_pos rfl, if_neg (by omega)]
  · obtain ⟨b, rfl⟩ := Int.eq_ofNat_of_zero_le (a := a) (by omega)
    obtain ⟨p, f, h1, h2⟩ := altAbs_cut b
    rw [altOut_pos (by omega), altSpec_eq (g := false) (r := altAbs b) (altAbs_head b (by decide)).symm rfl h1, h2, if_neg (by decide)]
theorem pAlt_altOut {a : Int} (h : rangedB a = true) : pAltN (altSpec (altOut a)) = a ∧ pAltE (altSpec (altOut a)) = 0 := by
  rw [altSpec_altOut h]
  exact ⟨if_pos h, if_pos h⟩
end Go.Proofs.YtinkdlmikhcpjaaGreatDoor
namespace Go.Proofs.YtinkdlmikhcpjaaGreatDoor
open Go.RowKit
set_option linter.unusedVariables false
set_option linter.unusedSimpArgs false

def distAbs (b : Nat) : List UInt8 := Lib.decDigits (b / 6000) ++ (if b % 6000 = 0 then [] else 43 :: Lib.decDigits (b % 6000))
theorem distAbs_whole {b : Nat} (h : b % 6000 = 0) : distAbs b = Lib.decDigits (b / 6000) := by unfold distAbs; rw [if_pos h, List.append_nil]
theorem distAbs_part {b : Nat} (h : ¬ b % 6000 = 0) : distAbs b = Lib.decDigits (b / 6000) ++ (43 :: Lib.decDigits (b % 6000)) := by unfold distAbs; rw [if_neg h]
theorem distAbs_len {b : Nat} (h : b ≤ 8000000) : (distAbs b).length ≤ 20000 := by
  have h1 := decDigits_len (b / 6000)
  have h2 := decDigits_len (b % 6000)
  by_cases h0 : b % 6000 = 0
  · rw [distAbs_whole h0]; omega
  · rw [distAbs_part h0, List.length_append, List.length_cons]; omega
def distGood (d : Int) : Bool := decide (0 ≤ d) && decide (d ≤ 8000000)
def distOut (d : Int) : List UInt8 := if distGood d then distAbs d.toNat else []
def distErr (d : Int) : Int := if distGood d then 0 else 2
theorem distGood_iff {d : Int} : distGood d = true ↔ 0 ≤ d ∧ d ≤ 8000000 := by unfold distGood; simp
theorem dist_bad {d : Int} (h : d < 0 ∨ 8000000 < d) : distGood d = false := by
  rw [← Bool.not_eq_true, distGood_iff]; omega
/-- the distance of a text -/
def distOf (a b : List UInt8) (f : Bool) : Option Int :=
  if plainB a && (!f || (plainB b && !(b == [48]) && decide (b.length ≤ 4) && decide (digVal b < 6000))) then some ((digVal a * 6000 + (if f then digVal b else 0) : Nat) : Int) else none
def distSpec (l : List UInt8) : Option Int := distOf (cutAt 43 l).1 (cutAt 43 l).2.1 (cutAt 43 l).2.2
theorem distSpec_eq {l a b : List UInt8} {f : Bool} (h : cutAt 43 l = (a, b, f)) : distSpec l = distOf a b f := by unfold distSpec; rw [h]
def distN (o : Option Int) : Int := match o with | some v => if v ≤ 8000000 then v else 0 | none => 0
def distE (o : Option Int) : Int := match o with | some v => if v ≤ 8000000 then 0 else 2 | none => 4
/-- the text of a distance is read as it -/
theorem distSpec_out {d : Int} (h : distGood d = true) : distSpec (distOut d) = some d := by
  have hr := distGood_iff.1 h
  obtain ⟨b, rfl⟩ := Int.eq_ofNat_of_zero_le (a := d) hr.1
  unfold distOut
  rw [if_pos h, Int.toNat_natCast]
  have hn : (43 : UInt8) ∉ Lib.decDigits (b / 6000) := notin_digits (dec_all _) (by decide)
  by_cases h0 : b % 6000 = 0
  · rw [distAbs_whole h0, distSpec_eq (cutAt_none hn)]
    unfold distOf
    rw [dec_plain, dec_val, show b / 6000 * 6000 + (if false = true then digVal [] else 0) = b by simp; omega]
    rfl
  · rw [distAbs_part h0, distSpec_eq (cutAt_mid hn)]
    unfold distOf
    have e1 : (Lib.decDigits (b % 6000) == [48]) = false := by
      rw [beq_eq_false_iff_ne]
      intro e
      have := dec_val (b % 6000)
      rw [e] at this
      exact h0 this.symm
    have hl4 : ∀ n : Nat, n < 10000 → (Lib.decDigits n).length ≤ 4 := by
      intro n hn
      by_cases h1 : n < 10
      · rw [decDigits_small h1]; simp
      · rw [decDigits_big h1, List.length_append, List.length_singleton]
        by_cases h2 : n / 10 < 10
        · rw [decDigits_small h2]; simp
        · rw [decDigits_big h2, List.length_append, List.length_singleton]
          by_cases h3 : n / 10 / 10 < 10
          · rw [decDigits_small h3]; simp
          · rw [decDigits_big h3, List.length_append, List.length_singleton, decDigits_small (by omega)]; simp
    rw [dec_plain, dec_plain, dec_val, dec_val, e1, decide_eq_true (hl4 _ (by omega)), decide_eq_true (by omega), show b / 6000 * 6000 + (if true = true then b % 6000 else 0) = b by simp; omega]
    rfl
theorem dist_back {d : Int} (h : distGood d = true) : distN (distSpec (distOut d)) = d ∧ distE (distSpec (distOut d)) = 0 := by
  rw [distSpec_out h]
  have hr := distGood_iff.1 h
  exact ⟨if_pos hr.2, if_pos hr.2⟩

set_option maxHeartbeats 400000 in
theorem distText_bad (a : Int) (w : World) (h : a < 0 ∨ 8000000 < a) :
    Calls Tryz.prog 82 #[.int .i64 a] w fun e w' => ∃ t, e = .returned (.tuple #[.string t, .int .i64 2]) ∧ Hid (bl t = []) ∧ w = w' := by
  have h' : a < 0 ∨ 0 ≤ a ∧ 8000000 < a := by omega
  clear h
  rcases h' with h | ⟨h, h2⟩
  all_goals
    go_enter Tryz.func82, Tryz.ntmps82
    go_wp2
    go_ret2
    exact ⟨_, rfl, rfl, rfl⟩
set_option maxHeartbeats 400000 in
theorem distText_good (b : Nat) (w : World) (h2 : b ≤ 8000000) (E : Env w) :
    Calls Tryz.prog 82 #[.int .i64 (b : Int)] w fun e w' => ∃ t, e = .returned (.tuple #[.string t, .int .i64 0]) ∧ Hid (bl t = distAbs b) ∧ Below w.heap.size w w' := by
  have q1 := Lib.hid (show (b : Int) / 6000 = ((b / 6000 : Nat) : Int) by omega)
  have q2 := Lib.hid (show (b : Int) % 6000 = ((b % 6000 : Nat) : Int) by omega)
  by_cases hk : b % 6000 = 0
  · have hk' : ((b : Int) % 6000 != 0) = false := by simp only [bne_eq_false_iff_eq]; omega
    have HK := Lib.hid hk; clear hk
    go_enter Tryz.func82, Tryz.ntmps82
    go_wp2_with fail
    rw [q1.out]
    refine (fmt10 (b / 6000) (by omega) _ E).mono ?_
    rintro e w1 ⟨t1, rfl, ht1, hs1, hb1⟩
    go_wp2_with fail
    go_ret2
    refine ⟨_, rfl, ?_, hb1⟩
    show bl t1 = _
    rw [ht1.out, distAbs_whole HK.out]
  · have hk' : ((b : Int) % 6000 != 0) = true := by rw [bne_iff_ne]; omega
    have HK := Lib.hid hk; clear hk
    go_enter Tryz.func82, Tryz.ntmps82
    go_wp2_with fail
    rw [q1.out]
    refine (fmt10 (b / 6000) (by omega) _ E).mono ?_
    rintro e w1 ⟨t1, rfl, ht1, hs1, hb1⟩
    go_wp2_with fail
    rw [q2.out]
    refine (fmt10 (b % 6000) (by omega) _ (E.below hb1)).mono ?_
    rintro e w2 ⟨t2, rfl, ht2, hs2, hb2⟩
    go_wp2_with fail
    go_ret2
    refine ⟨_, rfl, ?_, (Below.then_ hb1 hb2)⟩
    first | show bl (t1 ++ (⟨#[43]⟩ ++ t2)) = _ | show bl (t1 ++ ⟨#[43]⟩ ++ t2) = _
    simp only [bl_append, ht1.out, ht2.out, distAbs_part HK.out, bl_mk, List.cons_append, List.nil_append, List.append_assoc]
/-- DistText at every distance -/
theorem distText_any (a : Int) (w : World) (E : Env w) :
    Calls Tryz.prog 82 #[.int .i64 a] w fun e w' => ∃ t, e = .returned (.tuple #[.string t, .int .i64 (distErr a)]) ∧ Hid (bl t = distOut a) ∧ t.size ≤ 20000 ∧ Below w.heap.size w w' := by
  by_cases h : a < 0 ∨ 8000000 < a
  · have hg := dist_bad h
    rw [show distErr a = 2 by unfold distErr; rw [hg]; rfl]
    refine (distText_bad a w h).mono ?_
    rintro e w' ⟨t, he, ht, hw⟩
    exact ⟨t, he, by unfold distOut; rw [hg]; exact ht, by rw [str_size ht]; simp, (by subst hw; exact Below.refl _ _)⟩
  · have hg : distGood a = true := distGood_iff.2 (by omega)
    rw [show distErr a = 0 by unfold distErr; rw [hg]; rfl]
    obtain ⟨b, rfl⟩ := Int.eq_ofNat_of_zero_le (a := a) (by omega)
    refine (distText_good b w (by omega) E).mono ?_
    rintro e w' ⟨t, he, ht, hw⟩
    exact ⟨t, he, by unfold distOut; rw [hg]; exact ht, by rw [str_size ht]; exact distAbs_len (by omega), hw⟩
end Go.Proofs.YtinkdlmikhcpjaaGreatDoor
namespace Go.Proofs.YtinkdlmikhcpjaaGreatDoor
open Go.RowKit
set_option linter.unusedVariables false
set_option linter.unusedSimpArgs false

theorem distOf_plain {a b : List UInt8} {f : Bool} (h : plainB a = false) : distOf a b f = none := by unfold distOf; rw [h]; rfl
theorem distOf_part {a b : List UInt8} (h : plainB b = false ∨ b = [48] ∨ 4 < b.length ∨ 6000 ≤ digVal b) : distOf a b true = none := by
  unfold distOf
  rw [if_neg]
  simp only [Bool.and_eq_true, Bool.or_eq_true, Bool.not_eq_true', beq_eq_false_iff_ne, decide_eq_true_eq]
  rintro ⟨_, h2 | ⟨⟨⟨h2, h3⟩, h4⟩, h5⟩⟩
  · cases h2
  · rcases h with h | h | h | h
    · rw [h] at h2; cases h2
    · exact h3 h
    · omega
    · omega
theorem distOf_one {a b : List UInt8} (h : plainB a = true) : distOf a b false = some ((digVal a * 6000 : Nat) : Int) := by
  unfold distOf; rw [h]; simp
theorem distOf_two {a b : List UInt8} (h : plainB a = true) (h2 : plainB b = true) (h3 : b ≠ [48]) (h4 : b.length ≤ 4) (h5 : digVal b < 6000) : distOf a b true = some ((digVal a * 6000 + digVal b : Nat) : Int) := by
  unfold distOf
  have e : (b == [48]) = false := beq_eq_false_iff_ne.2 h3
  rw [h, h2, e, decide_eq_true h4, decide_eq_true h5]; rfl
def DistPost (s : ByteArray) (w : World) (e : Ending) (w' : World) : Prop :=
  e = .returned (.tuple #[.int .i64 (distN (distSpec (bl s))), .int .i64 (distE (distSpec (bl s)))]) ∧ Below w.heap.size w w'
theorem distPost {s : ByteArray} {n k : Int} {o : Option Int} {w w' : World} (ho : distSpec (bl s) = o) (h1 : distN o = n) (h2 : distE o = k) (hb : Below w.heap.size w w') :
    DistPost s w (.returned (.tuple #[.int .i64 n, .int .i64 k])) w' := by
  subst ho h1 h2; exact ⟨rfl, hb⟩
theorem dist_out {v : Int} (h : 8000000 < v) : distN (some v) = 0 ∧ distE (some v) = 2 := ⟨if_neg (by omega), if_neg (by omega)⟩
theorem dist_in {v : Int} (h : v ≤ 8000000) : distN (some v) = v ∧ distE (some v) = 0 := ⟨if_pos (by omega), if_pos (by omega)⟩
/-- what is left when the part behind the sign is known: k units -/
theorem dist_far {a : List UInt8} (hp : plainB a = true) (hl : 9 < a.length) (k : Nat) : distN (some ((digVal a * 6000 + k : Nat) : Int)) = 0 ∧ distE (some ((digVal a * 6000 + k : Nat) : Int)) = 2 := by
  have := digVal_big hp (by omega)
  exact dist_out (by omega)

theorem dist_far0 {a : List UInt8} (hp : plainB a = true) (hl : 9 < a.length) : distN (some ((digVal a * 6000 : Nat) : Int)) = 0 ∧ distE (some ((digVal a * 6000 : Nat) : Int)) = 2 := by
  have := digVal_big hp (by omega)
  exact dist_out (by omega)

set_option maxRecDepth 100000 in
set_option maxHeartbeats 1000000 in
theorem parseDist_any (s : ByteArray) (w : World) (E : Env w) (hs : s.size ≤ 140737488351232) :
    Calls Tryz.prog 171 #[.string s] w (DistPost s w) := by
  go_enter Tryz.func171, Tryz.ntmps171
  go_wp2_with fail
  refine (cut1 s 43 _ E (by omega)).mono ?_
  rintro e w1 ⟨a, b, f, rfl, hcut, has, hbs, hb1⟩
  have hspec := Lib.hid (distSpec_eq hcut.out)
  have E1 := E.below hb1
  go_wp2_with fail
  refine (plain_any a _ (by unfold maxLen; omega)).mono ?_
  rintro e w' ⟨rfl, rfl⟩
  rcases hp : plainB (bl a) with _ | _
  · have HP := Lib.hid hp; clear hp
    go_wp2
    go_ret2
    exact distPost (hspec.out.trans (distOf_plain HP.out)) rfl rfl hb1
  have HP := Lib.hid hp; clear hp
  have hlen : a.size ≤ 9 ∨ 9 < a.size := by omega
  cases f
  · have hv := Lib.hid (hspec.out.trans (distOf_one HP.out))
    rcases hlen with hlen | hlen
    · go_wp2_with fail
      refine (parseInt_ok a _ (plainB_parts HP.out).1 (plainB_parts HP.out).2.2 (by omega)).mono ?_
      rintro e w2 ⟨n, rfl, hn, hn18, hb2⟩
      have hn9 := short_val hn.out (plainB_parts HP.out).2.2 (by omega)
      have hb := Below.then_ hb1 hb2
      by_cases hbig : 8000000 < (n : Int) * 6000
      · go_wp2
        go_ret2
        have hq := dist_out (v := ((digVal (bl a) * 6000 : Nat) : Int)) (by have := hn.out; omega)
        exact distPost hv.out hq.1 hq.2 hb
      · have hbig : (n : Int) * 6000 ≤ 8000000 := by omega
        go_wp2
        go_ret2
        have hq := dist_in (v := ((digVal (bl a) * 6000 : Nat) : Int)) (by have := hn.out; omega)
        exact distPost hv.out (hq.1.trans (by have := hn.out; omega)) hq.2 hb
    · go_wp2
      go_ret2
      have hq := dist_far0 HP.out (show 9 < (bl a).length from hlen)
      exact distPost hv.out hq.1 hq.2 hb1
  · go_wp2_with fail
    refine (plain_any b _ (by unfold maxLen; omega)).mono ?_
    rintro e w' ⟨rfl, rfl⟩
    rcases hp2 : plainB (bl b) with _ | _
    · have HP2 := Lib.hid hp2; clear hp2
      go_wp2
      go_ret2
      exact distPost (hspec.out.trans (distOf_part (.inl HP2.out))) rfl rfl hb1
    have HP2 := Lib.hid hp2; clear hp2
    by_cases hz : bl b = [48]
    · have e1 : (b.toList == [48]) = true := by rw [bl_toList, hz]; rfl
      have HZ := Lib.hid hz; clear hz
      go_wp2
      go_ret2
      exact distPost (hspec.out.trans (distOf_part (.inr (.inl HZ.out)))) rfl rfl hb1
    have e1 : (b.toList == [48]) = false := by rw [bl_toList, beq_eq_false_iff_ne]; exact hz
    have HZ := Lib.hid hz; clear hz
    by_cases h4 : 4 < b.size
    · have h4' : (4 : Int) < (b.size : Int) := by omega
      go_wp2
      go_ret2
      exact distPost (hspec.out.trans (distOf_part (.inr (.inr (.inl h4))))) rfl rfl hb1
    have h4' : (b.size : Int) ≤ 4 := by omega
    go_wp2_with fail
    refine (parseInt_ok b _ (plainB_parts HP2.out).1 (plainB_parts HP2.out).2.2 (by omega)).mono ?_
    rintro e w2 ⟨k, rfl, hk, hk18, hb2⟩
    have E2 := E1.below hb2
    have hbb := Below.then_ hb1 hb2
    have hk9 := short_val hk.out (plainB_parts HP2.out).2.2 (by omega)
    by_cases h6 : (6000 : Int) ≤ (k : Int)
    · go_wp2
      go_ret2
      exact distPost (hspec.out.trans (distOf_part (.inr (.inr (.inr (by have := hk.out; omega)))))) rfl rfl hbb
    have h6' : (k : Int) < 6000 := by omega
    have hv := Lib.hid (hspec.out.trans (distOf_two HP.out HP2.out HZ.out (show (bl b).length ≤ 4 by rw [bl_len]; omega) (by have := hk.out; omega)))
    clear h6
    rcases hlen with hlen | hlen
    · go_wp2_with fail
      refine (parseInt_ok a _ (plainB_parts HP.out).1 (plainB_parts HP.out).2.2 (by omega)).mono ?_
      rintro e w3 ⟨n, rfl, hn, hn18, hb3⟩
      have hn9 := short_val hn.out (plainB_parts HP.out).2.2 (by omega)
      have hb := Below.then_ hbb hb3
      by_cases hbig : 8000000 < (n : Int) * 6000 + (k : Int)
      · go_wp2
        go_ret2
        have hq := dist_out (v := ((digVal (bl a) * 6000 + digVal (bl b) : Nat) : Int)) (by have := hn.out; have := hk.out; omega)
        exact distPost hv.out hq.1 hq.2 hb
      · have hbig : (n : Int) * 6000 + (k : Int) ≤ 8000000 := by omega
        go_wp2
        go_ret2
        have hq := dist_in (v := ((digVal (bl a) * 6000 + digVal (bl b) : Nat) : Int)) (by have := hn.out; have := hk.out; omega)
        exact distPost hv.out (hq.1.trans (by have := hn.out; have := hk.out; omega)) hq.2 hb
    · go_wp2
      go_ret2
      have hq := dist_far HP.out (show 9 < (bl a).length from hlen) (digVal (bl b))
      exact distPost hv.out hq.1 hq.2 hbb

/-! ### the reference -/
theorem cut_now {s : ByteArray} {j : Nat} (c : UInt8) (hj : j < s.size) (h : s[j] = c) (hn : c ∉ (bl s).take j) : cutAt c (bl s) = (bl (s.extract 0 j), bl (s.extract (j + 1) s.size), true) := by
  have hj' : j < (bl s).length := hj
  have h5 := List.drop_eq_getElem_cons hj'
  rw [show (bl s)[j]'hj' = c from h] at h5
  have e : bl s = (bl s).take j ++ c :: (bl s).drop (j + 1) := by rw [← h5, List.take_append_drop]
  rw [bl_extract, bl_extract, List.drop_zero, Nat.sub_zero, List.take_of_length_le (l := (bl s).drop (j + 1)) (by rw [List.length_drop, bl_len]; omega)]
  conv => lhs; rw [e]
  rw [cutAt_mid hn]
theorem notin_more {s : ByteArray} {j : Nat} {c : UInt8} (hj : j < s.size) (h : s[j] ≠ c) (hn : c ∉ (bl s).take j) : c ∉ (bl s).take (j + 1) := by
  rw [List.take_succ_eq_append_getElem (show j < (bl s).length from hj), List.mem_append, List.mem_singleton]
  rintro (e | e)
  · exact hn e
  · exact h e.symm
theorem pd_ways {s : ByteArray} {j : Nat} {mv av bv : Value} (hst : (mv = .bool false ∧ av = .string s ∧ bv = .string ⟨#[]⟩ ∧ Hid ((43 : UInt8) ∉ (bl s).take j)) ∨ (∃ a b : ByteArray, mv = .bool true ∧ av = .string a ∧ bv = .string b ∧ a.size ≤ s.size ∧ b.size ≤ s.size ∧ Hid (cutAt 43 (bl s) = (bl a, bl b, true)))) (hj : s.size ≤ j) :
    ∃ (f : Bool) (a b : ByteArray), mv = .bool f ∧ av = .string a ∧ bv = .string b ∧ a.size ≤ s.size ∧ b.size ≤ s.size ∧ Hid (cutAt 43 (bl s) = (bl a, bl b, f)) := by
  rcases hst with ⟨e1, e2, e3, hno⟩ | ⟨a, b, e1, e2, e3, ha, hb, hcut⟩
  · have hn := hno.out
    rw [List.take_of_length_le (by rw [bl_len]; omega)] at hn
    exact ⟨false, s, ⟨#[]⟩, e1, e2, e3, Nat.le_refl _, Nat.zero_le _, cutAt_none hn⟩
  · exact ⟨true, a, b, e1, e2, e3, ha, hb, hcut⟩
end Go.Proofs.YtinkdlmikhcpjaaGreatDoor
namespace Go.Proofs.YtinkdlmikhcpjaaGreatDoor
open Go.RowKit
set_option linter.unusedVariables false
set_option linter.unusedSimpArgs false

theorem infoField : (Tryz.prog.info? 94).map (fun i => (i.zero, i.size, i.bytes)) = some (some (.agg #[.string ⟨#[]⟩, .int .i64 0]), 2, 24) := by kernel_rfl

def SplitPost (s : ByteArray) (w : World) (e : Ending) (w' : World) : Prop :=
  ∃ v, e = .returned (.tuple #[v, .int .i64 (splitCol (bl s)), .int .i64 (splitErr (bl s))]) ∧ RdT w' 94 2 v (splitF (bl s)).length (fcells (splitF (bl s))) ∧ Below w.heap.size w w'
theorem splitPost {s : ByteArray} {w w' : World} {v : Value} {c e : Int} {fs : List Fld} (h1 : c = splitCol (bl s)) (h2 : e = splitErr (bl s)) (h3 : fs = splitF (bl s)) (hr : RdT w' 94 2 v fs.length (fcells fs)) (hb : Below w.heap.size w w') :
    SplitPost s w (.returned (.tuple #[v, .int .i64 c, .int .i64 e])) w' := by
  subst h1 h2 h3; exact ⟨v, rfl, hr, hb⟩
set_option maxHeartbeats 400000 in
theorem split_longC (s : ByteArray) (w : World) (h : 200 < s.size) (hs : s.size ≤ maxLen) :
    Calls Tryz.prog 83 #[.string s] w (SplitPost s w) := by
  unfold maxLen at hs
  have h1 : (200 : Int) < (s.size : Int) := by omega
  have H := Lib.hid (split_long (l := bl s) h)
  go_enter Tryz.func83, Tryz.ntmps83
  go_wp2
  go_ret3
  exact splitPost H.out.2.1.symm H.out.2.2.symm H.out.1.symm (RdT.nil _ _ _) (Below.refl _ _)
theorem drop_cons {a : ByteArray} {j : Nat} (h : j < a.size) : (bl a).drop j = a[j] :: (bl a).drop (j + 1) := List.drop_eq_getElem_cons (l := bl a) h
theorem u8_32 {c : UInt8} (h : (c.toNat : Int) = 32) : c = 32 := (u8_eq (n := 32) (by omega)).1 (by omega)
theorem take_ext {a : ByteArray} {j q : Nat} : ((bl a).drop j).take (q - j) = bl (a.extract j q) := (bl_extract a j q).symm
theorem nb_step {a : ByteArray} {j q : Nat} (hjq : j ≤ q) (h : q < a.size) (hnb : ∀ c ∈ ((bl a).drop j).take (q - j), c ≠ 32) (e : ((a[q].toNat : Int) != 32) = true) : ∀ c ∈ ((bl a).drop j).take (q + 1 - j), c ≠ 32 := by
  have hl : q - j < ((bl a).drop j).length := by rw [List.length_drop, bl_len]; omega
  rw [show q + 1 - j = (q - j) + 1 by omega, List.take_succ_eq_append_getElem hl]
  intro c hc
  rw [List.mem_append] at hc
  rcases hc with hc | hc
  · exact hnb c hc
  · rw [List.mem_singleton] at hc
    have h3 : ((bl a).drop j)[q - j]? = some a[q] := by rw [List.getElem?_drop, show j + (q - j) = q by omega, bl_get? a q h]
    rw [List.getElem?_eq_getElem hl, ← hc, Option.some.injEq] at h3
    rw [h3]
    intro e2
    rw [e2] at e
    exact absurd e (by decide)
theorem token_at {a : ByteArray} {j q : Nat} (hjq : j ≤ q) (hq : q ≤ a.size) (hne : j ≠ q) (hnb : ∀ c ∈ ((bl a).drop j).take (q - j), c ≠ 32) (he : (∃ h : q < a.size, (a[q].toNat : Int) = 32) ∨ a.size ≤ q) :
    j < q ∧ fieldsGo [] 0 j ((bl a).drop j) = (bl (a.extract j q), j + 1) :: fieldsGo [] 0 q ((bl a).drop q) := by
  refine ⟨by omega, ?_⟩
  have hs : (bl a).drop j = ((bl a).drop j).take (q - j) ++ (bl a).drop q := by
    conv => lhs; rw [← List.take_append_drop (q - j) ((bl a).drop j)]
    rw [List.drop_drop, show j + (q - j) = q by omega]
  have hl : (((bl a).drop j).take (q - j)).length = q - j := by rw [List.length_take, List.length_drop, bl_len]; omega
  have h0 : ((bl a).drop j).take (q - j) ≠ [] := by
    intro e; rw [e] at hl; simp at hl; omega
  have hend : (bl a).drop q = [] ∨ ((bl a).drop q).head? = some 32 := by
    rcases he with ⟨h, e⟩ | h
    · right; rw [drop_cons h, u8_32 e]; rfl
    · left; exact List.drop_eq_nil_of_le (by rw [bl_len]; omega)
  rw [hs, fieldsGo_start _ _ _ _ h0 hnb, fieldsGo_end _ _ _ _ h0 hend, hl, take_ext, show j + (q - j) = q by omega]
/-- what an append of a field does to what is owned -/
theorem field_step {base : Nat} {w0 wr w' : World} {v v' : Value} {e : TypeId} {done : List Fld} {t : ByteArray} {j : Nat} {o : Obj}
    (hlt : ∀ k, v.ownBlock = some k → base ≤ k ∧ k < wr.heap.size) (hb : Below base w0 wr) (hown' : w'.ownsRow base e 2 v' (done.length + 1) (fcells done ++ [.string t, .int .i64 ((j : Int) + 1)])) (hg : (wr.alloc o).grownBy w' v.ownBlock) (hB : base ≤ wr.heap.size) :
    w'.ownsRow base e 2 v' (done ++ [(bl t, j + 1)]).length (fcells (done ++ [(bl t, j + 1)])) ∧ Below base w0 w' := by
  refine ⟨?_, (hb.alloc hB o).grown hg (by simp; omega) (fun k hk => (hlt k hk).1)⟩
  rw [fcells_snoc, sb_bl, List.length_append]
  exact hown'
set_option maxRecDepth 100000 in
set_option maxHeartbeats 1000000 in
theorem split_short (s : ByteArray) (w : World) (E : Env w) (hs : s.size ≤ 200) :
    Calls Tryz.prog 83 #[.string s] w (SplitPost s w) := by
  have h1 : (s.size : Int) ≤ 200 := by omega
  obtain ⟨i0, hi, hz0, hz1, hz2⟩ := info_parts infoField
  go_enter Tryz.func83, Tryz.ntmps83
  go_wp2
  go_loop [14] (fun i => ∃ k : Nat, k ≤ s.size ∧ i = .int .i64 k ∧ Hid (((bl s).take k).all okC = true)) (fun i => s.size - (intOf i).toNat)
  case atStart => exact ⟨0, Nat.zero_le _, rfl, rfl⟩
  case round =>
    obtain ⟨k, hk, rfl, hall⟩ := hrel
    by_cases h : k < s.size
    · have hc : ((32 : Int) ≤ (s[k].toNat : Int) ∧ (s[k].toNat : Int) ≤ 126) ∨ ((s[k].toNat : Int) < 32) ∨ ((32 : Int) ≤ (s[k].toNat : Int) ∧ 126 < (s[k].toNat : Int)) := by omega
      rcases hc with ⟨c1, c2⟩ | c1 | ⟨c1, c2⟩
      · go_wp2
        go_round
        case rel => exact ⟨k + 1, h, by go_num, all_take_succ hall.out h (okC_yes c1 c2)⟩
        case measure => simp [intOf]; omega
      · have H := Lib.hid (split_bad (l := bl s) hs h hall.out (okC_no (.inl c1)))
        go_wp2
        go_ret3
        exact splitPost (by have := H.out.2.1; omega) H.out.2.2.symm H.out.1.symm (RdT.nil _ _ _) (Below.refl _ _)
      · have H := Lib.hid (split_bad (l := bl s) hs h hall.out (okC_no (.inr c2)))
        go_wp2
        go_ret3
        exact splitPost (by have := H.out.2.1; omega) H.out.2.2.symm H.out.1.symm (RdT.nil _ _ _) (Below.refl _ _)
    · have H := Lib.hid (split_ok (l := bl s) hs (all_take_all hall.out (by rw [bl_len]; omega)))
      clear hall
      go_wp2_with fail
      refine (cut1 s 35 _ E (by omega)).mono ?_
      rintro e w1 ⟨a, b, f, rfl, hcut, has, hbs, hb1⟩
      have hfl : Hid (fieldsL (bl s) = fieldsGo [] 0 0 (bl a)) := by unfold Hid fieldsL; rw [hcut.out]
      clear hcut
      go_wp2_with fail
      go_loopw [6, 7] (fun v i wr => ∃ (j : Nat) (done : List Fld), j ≤ a.size ∧ i = .int .i64 j ∧ done.length ≤ j ∧ wr.ownsRow w1.heap.size 94 2 v done.length (fcells done) ∧ Hid (fieldsL (bl s) = done ++ fieldsGo [] 0 j ((bl a).drop j)) ∧ Below w1.heap.size w1 wr) (fun _ i _ => a.size - (intOf i).toNat)
      case atStart => exact ⟨0, [], Nat.zero_le _, rfl, Nat.le_refl _, World.ownsRow_nil _ _ _ _, hfl.out, Below.refl _ _⟩
      case round =>
        obtain ⟨j, done, hj, rfl, hdl, hown, hrest, hbr⟩ := hrel
        by_cases hlt : j < a.size
        · by_cases hsp : (a[j].toNat : Int) = 32
          · have e1 : ((a[j].toNat : Int) == 32) = true := beq_iff_eq.2 hsp
            have HS := Lib.hid hsp
            clear hsp
            go_wp2
            go_roundw
            case rel => exact ⟨j + 1, done, hlt, by go_num, by omega, hown, by unfold Hid; rw [hrest.out, drop_cons hlt, u8_32 HS.out, fieldsGo_blank], hbr⟩
            case measure => simp [intOf]; omega
          · have e1 : ((a[j].toNat : Int) == 32) = false := beq_eq_false_iff_ne.2 hsp
            have HS := Lib.hid hsp
            clear hsp
            go_wp2
            go_loop [7] (fun i => ∃ q : Nat, j ≤ q ∧ q ≤ a.size ∧ i = .int .i64 q ∧ Hid (∀ c ∈ ((bl a).drop j).take (q - j), c ≠ 32)) (fun i => a.size - (intOf i).toNat)
            case atStart => exact ⟨j, Nat.le_refl _, hj, rfl, by unfold Hid; simp⟩
            case round =>
              obtain ⟨q, hjq, hq, rfl, hnb⟩ := hrel
              have hcase : (∃ h : q < a.size, Hid (((a[q].toNat : Int) != 32) = true)) ∨ ((∃ h : q < a.size, Hid (((a[q].toNat : Int) != 32) = false)) ∨ a.size ≤ q) ∧ Hid (j < q ∧ fieldsGo [] 0 j ((bl a).drop j) = (bl (a.extract j q), j + 1) :: fieldsGo [] 0 q ((bl a).drop q)) := by
                by_cases h : q < a.size
                · by_cases hb : (a[q].toNat : Int) = 32
                  · exact .inr ⟨.inl ⟨h, bne_eq_false_iff_eq.2 hb⟩, token_at hjq hq (fun e => by subst e; exact HS.out hb) hnb.out (.inl ⟨h, hb⟩)⟩
                  · exact .inl ⟨h, bne_iff_ne.2 hb⟩
                · exact .inr ⟨.inr (by omega), token_at hjq hq (by omega) hnb.out (.inr (by omega))⟩
              rcases hcase with ⟨h, e2⟩ | ⟨⟨h, e2⟩ | h, htok⟩
              · have e2 := e2.out
                go_wp2
                go_round
                case rel => exact ⟨q + 1, by omega, h, by go_num, nb_step hjq h hnb.out e2⟩
                case measure => simp [intOf]; omega
              all_goals try have e2 := Hid.out e2
              all_goals
                go_wp2_with (at_builtin; refine wpList_append_own _ rfl (.tmp 59) (.tmp 67) 84 rfl w1.heap.size 94 i0 (.agg #[.string ⟨#[]⟩, .int .i64 0]) 2 24 Tryz.underlying84 hi hz0 hz1 hz2 rfl (by decide) _ _ _ rfl (hown.alloc _) ⟨wr.heap.size, 0, none⟩ 1 1 [.string (a.extract j q), .int .i64 ((j : Int) + 1)] rfl rfl (cell_two_new _ _ _ _) (by intro u hu; simp at hu; rcases hu with rfl | rfl <;> rfl) (by unfold maxLen; omega) (by omega) (by have := hbr.size; simp; omega) ?_)
                intro v' w' hown' hgrow _
                have R := field_step hown.lt hbr hown' hgrow hbr.size
                clear hown hown' hgrow
                go_wp2
                go_roundw
                case rel => exact ⟨q, done ++ [(bl (a.extract j q), j + 1)], hq, rfl, by have := htok.out.1; simp; omega, R.1, by unfold Hid; rw [hrest.out, htok.out.2, List.append_assoc]; rfl, R.2⟩
                case measure => have := htok.out.1; simp [intOf]; omega
        · go_wp2
          go_ret3
          have hd : (bl a).drop j = [] := List.drop_eq_nil_of_le (by rw [bl_len]; omega)
          have hr2 := hrest.out
          rw [hd] at hr2
          exact splitPost H.out.2.1.symm H.out.2.2.symm (by rw [H.out.1, hr2]; simp [fieldsGo]) (RdT.of_own hown) (Below.then_ hb1 hbr)
theorem split_any (s : ByteArray) (w : World) (E : Env w) (hs : s.size ≤ maxLen) :
    Calls Tryz.prog 83 #[.string s] w (SplitPost s w) := by
  by_cases h : 200 < s.size
  · exact split_longC s w h hs
  · exact split_short s w E (by omega)
end Go.Proofs.YtinkdlmikhcpjaaGreatDoor
namespace Go.Proofs.YtinkdlmikhcpjaaGreatDoor
open Go.RowKit
set_option linter.unusedVariables false
set_option linter.unusedSimpArgs false

theorem cut35 (s : ByteArray) {a : List UInt8} (ha : a = (cutAt 35 (bl s)).1) : a.length ≤ s.size ∧ (∀ (k : Nat) (h : k < s.size), k < a.length → s[k].toNat ≠ 35 ∧ a.drop k = s[k] :: a.drop (k + 1)) ∧ (a.length = s.size ∨ ∃ h : a.length < s.size, s[a.length].toNat = 35) := by
  subst ha
  have hpre : ∃ r, bl s = (cutAt 35 (bl s)).1 ++ r ∧ (35 : UInt8) ∉ (cutAt 35 (bl s)).1 ∧ (r = [] ∨ r.head? = some 35) := by
    rcases cutAt_spec 35 (bl s) with ⟨_, h2, h3⟩ | ⟨_, h2, h3, _⟩
    · exact ⟨_, h2, h3, .inr rfl⟩
    · exact ⟨[], by rw [h3, List.append_nil], by rw [h3]; exact h2, .inl rfl⟩
  obtain ⟨r, h1, h2, h3⟩ := hpre
  generalize (cutAt 35 (bl s)).1 = a at h1 h2
  have hl : s.size = a.length + r.length := by rw [← bl_len, h1, List.length_append]
  refine ⟨by omega, fun k h hk => ?_, ?_⟩
  · have e : s[k] = a[k] := by
      have := bl_get? s k h
      rw [h1, List.getElem?_append_left hk, List.getElem?_eq_getElem hk, Option.some.injEq] at this
      exact this.symm
    refine ⟨fun h35 => h2 ?_, by rw [e]; exact List.drop_eq_getElem_cons hk⟩
    have : a[k] = 35 := by rw [← e]; exact (u8_eq (n := 35) (by omega)).1 h35
    rw [← this]; exact List.getElem_mem hk
  · rcases h3 with rfl | h3
    · left; simpa using hl.symm
    · right
      match r, h3 with
      | c :: r, h3 =>
        have hc : c = 35 := by simpa using h3
        have h : a.length < s.size := by simp only [List.length_cons] at hl; omega
        refine ⟨h, ?_⟩
        have := bl_get? s a.length h
        rw [h1, List.getElem?_append_right (Nat.le_refl _), Nat.sub_self, hc] at this
        simp only [List.getElem?_cons_zero, Option.some.injEq] at this
        rw [← this]; rfl

/-- the field that has begun, by the reference's number -/
def Begun (s : ByteArray) (k : Nat) (z : Int) (cur : List UInt8) (st : Nat) : Prop := (z = -1 ∧ cur = []) ∨ (z = (st : Int) ∧ st < k ∧ cur = bl (s.extract st k) ∧ cur ≠ [])
theorem extract_snoc {s : ByteArray} {st k : Nat} (h1 : st ≤ k) (h : k < s.size) : bl (s.extract st k) ++ [s[k]] = bl (s.extract st (k + 1)) := by
  rw [bl_extract, bl_extract, show k + 1 - st = (k - st) + 1 by omega]
  have hl : k - st < ((bl s).drop st).length := by rw [List.length_drop, bl_len]; omega
  rw [List.take_succ_eq_append_getElem hl]
  have h3 : ((bl s).drop st)[k - st]? = some s[k] := by rw [List.getElem?_drop, show st + (k - st) = k by omega, bl_get? s k h]
  rw [List.getElem?_eq_getElem hl, Option.some.injEq] at h3
  rw [h3]
theorem rsplit_char {s : ByteArray} {a : List UInt8} {k st : Nat} {cur : List UInt8} {z : Int} {all done : List Fld} (h : k < s.size) (hd : a.drop k = s[k] :: a.drop (k + 1)) (h32 : ¬ (s[k].toNat : Int) = 32)
    (hb : Begun s k z cur st) (hr : all = done ++ fieldsGo cur st k (a.drop k)) :
    ∃ st', Begun s (k + 1) (if z < 0 then (k : Int) else z) (cur ++ [s[k]]) st' ∧ all = done ++ fieldsGo (cur ++ [s[k]]) st' (k + 1) (a.drop (k + 1)) := by
  have hne : s[k] ≠ 32 := fun e => h32 (by rw [e]; rfl)
  rw [hd, fieldsGo, if_neg hne] at hr
  rcases hb with ⟨rfl, rfl⟩ | ⟨rfl, hlt, hc, hn⟩
  · rw [if_pos rfl] at hr
    refine ⟨k, .inr ⟨by rw [if_pos (by decide)], by omega, ?_, by simp⟩, hr⟩
    rw [← extract_snoc (Nat.le_refl k) h, bl_extract, Nat.sub_self]; rfl
  · rw [if_neg hn] at hr
    exact ⟨st, .inr ⟨by rw [if_neg (by omega)], by omega, by rw [hc]; exact extract_snoc (by omega) h, by simp⟩, hr⟩
/-- what is left behind a field's end -/
theorem rsplit_blank {s : ByteArray} {a : List UInt8} {k st : Nat} {cur : List UInt8} {all done : List Fld} (h : k < s.size) (hd : a.drop k = s[k] :: a.drop (k + 1)) (h32 : (s[k].toNat : Int) = 32)
    (hr : all = done ++ fieldsGo cur st k (a.drop k)) : (cur = [] → all = done ++ fieldsGo [] 0 (k + 1) (a.drop (k + 1))) ∧ (cur ≠ [] → all = (done ++ [(cur, st + 1)]) ++ fieldsGo [] 0 (k + 1) (a.drop (k + 1))) := by
  rw [hd, u8_32 h32, fieldsGo, if_pos rfl] at hr
  constructor
  · intro e; rw [if_pos e] at hr; exact hr
  · intro e; rw [if_neg e] at hr; rw [hr, List.append_assoc]; rfl
theorem rsplit_last {a : List UInt8} {k st : Nat} {cur : List UInt8} {all done : List Fld} (hk : a.length ≤ k) (hr : all = done ++ fieldsGo cur st k (a.drop k)) : (cur = [] → all = done) ∧ (cur ≠ [] → all = done ++ [(cur, st + 1)]) := by
  rw [List.drop_eq_nil_of_le hk, fieldsGo] at hr
  constructor
  · intro e; rw [if_pos e, List.append_nil] at hr; exact hr
  · intro e; rw [if_neg e] at hr; exact hr

set_option maxRecDepth 100000 in
set_option maxHeartbeats 400000 in
theorem rsplit_longC (s : ByteArray) (w : World) (h : 200 < s.size) (hs : s.size ≤ maxLen) :
    Calls Tryz.prog 127 #[.string s] w (SplitPost s w) := by
  unfold maxLen at hs
  have h1 : (200 : Int) < (s.size : Int) := by omega
  have H := Lib.hid (split_long (l := bl s) h)
  go_enter Tryz.func127, Tryz.ntmps127
  go_wp2
  go_ret3
  exact splitPost H.out.2.1.symm H.out.2.2.symm H.out.1.symm (RdT.nil _ _ _) (Below.refl _ _)
set_option maxRecDepth 100000 in
set_option maxHeartbeats 2000000 in
theorem rsplit_short (s : ByteArray) (w : World) (hs : s.size ≤ 200) :
    Calls Tryz.prog 127 #[.string s] w (SplitPost s w) := by
  have h1 : (s.size : Int) ≤ 200 := by omega
  obtain ⟨i0, hi, hz0, hz1, hz2⟩ := info_parts infoField
  go_enter Tryz.func127, Tryz.ntmps127
  go_wp2
  go_loop [5] (fun i => ∃ k : Nat, k ≤ s.size ∧ i = .int .i64 k ∧ Hid (((bl s).take k).all okC = true)) (fun i => s.size - (intOf i).toNat)
  case atStart => exact ⟨0, Nat.zero_le _, rfl, rfl⟩
  case round =>
    obtain ⟨k, hk, rfl, hall⟩ := hrel
    by_cases h : k < s.size
    · have hc : ((32 : Int) ≤ (s[k].toNat : Int) ∧ (s[k].toNat : Int) ≤ 126) ∨ ((s[k].toNat : Int) < 32) ∨ ((32 : Int) ≤ (s[k].toNat : Int) ∧ 126 < (s[k].toNat : Int)) := by omega
      rcases hc with ⟨c1, c2⟩ | c1 | ⟨c1, c2⟩
      · go_wp2
        go_round
        case rel => exact ⟨k + 1, h, by go_num, all_take_succ hall.out h (okC_yes c1 c2)⟩
        case measure => simp [intOf]; omega
      · have H := Lib.hid (split_bad (l := bl s) hs h hall.out (okC_no (.inl c1)))
        go_wp2
        go_ret3
        exact splitPost (by have := H.out.2.1; omega) H.out.2.2.symm H.out.1.symm (RdT.nil _ _ _) (Below.refl _ _)
      · have H := Lib.hid (split_bad (l := bl s) hs h hall.out (okC_no (.inr c2)))
        go_wp2
        go_ret3
        exact splitPost (by have := H.out.2.1; omega) H.out.2.2.symm H.out.1.symm (RdT.nil _ _ _) (Below.refl _ _)
    · have H := Lib.hid (split_ok (l := bl s) hs (all_take_all hall.out (by rw [bl_len]; omega)))
      clear hall
      obtain ⟨a, ha⟩ : ∃ a, a = (cutAt 35 (bl s)).1 := ⟨_, rfl⟩
      obtain ⟨p, hp⟩ : ∃ p, a.length = p := ⟨_, rfl⟩
      have hfl : Hid (fieldsL (bl s) = fieldsGo [] 0 0 a) := by unfold Hid fieldsL; rw [← ha]
      have hcut := cut35 s ha
      rw [hp] at hcut
      obtain ⟨hps, hch, hend⟩ := hcut
      have HCH := Lib.hid hch
      have HEND := Lib.hid hend
      have HP := Lib.hid hp
      clear ha hp hch hend
      obtain ⟨all, hall⟩ : ∃ all, fieldsL (bl s) = all := ⟨_, rfl⟩
      rw [hall] at hfl H
      clear hall
      go_wp2
      go_loopw [6, 7, 8] (fun v b i wr => ∃ (j : Nat) (done : List Fld) (z : Int), i = .int .i64 j ∧ b = .int .i64 z ∧ -1 ≤ z ∧ z ≤ 300 ∧ done.length ≤ j ∧ wr.ownsRow w.heap.size 94 2 v done.length (fcells done) ∧ Below w.heap.size w wr ∧
        ((j ≤ p ∧ ∃ (cur : List UInt8) (st : Nat), Hid (Begun s j z cur st) ∧ Hid (all = done ++ fieldsGo cur st j (a.drop j))) ∨ (j = s.size + 1 ∧ Hid (all = done)))) (fun _ _ i _ => s.size + 2 - (intOf i).toNat)
      case atStart => exact ⟨0, [], -1, rfl, rfl, by omega, by omega, Nat.le_refl _, World.ownsRow_nil _ _ _ _, Below.refl _ _, .inl ⟨Nat.zero_le _, [], 0, .inl ⟨rfl, rfl⟩, hfl.out⟩⟩
      case round =>
        obtain ⟨j, done, z, rfl, rfl, hz1', hz2', hdl, hown, hbr, hst⟩ := hrel
        rcases hst with ⟨hj, cur, st, hbeg, hrest⟩ | ⟨rfl, hdone⟩
        · have hzc : (z < 0 ∧ Hid (cur = [])) ∨ (0 ≤ z ∧ Hid (cur ≠ [] ∧ z = (st : Int) ∧ st < j ∧ cur = bl (s.extract st j))) := by
            rcases hbeg.out with ⟨e1, e2⟩ | ⟨e1, e2, e3, e4⟩
            · exact .inl ⟨by omega, e2⟩
            · exact .inr ⟨by omega, e4, e1, e2, e3⟩
          by_cases hjp : j < p
          · have hjs : j < s.size := by omega
            obtain ⟨h35, hdr⟩ := HCH.out j hjs hjp
            have hje : ((j : Int) == (s.size : Int)) = false := by rw [beq_eq_false_iff_ne]; omega
            have e35 : ((s[j].toNat : Int) == 35) = false := by rw [beq_eq_false_iff_ne]; omega
            have HDR := Lib.hid hdr
            clear hdr h35
            by_cases h32 : (s[j].toNat : Int) = 32
            · have e32 : ((s[j].toNat : Int) == 32) = true := beq_iff_eq.2 h32
              have HB := Lib.hid (rsplit_blank hjs HDR.out h32 hrest.out)
              clear h32
              rcases hzc with ⟨hz0', hc⟩ | ⟨hz0', hc⟩
              · go_wp2
                go_roundw
                case rel => exact ⟨j + 1, done, z, by go_num, rfl, hz1', hz2', by omega, hown, hbr, .inl ⟨hjp, [], 0, .inl ⟨by omega, rfl⟩, HB.out.1 hc.out⟩⟩
                case measure => simp [intOf]; omega
              · obtain ⟨hc1, rfl, hst, hcur⟩ := hc.out
                have HC1 := Lib.hid hc1
                have HCUR := Lib.hid hcur
                clear hc hc1 hcur
                have hlen2 : (done ++ [(bl (s.extract st j), st + 1)]).length ≤ j + 1 := by simp; omega
                have hstb : (st : Int) ≤ 300 := by omega
                go_wp2_with (at_builtin; refine wpList_append_own _ rfl (.tmp 65) (.tmp 73) 84 rfl w.heap.size 94 i0 (.agg #[.string ⟨#[]⟩, .int .i64 0]) 2 24 Tryz.underlying84 hi hz0 hz1 hz2 rfl (by decide) _ _ _ rfl (hown.alloc _) ⟨wr.heap.size, 0, none⟩ 1 1 [.string (s.extract st j), .int .i64 ((st : Int) + 1)] rfl rfl (cell_two_new _ _ _ _) (by intro u hu; simp at hu; rcases hu with rfl | rfl <;> rfl) (by unfold maxLen; omega) (by omega) (by have := hbr.size; simp; omega) ?_)
                intro v' w' hown' hgrow _
                have R := field_step hown.lt hbr hown' hgrow hbr.size
                clear hown hown' hgrow
                go_wp2
                go_roundw
                case rel => exact ⟨j + 1, _, -1, by go_num, rfl, by omega, by omega, hlen2, R.1, R.2, .inl ⟨hjp, [], 0, .inl ⟨rfl, rfl⟩, by have := HB.out.2 HC1.out; rw [HCUR.out] at this; exact this⟩⟩
                case measure => simp [intOf]; omega
            · have e32 : ((s[j].toNat : Int) == 32) = false := beq_eq_false_iff_ne.2 h32
              have HB := Lib.hid (rsplit_char hjs HDR.out h32 hbeg.out hrest.out)
              clear h32
              rcases hzc with ⟨hz0', hc⟩ | ⟨hz0', hc⟩
              · obtain ⟨st', hb1, hb2⟩ := HB.out
                rw [if_pos hz0'] at hb1
                have HB1 := Lib.hid hb1
                have HB2 := Lib.hid hb2
                clear hb1 hb2 HB hc
                go_wp2
                go_roundw
                case rel => exact ⟨j + 1, done, j, by go_num, rfl, by omega, by omega, by omega, hown, hbr, .inl ⟨hjp, _, _, HB1.out, HB2.out⟩⟩
                case measure => simp [intOf]; omega
              · obtain ⟨st', hb1, hb2⟩ := HB.out
                rw [if_neg (by omega)] at hb1
                have HB1 := Lib.hid hb1
                have HB2 := Lib.hid hb2
                clear hb1 hb2 HB hc
                go_wp2
                go_roundw
                case rel => exact ⟨j + 1, done, z, by go_num, rfl, hz1', hz2', by omega, hown, hbr, .inl ⟨hjp, _, _, HB1.out, HB2.out⟩⟩
                case measure => simp [intOf]; omega
          · have hjp' : j = p := by omega
            subst hjp'
            have HB := Lib.hid (rsplit_last (Nat.le_of_eq HP.out) hrest.out)
            rcases HEND.out with hps' | ⟨hps', h35⟩
            · have hje : ((j : Int) == (s.size : Int)) = true := by rw [beq_iff_eq]; omega
              have hjle : (s.size : Int) ≤ (j : Int) := by omega
              clear hps'
              rcases hzc with ⟨hz0', hc⟩ | ⟨hz0', hc⟩
              · go_wp2
                go_roundw
                case rel => exact ⟨j + 1, done, z, by go_num, rfl, hz1', hz2', by omega, hown, hbr, .inr ⟨by omega, HB.out.1 hc.out⟩⟩
                case measure => simp [intOf]; omega
              · obtain ⟨hc1, rfl, hst, hcur⟩ := hc.out
                have HC1 := Lib.hid hc1
                have HCUR := Lib.hid hcur
                clear hc hc1 hcur
                have hlen2 : (done ++ [(bl (s.extract st j), st + 1)]).length ≤ j + 1 := by simp; omega
                have hstb : (st : Int) ≤ 300 := by omega
                go_wp2_with (at_builtin; refine wpList_append_own _ rfl (.tmp 65) (.tmp 73) 84 rfl w.heap.size 94 i0 (.agg #[.string ⟨#[]⟩, .int .i64 0]) 2 24 Tryz.underlying84 hi hz0 hz1 hz2 rfl (by decide) _ _ _ rfl (hown.alloc _) ⟨wr.heap.size, 0, none⟩ 1 1 [.string (s.extract st j), .int .i64 ((st : Int) + 1)] rfl rfl (cell_two_new _ _ _ _) (by intro u hu; simp at hu; rcases hu with rfl | rfl <;> rfl) (by unfold maxLen; omega) (by omega) (by have := hbr.size; simp; omega) ?_)
                intro v' w' hown' hgrow _
                have R := field_step hown.lt hbr hown' hgrow hbr.size
                clear hown hown' hgrow
                go_wp2
                go_roundw
                case rel => exact ⟨j + 1, _, -1, by go_num, rfl, by omega, by omega, hlen2, R.1, R.2, .inr ⟨by omega, by have := HB.out.2 HC1.out; rw [HCUR.out] at this; exact this⟩⟩
                case measure => simp [intOf]; omega
            · have hje : ((j : Int) == (s.size : Int)) = false := by rw [beq_eq_false_iff_ne]; omega
              have e35 : ((s[j].toNat : Int) == 35) = true := by rw [beq_iff_eq]; omega
              have e32 : ((s[j].toNat : Int) == 32) = false := by rw [beq_eq_false_iff_ne]; omega
              clear h35
              rcases hzc with ⟨hz0', hc⟩ | ⟨hz0', hc⟩
              · go_wp2
                go_ret3
                exact splitPost H.out.2.1.symm H.out.2.2.symm (by rw [H.out.1, HB.out.1 hc.out]) (RdT.of_own hown) hbr
              · obtain ⟨hc1, rfl, hst, hcur⟩ := hc.out
                have HC1 := Lib.hid hc1
                have HCUR := Lib.hid hcur
                clear hc hc1 hcur
                have hlen2 : (done ++ [(bl (s.extract st j), st + 1)]).length ≤ j + 1 := by simp; omega
                have hstb : (st : Int) ≤ 300 := by omega
                go_wp2_with (at_builtin; refine wpList_append_own _ rfl (.tmp 65) (.tmp 73) 84 rfl w.heap.size 94 i0 (.agg #[.string ⟨#[]⟩, .int .i64 0]) 2 24 Tryz.underlying84 hi hz0 hz1 hz2 rfl (by decide) _ _ _ rfl (hown.alloc _) ⟨wr.heap.size, 0, none⟩ 1 1 [.string (s.extract st j), .int .i64 ((st : Int) + 1)] rfl rfl (cell_two_new _ _ _ _) (by intro u hu; simp at hu; rcases hu with rfl | rfl <;> rfl) (by unfold maxLen; omega) (by omega) (by have := hbr.size; simp; omega) ?_)
                intro v' w' hown' hgrow _
                have R := field_step hown.lt hbr hown' hgrow hbr.size
                clear hown hown' hgrow
                go_wp2
                go_ret3
                exact splitPost H.out.2.1.symm H.out.2.2.symm (by have := HB.out.2 HC1.out; rw [HCUR.out] at this; rw [H.out.1, this]) (RdT.of_own R.1) R.2
        · go_wp2
          go_ret3
          exact splitPost H.out.2.1.symm H.out.2.2.symm (by rw [H.out.1, hdone.out]) (RdT.of_own hown) hbr
theorem rsplit_any (s : ByteArray) (w : World) (hs : s.size ≤ maxLen) :
    Calls Tryz.prog 127 #[.string s] w (SplitPost s w) := by
  by_cases h : 200 < s.size
  · exact rsplit_longC s w h hs
  · exact rsplit_short s w (by omega)
end Go.Proofs.YtinkdlmikhcpjaaGreatDoor
namespace Go.Proofs.YtinkdlmikhcpjaaGreatDoor
open Go.RowKit
set_option linter.unusedVariables false
set_option linter.unusedSimpArgs false

/-! ### the records and the diagnostics of lines -/
abbrev Rec := Nat × List Fld
abbrev Dg := Nat × Int × Int
def isRec (l : List UInt8) : Bool := splitErr l == 0 && !(splitF l).isEmpty
def recsL (n : Nat) : List (List UInt8) → List Rec
  | [] => []
  | l :: r => if isRec l then (n, splitF l) :: recsL (n + 1) r else recsL (n + 1) r
def dgsL (n : Nat) : List (List UInt8) → List Dg
  | [] => []
  | l :: r => if splitErr l == 0 then dgsL (n + 1) r else (n, splitCol l, splitErr l) :: dgsL (n + 1) r
theorem recsL_snoc (l : List (List UInt8)) (x : List UInt8) : ∀ n, recsL n (l ++ [x]) = recsL n l ++ (if isRec x then [(n + l.length, splitF x)] else []) := by
  induction l with
  | nil => intro n; simp only [List.nil_append, recsL, List.length_nil, Nat.add_zero]
  | cons y l ih =>
    intro n
    simp only [List.cons_append, recsL, ih, List.length_cons]
    rw [show n + 1 + l.length = n + (l.length + 1) by omega]
    split <;> rfl
theorem dgsL_snoc (l : List (List UInt8)) (x : List UInt8) : ∀ n, dgsL n (l ++ [x]) = dgsL n l ++ (if splitErr x == 0 then [] else [(n + l.length, splitCol x, splitErr x)]) := by
  induction l with
  | nil => intro n; simp only [List.nil_append, dgsL, List.length_nil, Nat.add_zero]
  | cons y l ih =>
    intro n
    simp only [List.cons_append, dgsL, ih, List.length_cons]
    rw [show n + 1 + l.length = n + (l.length + 1) by omega]
    split <;> rfl
theorem recsL_len (l : List (List UInt8)) : ∀ n, (recsL n l).length ≤ l.length := by
  induction l with
  | nil => intro n; simp [recsL]
  | cons y l ih =>
    intro n
    have := ih (n + 1)
    unfold recsL
    split
    · simp only [List.length_cons]; omega
    · simp only [List.length_cons]; omega
def dcells (l : List Dg) : List Value := l.flatMap fun d => [.int .i64 (d.1 : Int), .int .i64 d.2.1, .int .i64 d.2.2]
theorem dcells_snoc (l : List Dg) (d : Dg) : dcells (l ++ [d]) = dcells l ++ [.int .i64 (d.1 : Int), .int .i64 d.2.1, .int .i64 d.2.2] := by
  unfold dcells; rw [List.flatMap_append]; rfl
def rcells (L : List (Rec × Value)) : List Value := L.flatMap fun x => [.int .i64 (x.1.1 : Int), x.2]
theorem rcells_snoc (L : List (Rec × Value)) (x : Rec × Value) : rcells (L ++ [x]) = rcells L ++ [.int .i64 (x.1.1 : Int), x.2] := by
  unfold rcells; rw [List.flatMap_append]; rfl
/-- the fields of each record lie in memory -/
def FieldsIn (w : World) (L : List (Rec × Value)) : Prop := ∀ x ∈ L, RdT w 94 2 x.2 x.1.2.length (fcells x.1.2)
theorem FieldsIn.nil (w : World) : FieldsIn w [] := by intro x hx; cases hx
theorem FieldsIn.below {w w' : World} {L : List (Rec × Value)} (h : FieldsIn w L) (hb : Below w.heap.size w w') : FieldsIn w' L := fun x hx => (h x hx).below hb
theorem FieldsIn.grown {w w' : World} {L : List (Rec × Value)} {row : Option Nat} (h : FieldsIn w L) (hg : w.grownBy w' row) (hr : ∀ k, row = some k → ∃ cur e' z, w.heap[k]? = some (.cells cur e' z) ∧ e' ≠ 94) : FieldsIn w' L := fun x hx => (h x hx).grown hg hr
theorem FieldsIn.snoc {w : World} {L : List (Rec × Value)} {x : Rec × Value} (h : FieldsIn w L) (hx : RdT w 94 2 x.2 x.1.2.length (fcells x.1.2)) : FieldsIn w (L ++ [x]) := by
  intro y hy
  rw [List.mem_append, List.mem_singleton] at hy
  rcases hy with hy | rfl
  · exact h y hy
  · exact hx
/-- what a call owns while it reads: the records out, the diagnostics bad -/
def Own2 (w : World) (base : Nat) (out bad : Value) (rs : List Rec) (ds : List Dg) : Prop :=
  ∃ L : List (Rec × Value), L.map (·.1) = rs ∧ w.ownsRow base 86 2 out rs.length (rcells L) ∧ FieldsIn w L ∧ w.ownsRow base 39 3 bad ds.length (dcells ds)
theorem Own2.below {w w' : World} {base : Nat} {out bad : Value} {rs : List Rec} {ds : List Dg} (h : Own2 w base out bad rs ds) (hb : Below w.heap.size w w') : Own2 w' base out bad rs ds := by
  obtain ⟨L, h1, h2, h3, h4⟩ := h
  exact ⟨L, h1, own_below h2 hb, h3.below hb, own_below h4 hb⟩
theorem own_lt {w : World} {base size n : Nat} {e : TypeId} {v : Value} {xs : List Value} (h : w.ownsRow base e size v n xs) : ∀ k, v.ownBlock = some k → base ≤ k := fun k hk => (h.lt k hk).1
/-- behind the append of a record -/
theorem Own2.rec_ {w0 w w' : World} {base : Nat} {out bad v' : Value} {rs : List Rec} {ds : List Dg} {r : Rec} {fv : Value} {L : List (Rec × Value)}
    (h1 : L.map (·.1) = rs) (h2 : w.ownsRow base 86 2 out rs.length (rcells L)) (h3 : FieldsIn w L) (h4 : w.ownsRow base 39 3 bad ds.length (dcells ds))
    (hf : RdT w 94 2 fv r.2.length (fcells r.2)) (hb : Below base w0 w) (hB : base ≤ w.heap.size) {o : Obj}
    (hown : w'.ownsRow base 86 2 v' (rs.length + 1) (rcells L ++ [.int .i64 (r.1 : Int), fv])) (hg : (w.alloc o).grownBy w' out.ownBlock) : Own2 w' base v' bad (rs ++ [r]) ds ∧ Below base w0 w' := by
  have hblk : ∀ k, out.ownBlock = some k → ∃ cur e' z, (w.alloc o).heap[k]? = some (.cells cur e' z) ∧ e' ≠ 94 := by
    intro k hk
    obtain ⟨cur, e', z, hh, he⟩ := own_block (h2.alloc o) k hk
    exact ⟨cur, e', z, hh, by rw [he]; decide⟩
  refine ⟨⟨L ++ [(r, fv)], by rw [List.map_append, h1]; rfl, ?_, ?_, ?_⟩, (hb.alloc hB o).grown hg (by simp; omega) (own_lt h2)⟩
  · rw [rcells_snoc, List.length_append]; exact hown
  · exact ((h3.below ((Below.refl _ _).alloc (Nat.le_refl _) o)).grown hg hblk).snoc ((hf.alloc o).grown hg hblk)
  · exact (h4.alloc o).kept hg (own_apart (h4.alloc o) (h2.alloc o) (by decide))
/-- behind the append of a diagnostic -/
theorem Own2.diag {w0 w w' : World} {base : Nat} {out bad v' : Value} {rs : List Rec} {ds : List Dg} {d : Dg} {L : List (Rec × Value)}
    (h1 : L.map (·.1) = rs) (h2 : w.ownsRow base 86 2 out rs.length (rcells L)) (h3 : FieldsIn w L) (h4 : w.ownsRow base 39 3 bad ds.length (dcells ds))
    (hb : Below base w0 w) (hB : base ≤ w.heap.size) {o : Obj}
    (hown : w'.ownsRow base 39 3 v' (ds.length + 1) (dcells ds ++ [.int .i64 (d.1 : Int), .int .i64 d.2.1, .int .i64 d.2.2])) (hg : (w.alloc o).grownBy w' bad.ownBlock) : Own2 w' base out v' rs (ds ++ [d]) ∧ Below base w0 w' := by
  have hblk : ∀ k, bad.ownBlock = some k → ∃ cur e' z, (w.alloc o).heap[k]? = some (.cells cur e' z) ∧ e' ≠ 94 := by
    intro k hk
    obtain ⟨cur, e', z, hh, he⟩ := own_block (h4.alloc o) k hk
    exact ⟨cur, e', z, hh, by rw [he]; decide⟩
  refine ⟨⟨L, h1, ?_, ?_, ?_⟩, (hb.alloc hB o).grown hg (by simp; omega) (own_lt h4)⟩
  · exact (h2.alloc o).kept hg (own_apart (h2.alloc o) (h4.alloc o) (by decide))
  · exact (h3.below ((Below.refl _ _).alloc (Nat.le_refl _) o)).grown hg hblk
  · rw [dcells_snoc, List.length_append]; exact hown

/-- records in memory; diagnostics in memory -/
def RecsR (w : World) (v : Value) (rs : List Rec) : Prop := ∃ L : List (Rec × Value), L.map (·.1) = rs ∧ RdT w 86 2 v rs.length (rcells L) ∧ FieldsIn w L
def DgsR (w : World) (v : Value) (ds : List Dg) : Prop := RdT w 39 3 v ds.length (dcells ds)
def readRecs (l : List UInt8) : List Rec := if 262144 < l.length then [] else recsL 1 (linesL l)
def readDgs (l : List UInt8) : List Dg := if 262144 < l.length then [(1, 1, 3)] else (dgsL 1 (linesL l)).take 50
def ReadPost (s : ByteArray) (w : World) (e : Ending) (w' : World) : Prop :=
  ∃ v d, e = .returned (.tuple #[v, d]) ∧ RecsR w' v (readRecs (bl s)) ∧ DgsR w' d (readDgs (bl s)) ∧ Below w.heap.size w w'
theorem infoLine : (Tryz.prog.info? 86).map (fun i => (i.zero, i.size, i.bytes)) = some (some (.agg #[.int .i64 0, .slice none 0 0]), 2, 32) := by kernel_rfl
theorem infoDiag : (Tryz.prog.info? 39).map (fun i => (i.zero, i.size, i.bytes)) = some (some (.agg #[.int .i64 0, .int .i64 0, .int .i64 0]), 3, 24) := by kernel_rfl
theorem cell_three_new (w : World) (a b c : Value) (t : TypeId) : ∀ j u, [a, b, c][j]? = some u → (w.alloc (.cells #[a, b, c] t)).cell? ((⟨w.heap.size, 0, none⟩ : Addr).add j) = some u := by
  intro j u h
  match j, h with
  | 0, h => simp at h; subst h; simp [Addr.add_lit, go_sem]
  | 1, h => simp at h; subst h; simp [Addr.add_lit, go_sem]
  | 2, h => simp at h; subst h; simp [Addr.add_lit, go_sem]
  | j + 3, h => simp at h


theorem take50_push {D ds : List Dg} {d : Dg} (h : D.take 50 = ds) (hl : ds.length < 50) : (D ++ [d]).take 50 = ds ++ [d] := by
  have h2 : D.length < 50 := by
    have := congrArg List.length h
    rw [List.length_take] at this
    omega
  rw [List.take_of_length_le (by omega)] at h
  subst h
  rw [List.take_of_length_le (by rw [List.length_append]; simp; omega)]
theorem take50_full {D ds : List Dg} {d : Dg} (h : D.take 50 = ds) (hl : ¬ ds.length < 50) : (D ++ [d]).take 50 = ds := by
  have h2 : 50 ≤ D.length := by
    have := congrArg List.length h
    rw [List.length_take] at this
    omega
  rw [List.take_append_of_le_length h2, h]
theorem lines_snoc {ls : List (List UInt8)} {k : Nat} {x : List UInt8} (h : k < ls.length) (hx : ls[k]? = some x) : ls.take (k + 1) = ls.take k ++ [x] := by
  rw [List.take_succ_eq_append_getElem h]
  rw [List.getElem?_eq_getElem h, Option.some.injEq] at hx
  rw [hx]
theorem step_rec {ls : List (List UInt8)} {k : Nat} {x : List UInt8} {rs : List Rec} (h : k < ls.length) (hx : ls[k]? = some x) (hr : recsL 1 (ls.take k) = rs) :
    recsL 1 (ls.take (k + 1)) = if isRec x then rs ++ [(k + 1, splitF x)] else rs := by
  rw [lines_snoc h hx, recsL_snoc, hr, List.length_take, Nat.min_eq_left (by omega), Nat.add_comm 1 k]
  split
  · rfl
  · rw [List.append_nil]
theorem step_dg {ls : List (List UInt8)} {k : Nat} {x : List UInt8} {ds : List Dg} (h : k < ls.length) (hx : ls[k]? = some x) (hr : (dgsL 1 (ls.take k)).take 50 = ds) :
    (dgsL 1 (ls.take (k + 1))).take 50 = if splitErr x == 0 then ds else if ds.length < 50 then ds ++ [(k + 1, splitCol x, splitErr x)] else ds := by
  rw [lines_snoc h hx, dgsL_snoc, List.length_take, Nat.min_eq_left (by omega), Nat.add_comm 1 k]
  split
  · rw [List.append_nil, hr]
  · split
    · exact take50_push hr (by assumption)
    · exact take50_full hr (by assumption)

set_option maxRecDepth 100000 in
set_option maxHeartbeats 400000 in
theorem read_long (s : ByteArray) (w : World) (h : 262144 < s.size) (hs : s.size ≤ maxLen) :
    Calls Tryz.prog 73 #[.string s] w (ReadPost s w) := by
  unfold maxLen at hs
  have h1 : (262144 : Int) < (s.size : Int) := by omega
  have H1 : Hid (readRecs (bl s) = []) := if_pos h
  have H2 : Hid (readDgs (bl s) = [(1, 1, 3)]) := if_pos h
  clear h
  go_enter Tryz.func73, Tryz.ntmps73
  go_wp2
  go_ret2
  refine ⟨_, _, rfl, ?_, ?_, (Below.refl _ _).alloc (Nat.le_refl _) _⟩
  · rw [H1.out]; exact ⟨[], rfl, RdT.nil _ _ _, FieldsIn.nil _⟩
  · rw [H2.out]; exact rdT_new w [.int .i64 1, .int .i64 1, .int .i64 3] _ 3 1 rfl (by unfold maxLen; omega)
set_option maxRecDepth 100000 in
set_option maxHeartbeats 4000000 in
theorem read_short (s : ByteArray) (w : World) (E : Env w) (hs : s.size ≤ 262144) :
    Calls Tryz.prog 73 #[.string s] w (ReadPost s w) := by
  have h1 : (s.size : Int) ≤ 262144 := by omega
  obtain ⟨iL, hiL, hzL0, hzL1, hzL2⟩ := info_parts infoLine
  obtain ⟨iD, hiD, hzD0, hzD1, hzD2⟩ := info_parts infoDiag
  go_enter Tryz.func73, Tryz.ntmps73
  go_wp2_with fail
  refine (splitNl s _ E (by omega)).mono ?_
  rintro e w1 ⟨lv, rfl, hlv, hb1⟩
  have E1 := E.below hb1
  have hn0 : 0 < (linesL (bl s)).length := List.length_pos_iff.2 (linesL_ne _)
  have hnl := linesL_len (bl s)
  rw [bl_len] at hnl
  obtain ⟨ls, hls⟩ : ∃ ls, linesL (bl s) = ls := ⟨_, rfl⟩
  have hmem := linesL_mem (bl s)
  rw [hls] at hlv hn0 hnl hmem
  have HLS := Lib.hid hls
  have hmem := Lib.hid hmem
  clear hls
  obtain ⟨n, hn⟩ : ∃ n, ls.length = n := ⟨_, rfl⟩
  rw [hn] at hlv hn0 hnl
  have HN := Lib.hid hn
  clear hn
  obtain ⟨⟨hll, A, c, rfl, hnc, hcm, hcell⟩, _⟩ := hlv
  obtain ⟨g, o, rfl, hg, hcell⟩ := hcell hn0
  have HC := Lib.hid hcell
  clear hcell hll
  unfold maxLen at hcm
  go_wp2_with fail
  go_loopw [4, 5, 19] (fun v d i wr => ∃ k : Nat, k ≤ n ∧ i = .int .i64 k ∧ Own2 wr w1.heap.size v d (recsL 1 (ls.take k)) ((dgsL 1 (ls.take k)).take 50) ∧ Below w1.heap.size w1 wr) (fun _ _ i _ => n - (intOf i).toNat)
  case atStart =>
    exact ⟨0, Nat.zero_le _, rfl, ⟨[], rfl, World.ownsRow_nil _ _ _ _, FieldsIn.nil _, World.ownsRow_nil _ _ _ _⟩, Below.refl _ _⟩
  case round =>
    obtain ⟨k, hk, rfl, hown, hbr⟩ := hrel
    obtain ⟨rs, hrs⟩ : ∃ rs, recsL 1 (ls.take k) = rs := ⟨_, rfl⟩
    obtain ⟨ds, hds⟩ : ∃ ds, (dgsL 1 (ls.take k)).take 50 = ds := ⟨_, rfl⟩
    rw [hrs, hds] at hown
    have HRS := Lib.hid hrs
    have HDS := Lib.hid hds
    have hrl : rs.length ≤ k := by
      have := recsL_len (ls.take k) 1
      rw [hrs, List.length_take] at this
      omega
    have hdl : ds.length ≤ 50 := by
      rw [← hds, List.length_take]; omega
    clear hrs hds
    by_cases hlt : k < n
    · have hkl : k < ls.length := by rw [HN.out]; exact hlt
      obtain ⟨x, hx⟩ : ∃ x : ByteArray, bl x = ls[k] := ⟨sb ls[k], rfl⟩
      have hxs : x.size ≤ s.size := by
        have := hmem.out _ (List.getElem_mem hkl)
        rw [← hx, bl_len, bl_len] at this
        exact this
      have hlk : Hid (ls[k]? = some (bl x)) := by unfold Hid; rw [hx, List.getElem?_eq_getElem hkl]
      have hc : wr.cell? ⟨g, o + k, none⟩ = some (.string x) := by
        refine (hbr.cell (p := ⟨g, o + k, none⟩) hg).trans (HC.out k _ ?_)
        unfold scells
        rw [List.getElem?_map, hlk.out]
        show some (Value.string (sb (bl x))) = _
        rw [sb_bl]
      clear hx
      have hsr := Lib.hid (step_rec hkl hlk.out HRS.out)
      have hsd := Lib.hid (step_dg hkl hlk.out HDS.out)
      clear hkl
      have H2 := Lib.hid hown
      obtain ⟨L, o1, o2, o3, o4⟩ := hown
      obtain ⟨A1, c1, rfl, _⟩ := (Rd.of_own o2).form
      obtain ⟨A2, c2, rfl, _⟩ := (Rd.of_own o4).form
      clear o1 o2 o3 o4
      go_wp2_with fail
      refine (split_any x _ (E1.of_below hbr E1.size) (by unfold maxLen; omega)).mono ?_
      rintro e w2 ⟨fv, rfl, hfv, hb2⟩
      obtain ⟨fs, hfs⟩ : ∃ fs, splitF (bl x) = fs := ⟨_, rfl⟩
      obtain ⟨er, her⟩ : ∃ er, splitErr (bl x) = er := ⟨_, rfl⟩
      obtain ⟨co, hco⟩ : ∃ co, splitCol (bl x) = co := ⟨_, rfl⟩
      rw [hfs] at hfv
      rw [her, hco]
      rw [hfs] at hsr
      rw [her, hco] at hsd
      have hrecx : Hid (isRec (bl x) = (er == 0 && !fs.isEmpty)) := by unfold Hid isRec; rw [hfs, her]
      rw [hrecx.out] at hsr
      obtain ⟨A3, c3, rfl, _⟩ := hfv.1.form
      have hbr2 := hbr.trans (hb2.mono hbr.size)
      have hB2 := hbr2.size
      obtain ⟨L, o1, o2, o3, o4⟩ := H2.out.below hb2
      have O1 := Lib.hid o1
      clear hfs her hco o1
      by_cases he0 : er = 0
      · have e1 : (er != 0) = false := by rw [he0]; rfl
        have e2 : (er == 0) = true := by rw [he0]; rfl
        rw [e2, if_pos rfl] at hsd
        rw [e2, Bool.true_and] at hsr
        clear he0 e2
        by_cases hfl : 0 < fs.length
        · have hfl' : (0 : Int) < (fs.length : Int) := by omega
          have e3 : fs.isEmpty = false := by rw [List.isEmpty_eq_false_iff]; intro e; rw [e] at hfl; simp at hfl
          rw [e3, Bool.not_false, if_pos rfl] at hsr
          clear e3
          go_wp2_with (at_builtin; refine wpList_append_own _ rfl (.tmp 48) (.tmp 53) 33 rfl w1.heap.size 86 iL (.agg #[.int .i64 0, .slice none 0 0]) 2 32 Tryz.underlying33 hiL hzL0 hzL1 hzL2 rfl (by decide) _ _ _ rfl (o2.alloc _) ⟨w2.heap.size, 0, none⟩ 1 1 [.int .i64 ((k : Int) + 1), .slice A3 fs.length c3] rfl rfl (cell_two_new _ _ _ _) (by intro u hu; simp at hu; rcases hu with rfl | rfl <;> rfl) (by unfold maxLen; omega) (by omega) (by simp; omega) ?_)
          intro v' w' hown' hgrow _
          have R : Own2 w' w1.heap.size v' (.slice A2 ds.length c2) (recsL 1 (ls.take (k + 1))) ((dgsL 1 (ls.take (k + 1))).take 50) ∧ Below w1.heap.size w1 w' := by rw [hsr.out, hsd.out]; exact Own2.rec_ (r := (k + 1, fs)) O1.out o2 o3 o4 hfv hbr2 hB2 hown' hgrow
          clear hown' hgrow o2 o3 o4 H2 hfv
          go_wp2
          go_roundw
          case rel => exact ⟨k + 1, hlt, by go_num, R.1, R.2⟩
          case measure => simp [intOf]; omega
        · have hfl' : (fs.length : Int) ≤ 0 := by omega
          have e3 : fs.isEmpty = true := by rw [List.isEmpty_iff]; exact List.eq_nil_of_length_eq_zero (by omega)
          rw [e3, Bool.not_true, if_neg (by decide)] at hsr
          have R : Own2 w2 w1.heap.size (.slice A1 rs.length c1) (.slice A2 ds.length c2) (recsL 1 (ls.take (k + 1))) ((dgsL 1 (ls.take (k + 1))).take 50) := by rw [hsr.out, hsd.out]; exact H2.out.below hb2
          clear o2 o3 o4 H2 hfv e3
          go_wp2
          go_roundw
          case rel => exact ⟨k + 1, hlt, by go_num, R, hbr2⟩
          case measure => simp [intOf]; omega
      · have e1 : (er != 0) = true := bne_iff_ne.2 he0
        have e2 : (er == 0) = false := beq_eq_false_iff_ne.2 he0
        rw [e2, if_neg (by decide)] at hsd
        rw [e2, Bool.false_and, if_neg (by decide)] at hsr
        clear he0 e2
        by_cases hdl2 : ds.length < 50
        · have hdl' : (ds.length : Int) < 50 := by omega
          rw [if_pos hdl2] at hsd
          go_wp2_with (at_builtin; refine wpList_append_own _ rfl (.tmp 36) (.tmp 42) 55 rfl w1.heap.size 39 iD (.agg #[.int .i64 0, .int .i64 0, .int .i64 0]) 3 24 Tryz.underlying55 hiD hzD0 hzD1 hzD2 rfl (by decide) _ _ _ rfl (o4.alloc _) ⟨w2.heap.size, 0, none⟩ 1 1 [.int .i64 ((k : Int) + 1), .int .i64 co, .int .i64 er] rfl rfl (cell_three_new _ _ _ _ _) (by intro u hu; simp at hu; rcases hu with rfl | rfl | rfl <;> rfl) (by unfold maxLen; omega) (by omega) (by simp; omega) ?_)
          intro v' w' hown' hgrow _
          have R : Own2 w' w1.heap.size (.slice A1 rs.length c1) v' (recsL 1 (ls.take (k + 1))) ((dgsL 1 (ls.take (k + 1))).take 50) ∧ Below w1.heap.size w1 w' := by rw [hsr.out, hsd.out]; exact Own2.diag (d := (k + 1, co, er)) O1.out o2 o3 o4 hbr2 hB2 hown' hgrow
          clear hown' hgrow o2 o3 o4 H2 hfv
          go_wp2
          go_roundw
          case rel => exact ⟨k + 1, hlt, by go_num, R.1, R.2⟩
          case measure => simp [intOf]; omega
        · have hdl' : (50 : Int) ≤ (ds.length : Int) := by omega
          rw [if_neg hdl2] at hsd
          have R : Own2 w2 w1.heap.size (.slice A1 rs.length c1) (.slice A2 ds.length c2) (recsL 1 (ls.take (k + 1))) ((dgsL 1 (ls.take (k + 1))).take 50) := by rw [hsr.out, hsd.out]; exact H2.out.below hb2
          clear o2 o3 o4 H2 hfv
          go_wp2
          go_roundw
          case rel => exact ⟨k + 1, hlt, by go_num, R, hbr2⟩
          case measure => simp [intOf]; omega
    · have hall : ls.take k = ls := List.take_of_length_le (by rw [HN.out]; omega)
      have F1 : Hid (readRecs (bl s) = rs) := by unfold Hid readRecs; rw [if_neg (by rw [bl_len]; omega), HLS.out, ← HRS.out, hall]
      have F2 : Hid (readDgs (bl s) = ds) := by unfold Hid readDgs; rw [if_neg (by rw [bl_len]; omega), HLS.out, ← HDS.out, hall]
      have H2 := Lib.hid hown
      clear hall hown
      go_wp2
      go_ret2
      obtain ⟨L, o1, o2, o3, o4⟩ := H2.out
      refine ⟨_, _, rfl, ?_, ?_, Below.then_ hb1 hbr⟩
      · rw [F1.out]; exact ⟨L, o1, RdT.of_own o2, o3⟩
      · rw [F2.out]; exact RdT.of_own o4
theorem read_any (s : ByteArray) (w : World) (E : Env w) (hs : s.size ≤ maxLen) :
    Calls Tryz.prog 73 #[.string s] w (ReadPost s w) := by
  by_cases h : 262144 < s.size
  · exact read_long s w h hs
  · exact read_short s w E (by omega)
set_option maxRecDepth 100000 in
set_option maxHeartbeats 400000 in
theorem rread_long (s : ByteArray) (w : World) (h : 262144 < s.size) (hs : s.size ≤ maxLen) :
    Calls Tryz.prog 74 #[.string s] w (ReadPost s w) := by
  unfold maxLen at hs
  have h1 : (262144 : Int) < (s.size : Int) := by omega
  have H1 : Hid (readRecs (bl s) = []) := if_pos h
  have H2 : Hid (readDgs (bl s) = [(1, 1, 3)]) := if_pos h
  clear h
  go_enter Tryz.func74, Tryz.ntmps74
  go_wp2
  go_ret2
  refine ⟨_, _, rfl, ?_, ?_, (Below.refl _ _).alloc (Nat.le_refl _) _⟩
  · rw [H1.out]; exact ⟨[], rfl, RdT.nil _ _ _, FieldsIn.nil _⟩
  · rw [H2.out]; exact rdT_new w [.int .i64 1, .int .i64 1, .int .i64 3] _ 3 1 rfl (by unfold maxLen; omega)
set_option maxRecDepth 100000 in
set_option maxHeartbeats 4000000 in
theorem rread_short (s : ByteArray) (w : World)   (hs : s.size ≤ 262144) :
    Calls Tryz.prog 74 #[.string s] w (ReadPost s w) := by
  have h1 : (s.size : Int) ≤ 262144 := by omega
  obtain ⟨iL, hiL, hzL0, hzL1, hzL2⟩ := info_parts infoLine
  obtain ⟨iD, hiD, hzD0, hzD1, hzD2⟩ := info_parts infoDiag
  go_enter Tryz.func74, Tryz.ntmps74
  go_wp2_with fail
  refine (rlines_any s _ (by omega)).mono ?_
  rintro e w1 ⟨lv, rfl, hlv, hb1⟩
   
  have hn0 : 0 < (linesL (bl s)).length := List.length_pos_iff.2 (linesL_ne _)
  have hnl := linesL_len (bl s)
  rw [bl_len] at hnl
  obtain ⟨ls, hls⟩ : ∃ ls, linesL (bl s) = ls := ⟨_, rfl⟩
  have hmem := linesL_mem (bl s)
  rw [hls] at hlv hn0 hnl hmem
  have HLS := Lib.hid hls
  have hmem := Lib.hid hmem
  clear hls
  obtain ⟨n, hn⟩ : ∃ n, ls.length = n := ⟨_, rfl⟩
  rw [hn] at hlv hn0 hnl
  have HN := Lib.hid hn
  clear hn
  obtain ⟨⟨hll, A, c, rfl, hnc, hcm, hcell⟩, _⟩ := hlv
  obtain ⟨g, o, rfl, hg, hcell⟩ := hcell hn0
  have HC := Lib.hid hcell
  clear hcell hll
  unfold maxLen at hcm
  go_wp2_with fail
  go_loopw [4, 5, 19] (fun v d i wr => ∃ k : Nat, k ≤ n ∧ i = .int .i64 k ∧ Own2 wr w1.heap.size v d (recsL 1 (ls.take k)) ((dgsL 1 (ls.take k)).take 50) ∧ Below w1.heap.size w1 wr) (fun _ _ i _ => n - (intOf i).toNat)
  case atStart =>
    exact ⟨0, Nat.zero_le _, rfl, ⟨[], rfl, World.ownsRow_nil _ _ _ _, FieldsIn.nil _, World.ownsRow_nil _ _ _ _⟩, Below.refl _ _⟩
  case round =>
    obtain ⟨k, hk, rfl, hown, hbr⟩ := hrel
    obtain ⟨rs, hrs⟩ : ∃ rs, recsL 1 (ls.take k) = rs := ⟨_, rfl⟩
    obtain ⟨ds, hds⟩ : ∃ ds, (dgsL 1 (ls.take k)).take 50 = ds := ⟨_, rfl⟩
    rw [hrs, hds] at hown
    have HRS := Lib.hid hrs
    have HDS := Lib.hid hds
    have hrl : rs.length ≤ k := by
      have := recsL_len (ls.take k) 1
      rw [hrs, List.length_take] at this
      omega
    have hdl : ds.length ≤ 50 := by
      rw [← hds, List.length_take]; omega
    clear hrs hds
    by_cases hlt : k < n
    · have hkl : k < ls.length := by rw [HN.out]; exact hlt
      obtain ⟨x, hx⟩ : ∃ x : ByteArray, bl x = ls[k] := ⟨sb ls[k], rfl⟩
      have hxs : x.size ≤ s.size := by
        have := hmem.out _ (List.getElem_mem hkl)
        rw [← hx, bl_len, bl_len] at this
        exact this
      have hlk : Hid (ls[k]? = some (bl x)) := by unfold Hid; rw [hx, List.getElem?_eq_getElem hkl]
      have hc : wr.cell? ⟨g, o + k, none⟩ = some (.string x) := by
        refine (hbr.cell (p := ⟨g, o + k, none⟩) hg).trans (HC.out k _ ?_)
        unfold scells
        rw [List.getElem?_map, hlk.out]
        show some (Value.string (sb (bl x))) = _
        rw [sb_bl]
      clear hx
      have hsr := Lib.hid (step_rec hkl hlk.out HRS.out)
      have hsd := Lib.hid (step_dg hkl hlk.out HDS.out)
      clear hkl
      have H2 := Lib.hid hown
      obtain ⟨L, o1, o2, o3, o4⟩ := hown
      obtain ⟨A1, c1, rfl, _⟩ := (Rd.of_own o2).form
      obtain ⟨A2, c2, rfl, _⟩ := (Rd.of_own o4).form
      clear o1 o2 o3 o4
      go_wp2_with fail
      refine (rsplit_any x _ (by unfold maxLen; omega)).mono ?_
      rintro e w2 ⟨fv, rfl, hfv, hb2⟩
      obtain ⟨fs, hfs⟩ : ∃ fs, splitF (bl x) = fs := ⟨_, rfl⟩
      obtain ⟨er, her⟩ : ∃ er, splitErr (bl x) = er := ⟨_, rfl⟩
      obtain ⟨co, hco⟩ : ∃ co, splitCol (bl x) = co := ⟨_, rfl⟩
      rw [hfs] at hfv
      rw [her, hco]
      rw [hfs] at hsr
      rw [her, hco] at hsd
      have hrecx : Hid (isRec (bl x) = (er == 0 && !fs.isEmpty)) := by unfold Hid isRec; rw [hfs, her]
      rw [hrecx.out] at hsr
      obtain ⟨A3, c3, rfl, _⟩ := hfv.1.form
      have hbr2 := hbr.trans (hb2.mono hbr.size)
      have hB2 := hbr2.size
      obtain ⟨L, o1, o2, o3, o4⟩ := H2.out.below hb2
      have O1 := Lib.hid o1
      clear hfs her hco o1
      by_cases he0 : er = 0
      · have e1 : (er != 0) = false := by rw [he0]; rfl
        have e2 : (er == 0) = true := by rw [he0]; rfl
        rw [e2, if_pos rfl] at hsd
        rw [e2, Bool.true_and] at hsr
        clear he0 e2
        by_cases hfl : 0 < fs.length
        · have hfl' : (0 : Int) < (fs.length : Int) := by omega
          have e3 : fs.isEmpty = false := by rw [List.isEmpty_eq_false_iff]; intro e; rw [e] at hfl; simp at hfl
          rw [e3, Bool.not_false, if_pos rfl] at hsr
          clear e3
          go_wp2_with (at_builtin; refine wpList_append_own _ rfl (.tmp 46) (.tmp 51) 33 rfl w1.heap.size 86 iL (.agg #[.int .i64 0, .slice none 0 0]) 2 32 Tryz.underlying33 hiL hzL0 hzL1 hzL2 rfl (by decide) _ _ _ rfl (o2.alloc _) ⟨w2.heap.size, 0, none⟩ 1 1 [.int .i64 ((k : Int) + 1), .slice A3 fs.length c3] rfl rfl (cell_two_new _ _ _ _) (by intro u hu; simp at hu; rcases hu with rfl | rfl <;> rfl) (by unfold maxLen; omega) (by omega) (by simp; omega) ?_)
          intro v' w' hown' hgrow _
          have R : Own2 w' w1.heap.size v' (.slice A2 ds.length c2) (recsL 1 (ls.take (k + 1))) ((dgsL 1 (ls.take (k + 1))).take 50) ∧ Below w1.heap.size w1 w' := by rw [hsr.out, hsd.out]; exact Own2.rec_ (r := (k + 1, fs)) O1.out o2 o3 o4 hfv hbr2 hB2 hown' hgrow
          clear hown' hgrow o2 o3 o4 H2 hfv
          go_wp2
          go_roundw
          case rel => exact ⟨k + 1, hlt, by go_num, R.1, R.2⟩
          case measure => simp [intOf]; omega
        · have hfl' : (fs.length : Int) ≤ 0 := by omega
          have e3 : fs.isEmpty = true := by rw [List.isEmpty_iff]; exact List.eq_nil_of_length_eq_zero (by omega)
          rw [e3, Bool.not_true, if_neg (by decide)] at hsr
          have R : Own2 w2 w1.heap.size (.slice A1 rs.length c1) (.slice A2 ds.length c2) (recsL 1 (ls.take (k + 1))) ((dgsL 1 (ls.take (k + 1))).take 50) := by rw [hsr.out, hsd.out]; exact H2.out.below hb2
          clear o2 o3 o4 H2 hfv e3
          go_wp2
          go_roundw
          case rel => exact ⟨k + 1, hlt, by go_num, R, hbr2⟩
          case measure => simp [intOf]; omega
      · have e1 : (er != 0) = true := bne_iff_ne.2 he0
        have e2 : (er == 0) = false := beq_eq_false_iff_ne.2 he0
        rw [e2, if_neg (by decide)] at hsd
        rw [e2, Bool.false_and, if_neg (by decide)] at hsr
        clear he0 e2
        by_cases hdl2 : ds.length < 50
        · have hdl' : (ds.length : Int) < 50 := by omega
          rw [if_pos hdl2] at hsd
          go_wp2_with (at_builtin; refine wpList_append_own _ rfl (.tmp 35) (.tmp 41) 55 rfl w1.heap.size 39 iD (.agg #[.int .i64 0, .int .i64 0, .int .i64 0]) 3 24 Tryz.underlying55 hiD hzD0 hzD1 hzD2 rfl (by decide) _ _ _ rfl (o4.alloc _) ⟨w2.heap.size, 0, none⟩ 1 1 [.int .i64 ((k : Int) + 1), .int .i64 co, .int .i64 er] rfl rfl (cell_three_new _ _ _ _ _) (by intro u hu; simp at hu; rcases hu with rfl | rfl | rfl <;> rfl) (by unfold maxLen; omega) (by omega) (by simp; omega) ?_)
          intro v' w' hown' hgrow _
          have R : Own2 w' w1.heap.size (.slice A1 rs.length c1) v' (recsL 1 (ls.take (k + 1))) ((dgsL 1 (ls.take (k + 1))).take 50) ∧ Below w1.heap.size w1 w' := by rw [hsr.out, hsd.out]; exact Own2.diag (d := (k + 1, co, er)) O1.out o2 o3 o4 hbr2 hB2 hown' hgrow
          clear hown' hgrow o2 o3 o4 H2 hfv
          go_wp2
          go_roundw
          case rel => exact ⟨k + 1, hlt, by go_num, R.1, R.2⟩
          case measure => simp [intOf]; omega
        · have hdl' : (50 : Int) ≤ (ds.length : Int) := by omega
          rw [if_neg hdl2] at hsd
          have R : Own2 w2 w1.heap.size (.slice A1 rs.length c1) (.slice A2 ds.length c2) (recsL 1 (ls.take (k + 1))) ((dgsL 1 (ls.take (k + 1))).take 50) := by rw [hsr.out, hsd.out]; exact H2.out.below hb2
          clear o2 o3 o4 H2 hfv
          go_wp2
          go_roundw
          case rel => exact ⟨k + 1, hlt, by go_num, R, hbr2⟩
          case measure => simp [intOf]; omega
    · have hall : ls.take k = ls := List.take_of_length_le (by rw [HN.out]; omega)
      have F1 : Hid (readRecs (bl s) = rs) := by unfold Hid readRecs; rw [if_neg (by rw [bl_len]; omega), HLS.out, ← HRS.out, hall]
      have F2 : Hid (readDgs (bl s) = ds) := by unfold Hid readDgs; rw [if_neg (by rw [bl_len]; omega), HLS.out, ← HDS.out, hall]
      have H2 := Lib.hid hown
      clear hall hown
      go_wp2
      go_ret2
      obtain ⟨L, o1, o2, o3, o4⟩ := H2.out
      refine ⟨_, _, rfl, ?_, ?_, Below.then_ hb1 hbr⟩
      · rw [F1.out]; exact ⟨L, o1, RdT.of_own o2, o3⟩
      · rw [F2.out]; exact RdT.of_own o4
theorem rread_any (s : ByteArray) (w : World)   (hs : s.size ≤ maxLen) :
    Calls Tryz.prog 74 #[.string s] w (ReadPost s w) := by
  by_cases h : 262144 < s.size
  · exact rread_long s w h hs
  · exact rread_short s w   (by omega)
end Go.Proofs.YtinkdlmikhcpjaaGreatDoor
namespace Go.Proofs.YtinkdlmikhcpjaaGreatDoor
open Go.RowKit
set_option linter.unusedVariables false
set_option linter.unusedSimpArgs false

theorem Rd.three {w : World} {n : Nat} {v : Value} {xs : List Value} (h : Rd w 3 v n xs) {k : Nat} (hk : k < n) : ∃ g o c a b d, v = .slice (some ⟨g, o, none⟩) n c ∧ n ≤ c ∧ g < w.heap.size ∧ xs[k * 3]? = some a ∧ xs[k * 3 + 1]? = some b ∧ xs[k * 3 + 2]? = some d ∧ w.cell? ⟨g, o + k * 3, none⟩ = some a ∧ w.cell? ⟨g, o + k * 3 + 1, none⟩ = some b ∧ w.cell? ⟨g, o + k * 3 + 2, none⟩ = some d := by
  obtain ⟨hl, A, c, hv, hc, hm, hr⟩ := h
  obtain ⟨g, o, rfl, hg, hx⟩ := hr (by omega)
  have h1 : k * 3 < xs.length := by omega
  have h2 : k * 3 + 1 < xs.length := by omega
  have h3 : k * 3 + 2 < xs.length := by omega
  have e2 := hx _ _ (List.getElem?_eq_getElem h2)
  have e3 := hx _ _ (List.getElem?_eq_getElem h3)
  rw [← Nat.add_assoc] at e2 e3
  exact ⟨g, o, c, xs[k * 3], xs[k * 3 + 1], xs[k * 3 + 2], hv, hc, hg, List.getElem?_eq_getElem h1, List.getElem?_eq_getElem h2, List.getElem?_eq_getElem h3, hx _ _ (List.getElem?_eq_getElem h1), e2, by rwa [Nat.add_assoc] at e3 ⊢⟩
theorem dcells_at (l : List Dg) : ∀ (k : Nat) (h : k < l.length), (dcells l)[k * 3]? = some (.int .i64 (l[k].1 : Int)) ∧ (dcells l)[k * 3 + 1]? = some (.int .i64 l[k].2.1) ∧ (dcells l)[k * 3 + 2]? = some (.int .i64 l[k].2.2) := by
  induction l with
  | nil => intro k h; simp at h
  | cons d l ih =>
    intro k h
    cases k with
    | zero => exact ⟨rfl, rfl, rfl⟩
    | succ k =>
      have := ih k (by simpa using h)
      rw [show (k + 1) * 3 = k * 3 + 3 by omega]
      exact this
theorem rcells_at (L : List (Rec × Value)) : ∀ (k : Nat) (h : k < L.length), (rcells L)[k * 2]? = some (.int .i64 (L[k].1.1 : Int)) ∧ (rcells L)[k * 2 + 1]? = some L[k].2 := by
  induction L with
  | nil => intro k h; simp at h
  | cons d l ih =>
    intro k h
    cases k with
    | zero => exact ⟨rfl, rfl⟩
    | succ k =>
      have := ih k (by simpa using h)
      rw [show (k + 1) * 2 = k * 2 + 2 by omega]
      exact this
theorem RecsR.form {w : World} {v : Value} {rs : List Rec} (h : RecsR w v rs) : ∃ A c, v = .slice A rs.length c ∧ rs.length ≤ c ∧ c ≤ maxLen := by
  obtain ⟨L, _, h2, _⟩ := h
  exact h2.1.form
theorem RecsR.below {w w' : World} {v : Value} {rs : List Rec} (h : RecsR w v rs) (hb : Below w.heap.size w w') : RecsR w' v rs := by
  obtain ⟨L, h1, h2, h3⟩ := h
  exact ⟨L, h1, h2.below hb, h3.below hb⟩
theorem DgsR.below {w w' : World} {v : Value} {ds : List Dg} (h : DgsR w v ds) (hb : Below w.heap.size w w') : DgsR w' v ds := RdT.below h hb
theorem DgsR.form {w : World} {v : Value} {ds : List Dg} (h : DgsR w v ds) : ∃ A c, v = .slice A ds.length c ∧ ds.length ≤ c ∧ c ≤ maxLen := h.1.form
theorem RecsR.at_ {w : World} {v : Value} {rs : List Rec} (h : RecsR w v rs) {k : Nat} (hk : k < rs.length) : ∃ g o c fv, v = .slice (some ⟨g, o, none⟩) rs.length c ∧ w.cell? ⟨g, o + k * 2, none⟩ = some (.int .i64 (rs[k].1 : Int)) ∧ w.cell? ⟨g, o + k * 2 + 1, none⟩ = some fv ∧ RdT w 94 2 fv rs[k].2.length (fcells rs[k].2) := by
  obtain ⟨L, h1, h2, h3⟩ := h
  have hl : L.length = rs.length := by rw [← h1, List.length_map]
  have hkL : k < L.length := by omega
  have e : L[k].1 = rs[k] := by simp only [← h1, List.getElem_map]
  obtain ⟨g, o, c, a, b, hv, _, _, x1, x2, y1, y2⟩ := h2.1.two hk
  have := rcells_at L k hkL
  rw [this.1, Option.some.injEq] at x1
  rw [this.2, Option.some.injEq] at x2
  subst x1 x2
  rw [e] at y1
  refine ⟨g, o, c, _, hv, y1, y2, ?_⟩
  rw [← e]
  exact h3 _ (List.getElem_mem hkL)
theorem DgsR.at_ {w : World} {v : Value} {ds : List Dg} (h : DgsR w v ds) {k : Nat} (hk : k < ds.length) : ∃ g o c, v = .slice (some ⟨g, o, none⟩) ds.length c ∧ w.cell? ⟨g, o + k * 3, none⟩ = some (.int .i64 (ds[k].1 : Int)) ∧ w.cell? ⟨g, o + k * 3 + 1, none⟩ = some (.int .i64 ds[k].2.1) ∧ w.cell? ⟨g, o + k * 3 + 2, none⟩ = some (.int .i64 ds[k].2.2) := by
  obtain ⟨g, o, c, a, b, d, hv, _, _, x1, x2, x3, y1, y2, y3⟩ := Rd.three h.1 hk
  have := dcells_at ds k hk
  rw [this.1, Option.some.injEq] at x1
  rw [this.2.1, Option.some.injEq] at x2
  rw [this.2.2, Option.some.injEq] at x3
  subst x1 x2 x3
  exact ⟨g, o, c, hv, y1, y2, y3⟩

set_option maxHeartbeats 1000000 in
theorem diags_same (va vb : Value) (l : List Dg) (w : World) (ha : DgsR w va l) (hb : DgsR w vb l) :
    Calls Tryz.prog 26 #[va, vb] w fun e w' => e = .returned (.bool true) ∧ Drew w w' := by
  obtain ⟨A, c, rfl, hc, hm⟩ := ha.form
  obtain ⟨A', c', rfl, hc', hm'⟩ := hb.form
  obtain ⟨n, hn⟩ : ∃ n, l.length = n := ⟨_, rfl⟩
  have HN := Lib.hid hn
  have HA := Lib.hid ha
  have HB := Lib.hid hb
  clear ha hb
  rw [hn] at hc hc' ⊢
  clear hn
  unfold maxLen at hm hm'
  go_enter Tryz.func26, Tryz.ntmps26
  go_wp2
  go_loopw [13] (fun i wr => ∃ k : Nat, k ≤ n ∧ i = .int .i64 k ∧ Drew w wr) (fun i _ => n - (intOf i).toNat)
  case atStart => exact ⟨0, Nat.zero_le _, rfl, Drew.refl _⟩
  case round =>
    obtain ⟨k, hk, rfl, hbr⟩ := hrel
    by_cases hlt : k < n
    · obtain ⟨g, o, c1, hv, y1, y2, y3⟩ := (HA.out.below hbr.below).at_ (k := k) (by rw [HN.out]; exact hlt)
      obtain ⟨g', o', c1', hv', y1', y2', y3'⟩ := (HB.out.below hbr.below).at_ (k := k) (by rw [HN.out]; exact hlt)
      injection hv with hA _ hC
      injection hv' with hA' _ hC'
      subst hA hA' hC hC'
      have hki : (k : Int) < (n : Int) := by omega
      go_wp2
      go_quiet (fail)
      go_wp2
      go_roundw
      case rel => exact ⟨k + 1, hlt, by go_num, hbr.more _⟩
      case measure => simp [intOf]; omega
    · go_wp2
      go_ret
      exact ⟨rfl, hbr⟩
end Go.Proofs.YtinkdlmikhcpjaaGreatDoor
namespace Go.Proofs.YtinkdlmikhcpjaaGreatDoor
set_option linter.unusedVariables false
set_option linter.unusedSimpArgs false

theorem altAbs_mem {b : Nat} {c : UInt8} (h : c ∈ altAbs b) : digitB c = true ∨ c = 46 := by
  unfold altAbs at h
  have hd : ∀ n, ∀ x ∈ Lib.decDigits n, digitB x = true := fun n => List.all_eq_true.1 (dec_all n)
  rw [List.mem_append] at h
  rcases h with h | h
  · exact .inl (hd _ _ h)
  · split at h
    · cases h
    · simp only [List.cons_append, List.mem_cons, List.mem_append] at h
      rcases h with h | h | h
      · exact .inr h
      · exact .inl (hd _ _ h)
      · exact .inl (hd _ _ h)
theorem altOut_mem {a : Int} {c : UInt8} (h : c ∈ altOut a) : digitB c = true ∨ c = 46 ∨ c = 45 := by
  unfold altOut altTextL at h
  split at h
  · split at h
    · rcases List.mem_cons.1 h with h | h
      · exact .inr (.inr h)
      · rcases altAbs_mem h with h | h
        · exact .inl h
        · exact .inr (.inl h)
    · rcases altAbs_mem h with h | h
      · exact .inl h
      · exact .inr (.inl h)
  · cases h
theorem altOut_no {a : Int} {c : UInt8} (h1 : digitB c = false) (h2 : c ≠ 46) (h3 : c ≠ 45) : c ∉ altOut a := by
  intro h
  rcases altOut_mem h with h | h | h
  · rw [h1] at h; cases h
  · exact h2 h
  · exact h3 h
theorem lastIs_append {c : UInt8} {l r : List UInt8} (h : r ≠ []) : lastIs c (l ++ r) = lastIs c r := by
  unfold lastIs
  rw [List.getLast?_append]
  cases hr : r.getLast? with
  | none => exact absurd (List.getLast?_eq_none_iff.1 hr) h
  | some x => rfl
theorem dec_last (n : Nat) {c : UInt8} (hc : digitB c = false) : lastIs c (Lib.decDigits n) = false := by
  unfold lastIs
  rw [beq_eq_false_iff_ne]
  intro h
  exact notin_digits (dec_all n) hc (List.mem_of_getLast? h)
theorem altAbs_last (b : Nat) {c : UInt8} (hc : digitB c = false) : lastIs c (altAbs b) = false := by
  by_cases h : b % 100 = 0
  · rw [altAbs_whole h]; exact dec_last _ hc
  · rw [altAbs_part h, ← List.append_assoc, lastIs_append (dec_ne _)]
    exact dec_last _ hc
theorem altAbs_ne (b : Nat) : altAbs b ≠ [] := by
  unfold altAbs
  intro h
  exact dec_ne _ (List.append_eq_nil_iff.1 h).1
theorem altOut_last {a : Int} (h : rangedB a = true) {c : UInt8} (hc : digitB c = false) : lastIs c (altOut a) = false := by
  unfold altOut altTextL
  rw [if_pos h]
  split
  · rw [show (45 :: altAbs (-a).toNat) = [45] ++ altAbs (-a).toNat from rfl, lastIs_append (altAbs_ne _)]
    exact altAbs_last _ hc
  · exact altAbs_last _ hc
theorem altOut_ne {a : Int} (h : rangedB a = true) : altOut a ≠ [] := by
  unfold altOut altTextL
  rw [if_pos h]
  split
  · simp
  · exact altAbs_ne _
theorem lastIs_45 : lastIs 45 [45] = true := rfl
theorem altOut_dash {a : Int} (h : rangedB a = true) : altOut a ≠ [45] := by
  intro e
  have := altOut_last (c := 45) h (by decide)
  rw [e] at this; cases this
theorem ranged_of_ok {lo hi : Int} (h : ¬ winBad lo hi) : rangedB lo = true ∧ rangedB hi = true ∧ lo ≤ hi := by
  unfold winBad at h
  exact ⟨rangedB_yes (by omega) (by omega), rangedB_yes (by omega) (by omega), by omega⟩
theorem winSpec_winText {lo hi : Int} (h : ¬ winBad lo hi) : winSpec (winText lo hi) = some (lo, hi) := by
  obtain ⟨h1, h2, h3⟩ := ranged_of_ok h
  have n58 : ∀ a, (58 : UInt8) ∉ altOut a := fun a => altOut_no (by decide) (by decide) (by decide)
  unfold winText
  split
  · rename_i e; rw [e.1, e.2]; rfl
  · split
    · rename_i e
      subst e
      rw [winSpec_eq (altOut_dash h1) (cutAt_none (n58 lo))]
      unfold winOf
      rw [if_neg (by decide), altOut_last h1 (by decide), altOut_last h1 (by decide), altSpec_altOut h1]; rfl
    · split
      · rename_i e
        subst e
        have hne : altOut lo ++ [43] ≠ [45] := by
          intro e
          have := lastIs_append (c := 43) (l := altOut lo) (r := [43]) (by simp)
          rw [e] at this; cases this
        have h58 : (58 : UInt8) ∉ altOut lo ++ [43] := by
          rw [List.mem_append]; rintro (e | e)
          · exact n58 _ e
          · revert e; decide
        rw [winSpec_eq hne (cutAt_none h58)]
        unfold winOf
        rw [if_neg (by decide), lastIs_append (by simp), if_pos (show lastIs 43 [43] = true from rfl), List.dropLast_concat, altSpec_altOut h1]; rfl
      · split
        · rename_i e
          subst e
          have hne : altOut hi ++ [45] ≠ [45] := by
            intro e
            apply altOut_ne h2
            have := congrArg List.length e
            rw [List.length_append] at this
            exact List.eq_nil_of_length_eq_zero (by simpa using this)
          have h58 : (58 : UInt8) ∉ altOut hi ++ [45] := by
            rw [List.mem_append]; rintro (e | e)
            · exact n58 _ e
            · revert e; decide
          rw [winSpec_eq hne (cutAt_none h58)]
          unfold winOf
          rw [if_neg (by decide), lastIs_append (by simp), lastIs_append (by simp), if_neg (by decide), if_pos lastIs_45, List.dropLast_concat, altSpec_altOut h2]; rfl
        · have hne : altOut lo ++ 58 :: altOut hi ≠ [45] := by
            intro e
            have : (58 : UInt8) ∈ ([45] : List UInt8) := by rw [← e]; simp
            revert this; decide
          rw [winSpec_eq hne (cutAt_mid (n58 lo))]
          unfold winOf
          rw [if_pos rfl, altSpec_altOut h1, altSpec_altOut h2]
/-- a window is written and read back -/
theorem pw_winOut {lo hi : Int} (h : ¬ winBad lo hi) : pwLo (winOut lo hi) (winSpec (winOut lo hi)) = lo ∧ pwHi (winOut lo hi) (winSpec (winOut lo hi)) = hi ∧ pwErr (winOut lo hi) (winSpec (winOut lo hi)) = 0 := by
  obtain ⟨h1, h2, h3⟩ := ranged_of_ok h
  have e : winOut lo hi = winText lo hi := if_neg h
  have hs : winSpec (winOut lo hi) = some (lo, hi) := by rw [e]; exact winSpec_winText h
  rw [hs]
  have := pw_ok (l := winOut lo hi) h1 h2 h3 rfl
  exact ⟨this.1.symm, this.2.1.symm, this.2.2.symm⟩
/-- what is read is written as it was -/
theorem winOut_pw {l : List UInt8} (h : pwErr l (winSpec l) = 0) : winOut (pwLo l (winSpec l)) (pwHi l (winSpec l)) = l ∧ winErr (pwLo l (winSpec l)) (pwHi l (winSpec l)) = 0 := by
  cases ho : winSpec l with
  | none => rw [ho] at h; exact absurd (show (4 : Int) = 0 from h) (by decide)
  | some v =>
    obtain ⟨a, b⟩ := v
    rw [ho] at h
    cases h1 : rangedB a with
    | false => rw [← (pw_range (l := l) (a := a) (b := b) (by rw [h1]; rfl)).2.2] at h; exact absurd h (by decide)
    | true =>
      cases h2 : rangedB b with
      | false => rw [← (pw_range (l := l) (a := a) (b := b) (by rw [h1, h2]; rfl)).2.2] at h; exact absurd h (by decide)
      | true =>
        by_cases h3 : a ≤ b
        · by_cases h4 : winOut a b = l
          · have k := pw_ok h1 h2 h3 h4
            rw [← k.1, ← k.2.1]
            refine ⟨h4, if_neg ?_⟩
            unfold rangedB at h1 h2
            unfold winBad
            simp only [Bool.and_eq_true, decide_eq_true_eq] at h1 h2
            omega
          · rw [← (pw_form h1 h2 h3 h4).2.2] at h; exact absurd h (by decide)
        · rw [← (pw_order (l := l) h1 h2 (by omega)).2.2] at h; exact absurd h (by decide)
end Go.Proofs.YtinkdlmikhcpjaaGreatDoor
