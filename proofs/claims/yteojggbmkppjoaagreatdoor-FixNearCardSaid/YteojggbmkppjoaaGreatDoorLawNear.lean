/-
  The walks of the laws FixNear and FixNearest.
-/
import Derived.Test.YteojggbmkppjoaaGreatDoorMNear
import Derived.Test.YteojggbmkppjoaaGreatDoorMFixS
namespace Go.Proofs.YteojggbmkppjoaaGreatDoor
open Go.RowKit Go.Lib Go.Sort
set_option linter.unusedVariables false
set_option linter.unusedSimpArgs false
/-- a list of strings in memory -/
theorem own_strs {base : Nat} {w : World} {v : Value} {n : Nat} {l : List (List UInt8)} (h : w.ownsRow base 9 1 v n (strs l)) : ∃ A c, v = .slice A n c ∧ n ≤ c ∧ c ≤ maxLen ∧ (∀ k (hk : k < l.length), ∃ g o, A = some ⟨g, o, none⟩ ∧ g < w.heap.size ∧ w.cell? ⟨g, o + k, none⟩ = some (.string (sb l[k]))) ∧ l.length = n := by
  have hR : Rd w 1 v n (strs l) := Rd.of_own h
  have hl := hR.len
  unfold strs at hl
  rw [List.length_map, Nat.mul_one] at hl
  obtain ⟨A, c, rfl, hc, hm⟩ := hR.form
  refine ⟨A, c, rfl, hc, hm, fun k hk => ?_, hl⟩
  rcases Nat.eq_zero_or_pos n with h0 | h0
  · omega
  · obtain ⟨g, c', hv, _, _, hb, hlt, hcs⟩ := own_slice h h0
    simp only [Value.slice.injEq, true_and] at hv
    obtain ⟨rfl, rfl⟩ := hv
    refine ⟨g, 0, rfl, hlt, ?_⟩
    rw [Nat.zero_add]
    refine hcs k _ ?_
    unfold strs
    rw [List.getElem?_map, List.getElem?_eq_getElem hk]; rfl
theorem NearPost.same {la lo n : Int} {L : List FxS} {w w1 w' w1' : World} {e e1 : Ending} (h : NearPost la lo n L w e w1) (h' : NearPost la lo n L w' e1 w1') :
    ∃ v v' er, e = .returned (.tuple #[v, .int .i64 er]) ∧ e1 = .returned (.tuple #[v', .int .i64 er]) ∧ ∃ (m : Nat) (l : List (List UInt8)), w1.ownsRow w.heap.size 9 1 v m (strs l) ∧ w1'.ownsRow w'.heap.size 9 1 v' m (strs l) := by
  obtain ⟨v, er, he, _, h⟩ := h
  obtain ⟨v', er', he', _, h'⟩ := h'
  rcases h with ⟨rfl, rfl, h1⟩ | ⟨rfl, h1, h2, D, m, hs, hm, hr⟩
  · rcases h' with ⟨rfl, rfl, h1'⟩ | ⟨rfl, h1', h2', D', m', hs', hm', hr'⟩
    · exact ⟨_, _, _, he, he', 0, [], World.ownsRow_nil _ _ _ _, World.ownsRow_nil _ _ _ _⟩
    · exfalso
      rcases h1 with h1 | h1
      · omega
      · rw [h1] at h2'; cases h2'
  · rcases h' with ⟨rfl, rfl, h1'⟩ | ⟨rfl, h1', h2', D', m', hs', hm', hr'⟩
    · exfalso
      rcases h1' with h1' | h1'
      · omega
      · rw [h1'] at h2; cases h2
    · obtain rfl : D = D' := Stb.uniq swoP hs hs'
      obtain rfl : m = m' := by omega
      exact ⟨_, _, _, he, he', m, _, hr, hr'⟩
theorem NearPost.bel {la lo n : Int} {L : List FxS} {w w1 : World} {e : Ending} (h : NearPost la lo n L w e w1) : Below w.heap.size w w1 := by
  obtain ⟨v, er, he, hb, h⟩ := h
  exact hb
/-- a box of a position -/
def PosAt (w : World) (b : Nat) (la lo : Int) : Prop := b < w.heap.size ∧ w.cell? ⟨b, 0, none⟩ = some (.int .i64 la) ∧ w.cell? ⟨b, 1, none⟩ = some (.int .i64 lo)
theorem PosAt.below {w w' : World} {b : Nat} {la lo : Int} (h : PosAt w b la lo) (hb : Below w.heap.size w w') : PosAt w' b la lo :=
  ⟨Nat.lt_of_lt_of_le h.1 hb.size, (hb.cell (p := ⟨b, 0, none⟩) h.1).trans h.2.1, (hb.cell (p := ⟨b, 1, none⟩) h.1).trans h.2.2⟩
theorem posAt_new (w : World) (la lo : Int) : PosAt (w.alloc (.cells #[.int .i64 la, .int .i64 lo] 24)) w.heap.size la lo := by
  refine ⟨by simp, ?_, ?_⟩ <;> simp [go_sem]
/-- the first of the places: it is one of the fixes, and none is nearer -/
theorem near_first {la lo : Int} {L : List FxS} {w w1 : World} {e : Ending} (h : NearPost la lo 1 L w e w1) :
    (e = .returned (.tuple #[.slice none 0 0, .int .i64 1])) ∨ (∃ A c, e = .returned (.tuple #[.slice A 0 c, .int .i64 0]) ∧ L.length = 0 ∧ c ≤ maxLen) ∨
    ∃ v x, e = .returned (.tuple #[v, .int .i64 0]) ∧ 0 < L.length ∧ L.all (okP la lo) = true ∧ w1.ownsRow w.heap.size 9 1 v 1 (strs [x]) ∧
      ∃ (i : Nat) (hi : i < L.length), rfS L[i] = x ∧ ∀ (j : Nat) (hj : j < L.length), (plc la lo L[i]).1 ≤ (plc la lo L[j]).1 := by
  obtain ⟨v, er, rfl, _, ⟨rfl, rfl, _⟩ | ⟨rfl, _, hall, D, m, hs, hm, hr⟩⟩ := h
  · exact .inl rfl
  · rcases Nat.eq_zero_or_pos L.length with h0 | h0
    · have hm0 : m = 0 := by omega
      subst hm0
      obtain ⟨A, c, rfl, _, hc⟩ := (Rd.of_own hr).form
      exact .inr (.inl ⟨A, c, rfl, h0, hc⟩)
    · have hm1 : m = 1 := by omega
      subst hm1
      cases D with
      | nil => have := hs.len; rw [List.length_map] at this; simp at this; omega
      | cons x D' =>
        have hx : x ∈ L.map (plc la lo) := hs.sam.symm.mem swoP (by simp)
        obtain ⟨i, hi, hix⟩ := List.mem_iff_getElem.1 hx
        rw [List.length_map] at hi
        rw [List.getElem_map] at hix
        refine .inr (.inr ⟨v, x.2, rfl, h0, hall, by simpa using hr, i, hi, by rw [← hix, plc_snd], fun j hj => ?_⟩)
        have hy : plc la lo L[j] ∈ x :: D' := hs.sam.mem swoP (List.mem_map.2 ⟨_, List.getElem_mem hj, rfl⟩)
        have h1 := srt_first swoP hs.srt _ hy
        rw [ltP, decide_eq_false_iff_not] at h1
        rw [hix]
        by_cases h2 : (plc la lo L[j]).1 < x.1
        · exact absurd (.inl h2) h1
        · omega
set_option maxRecDepth 100000 in
set_option maxHeartbeats 4000000 in
theorem fixNear_walk (v : Value) (l0 : List Fx) (la lo n : Int) (w : World) (E : Env w) (h : FxsR w v l0) (hz : SzL l0) :
    Calls Tryz.prog 3 #[v, .agg #[.int .i64 la, .int .i64 lo], .int .i64 n] w fun e w' => e = .returned (.bool true) ∧ Below w.heap.size w w' := by
  obtain ⟨W0, hW0⟩ : ∃ W0, w.alloc (.cells #[.int .i64 la, .int .i64 lo] 24) = W0 := ⟨_, rfl⟩
  have HB0 : Hid (Below w.heap.size w W0) := by rw [← hW0]; exact (Below.refl _ _).alloc (Nat.le_refl _) _
  have HP0 : Hid (PosAt W0 w.heap.size la lo) := by rw [← hW0]; exact posAt_new w la lo
  have H0 : Hid (FxsR W0 v l0) := h.below HB0.out
  have E0 : Env W0 := E.below HB0.out
  clear h E
  go_enter Tryz.func3, Tryz.ntmps3
  go_wp2_with fail
  try rw [hW0]
  clear hW0
  refine (awakeF_any _ E0).mono ?_
  rintro e w1 ⟨rfl, hb1⟩
  have HB1 := Lib.hid (Below.then_ HB0.out hb1)
  have H1 := Lib.hid (H0.out.below hb1)
  have P1 := Lib.hid (HP0.out.below hb1)
  clear hb1 H0 HP0 E0 HB0
  go_wp2_with fail
  refine (few_any v l0 12 _ H1.out (by decide)).mono ?_
  rintro e w2 ⟨v2, rfl, hown, hb2⟩
  have HB2 := Lib.hid (Below.then_ HB1.out hb2)
  obtain ⟨l, hl⟩ : ∃ l, l0.take 12 = l := ⟨_, rfl⟩
  have HL : Hid (l.length ≤ 12) := by unfold Hid; rw [← hl, List.length_take]; omega
  have HZ : SzL l := by rw [← hl]; exact hz.take 12
  rw [hl] at hown
  have H2 : Hid (FxsR w2 v2 l) := Rd.of_own hown
  obtain ⟨L, hL⟩ := fxS_of HZ
  have HLL := Lib.hid hL
  have HLN : Hid (L.length ≤ 12) := by unfold Hid; have := HL.out; rw [← hL, List.length_map] at this; exact this
  obtain ⟨p0, p1, p2⟩ := P1.out.below hb2
  have P2 : Hid (PosAt w2 w.heap.size la lo) := P1.out.below hb2
  clear hown hb2 hl hz H1 HZ HL hL P1 HB1
  go_wp2_with fail
  refine (near_any v2 L la lo n _ (by rw [HLL.out]; exact H2.out) (by have := HLN.out; omega)).mono ?_
  intro e w3 hp3
  have HP3 := Lib.hid hp3
  have hb3 := hp3.bel
  obtain ⟨va, ea, rfl, _, _⟩ := hp3
  have HB3 := Lib.hid (Below.then_ HB2.out hb3)
  have H3 := Lib.hid (H2.out.below hb3)
  clear p0 p1 p2
  obtain ⟨p0, p1, p2⟩ := P2.out.below hb3
  clear hb3 HB2 H2 P2
  go_wp2_with fail
  refine (rnear_any v2 L la lo n _ (by rw [HLL.out]; exact H3.out) (by have := HLN.out; omega)).mono ?_
  intro e w4 hp4
  have hb4 := hp4.bel
  obtain ⟨x, x', er, h1, rfl, m, lr, o3, o4⟩ := NearPost.same HP3.out hp4
  simp only [Ending.returned.injEq, Value.tuple.injEq, Array.mk.injEq, List.cons.injEq, Value.int.injEq, and_true, true_and] at h1
  obtain ⟨rfl, rfl⟩ := h1
  obtain ⟨A, c, rfl, hc, hm, hat, hlr⟩ := own_strs (own_below o3 hb4)
  obtain ⟨A', c', rfl, hc', hm', hat', _⟩ := own_strs o4
  have HB4 := Lib.hid (Below.then_ HB3.out hb4)
  have HAT := Lib.hid hat
  have HAT' := Lib.hid hat'
  have HLR := Lib.hid hlr
  unfold maxLen at hm hm'
  clear hb4 hat hat' o3 o4 HP3 hp4 p0 p1 p2 HB3 H3 hlr
  go_wp2_with fail
  go_loopw [42] (fun i wr => ∃ k : Nat, k ≤ m ∧ i = .int .i64 k ∧ Drawn w4 wr) (fun i _ => m - (intOf i).toNat)
  case atStart => exact ⟨0, Nat.zero_le _, rfl, Drawn.refl _⟩
  case round =>
    obtain ⟨k, hk, rfl, q, rfl⟩ := hrel
    by_cases hlt : k < m
    · obtain ⟨g, o, rfl, hg, y1⟩ := HAT.out k (by rw [HLR.out]; exact hlt)
      obtain ⟨g', o', rfl, hg', y1'⟩ := HAT'.out k (by rw [HLR.out]; exact hlt)
      obtain ⟨t, ht⟩ : ∃ t, sb (lr[k]'(by rw [HLR.out]; exact hlt)) = t := ⟨_, rfl⟩
      rw [ht] at y1 y1'
      clear ht
      have hki : (k : Int) < (m : Int) := by omega
      go_wp2
      go_quiet (fail)
      go_wp2
      go_roundw
      case rel => exact ⟨k + 1, hlt, by go_num, _, rfl⟩
      case measure => simp [intOf]; omega
    · go_wp2
      go_ret
      exact ⟨rfl, HB4.out.trans (below_drewN' (Below.refl _ _) _)⟩
set_option maxRecDepth 100000 in
set_option maxHeartbeats 4000000 in
theorem fixNearest_walk (v : Value) (l0 : List Fx) (la lo : Int) (w : World) (E : Env w) (h : FxsR w v l0) (hz : SzL l0) :
    Calls Tryz.prog 4 #[v, .agg #[.int .i64 la, .int .i64 lo]] w fun e w' => e = .returned (.bool true) ∧ Below w.heap.size w w' := by
  obtain ⟨W0, hW0⟩ : ∃ W0, w.alloc (.cells #[.int .i64 la, .int .i64 lo] 24) = W0 := ⟨_, rfl⟩
  have HB0 : Hid (Below w.heap.size w W0) := by rw [← hW0]; exact (Below.refl _ _).alloc (Nat.le_refl _) _
  have HP0 : Hid (PosAt W0 w.heap.size la lo) := by rw [← hW0]; exact posAt_new w la lo
  have H0 : Hid (FxsR W0 v l0) := h.below HB0.out
  have E0 : Env W0 := E.below HB0.out
  clear h E
  go_enter Tryz.func4, Tryz.ntmps4
  go_wp2_with fail
  try rw [hW0]
  clear hW0
  refine (awakeF_any _ E0).mono ?_
  rintro e w1 ⟨rfl, hb1⟩
  have HB1 := Lib.hid (Below.then_ HB0.out hb1)
  have H1 := Lib.hid (H0.out.below hb1)
  have P1 := Lib.hid (HP0.out.below hb1)
  clear hb1 H0 HP0 E0 HB0
  go_wp2_with fail
  refine (few_any v l0 12 _ H1.out (by decide)).mono ?_
  rintro e w2 ⟨v2, rfl, hown, hb2⟩
  have HB2 := Lib.hid (Below.then_ HB1.out hb2)
  obtain ⟨l, hl⟩ : ∃ l, l0.take 12 = l := ⟨_, rfl⟩
  have HL : Hid (l.length ≤ 12) := by unfold Hid; rw [← hl, List.length_take]; omega
  have HZ : SzL l := by rw [← hl]; exact hz.take 12
  rw [hl] at hown
  have H2 : Hid (FxsR w2 v2 l) := Rd.of_own hown
  obtain ⟨L, hL⟩ := fxS_of HZ
  have HLL := Lib.hid hL
  have HLM : Hid ((L.map (·.1)).length = L.length) := List.length_map _
  have HLN : Hid (L.length ≤ 12) := by unfold Hid; have := HL.out; rw [← hL, List.length_map] at this; exact this
  obtain ⟨p0, p1, p2⟩ := P1.out.below hb2
  have P2 : Hid (PosAt w2 w.heap.size la lo) := P1.out.below hb2
  clear hown hb2 hl hz H1 HZ HL hL P1 HB1
  rw [← HLL.out] at H2
  clear HLL
  go_wp2_with fail
  refine (near_any v2 L la lo 1 _ H2.out (by have := HLN.out; omega)).mono ?_
  intro e w3 hp3
  have HB3 := Lib.hid (Below.then_ HB2.out hp3.bel)
  have H3 := Lib.hid (H2.out.below hp3.bel)
  have P3 : Hid (PosAt w3 w.heap.size la lo) := P2.out.below hp3.bel
  obtain ⟨A, c, rfl, hc, hm⟩ := H2.out.form
  obtain ⟨N, hNN⟩ : ∃ N, L.length = N := ⟨_, rfl⟩
  have HN := Lib.hid hNN
  have hN : N ≤ 12 := by rw [← hNN]; exact HLN.out
  clear p0 p1 p2 HB2 H2 P2 HLN
  rcases near_first hp3 with rfl | ⟨A', c', rfl, h0, hc'⟩ | ⟨va, x, rfl, h0, hall, hown, i, hi, hix, hnear⟩
  · clear hp3 hNN
    go_wp2
    go_ret
    exact ⟨rfl, HB3.out⟩
  · rw [HLM.out, h0] at hc ⊢
    unfold maxLen at hc'
    clear hp3 hNN
    go_wp2
    go_ret
    exact ⟨rfl, HB3.out⟩
  · rw [HLM.out, hNN] at hc H3 ⊢
    rw [hNN] at h0 hi
    obtain ⟨Aa, ca, rfl, hca, hma, hata, _⟩ := own_strs hown
    obtain ⟨ga, oa, rfl, hga, ya⟩ := hata 0 (by simp)
    rw [Nat.add_zero] at ya
    have hva : ∀ f ∈ L, vldB la lo = true ∧ vldB f.1.lat f.1.lon = true := fun f hf => by
      have := List.all_eq_true.1 hall f hf
      unfold okP at this
      rw [Bool.and_eq_true] at this
      exact this
    have HVA := Lib.hid hva
    have HIX := Lib.hid hix
    have HNE := Lib.hid hnear
    change w3.cell? ⟨ga, oa, none⟩ = some (.string (sb x)) at ya
    have HYA := Lib.hid ya
    unfold maxLen at hma
    have h0N : ((N : Int) == 0) = false := beq_eq_false_iff_ne.2 (by omega)
    clear hp3 hNN hown hata hall hva hix hnear ya
    go_wp2_with fail
    go_loopg [7, 42] (N + 1) (fun g1 vh vi wr => ∃ (k : Nat) (hb : Bool), vi = .int .i64 k ∧ k ≤ N ∧ N - k ≤ g1 ∧ vh = .bool hb ∧ Hid (i < k → hb = true) ∧ Hid (Below w3.heap.size w3 wr))
    case atStart => exact ⟨0, false, by first | rfl | go_num, Nat.zero_le _, by omega, rfl, Lib.hid (fun h => absurd h (by omega)), Lib.hid (Below.refl _ _)⟩
    case round =>
      obtain ⟨k, hb, rfl, hk, hg1, rfl, HHB, hbw⟩ := hrel
      by_cases hlt : k < N
      · have hkl : k < L.length := by rw [HN.out]; exact hlt
        obtain ⟨g, o, c', hA, hg, hat⟩ := H3.out.at_ (k := k) (by rw [List.length_map]; exact hkl)
        rw [HLM.out, HN.out] at hA
        simp only [Value.slice.injEq, true_and] at hA
        obtain ⟨rfl, rfl⟩ := hA
        rw [List.getElem_map] at hat
        obtain ⟨f, hf⟩ : ∃ f, L[k] = f := ⟨_, rfl⟩
        rw [hf] at hat
        have HV := Lib.hid (HVA.out f (by rw [← hf]; exact List.getElem_mem hkl))
        have rf := fun W => fixRefG_any f W
        obtain ⟨rr, hrr⟩ : ∃ r, rfS f = r := ⟨_, rfl⟩
        obtain ⟨d0, hd0⟩ : ∃ d, (plc la lo f).1 = d := ⟨_, rfl⟩
        have HI1 : Hid (k = i → rr = x) := fun e => by subst e; rw [← hrr, ← hf]; exact HIX.out
        have HI2 : Hid (k = i → ∀ (j : Nat) (hj : j < L.length), d0 ≤ (plc la lo L[j]).1) := fun e j hj => by subst e; rw [← hd0, ← hf]; exact HNE.out j hj
        rw [hrr] at rf
        rw [plc_fst] at hd0
        clear hrr hf
        obtain ⟨f, hfs⟩ := f
        have di := fun W => sdist_ok la lo f.lat f.lon W HV.out.1 HV.out.2
        simp only at hat hd0
        rw [hd0] at di
        change ∀ W, Calls Tryz.prog 9 #[.agg #[.string (sb f.id), .string (sb f.rg), .int .u8 (f.kd : Int), .int .i64 f.lat, .int .i64 f.lon, .int .i64 f.el, .int .i64 f.ra]] W _ at rf
        obtain ⟨c0, c1, c2, c3, c4, c5, c6⟩ := hat.below hg hbw.out hg
        obtain ⟨q0, q1, q2⟩ := P3.out.below hbw.out
        have qa : wr.cell? ⟨ga, oa, none⟩ = some (.string (sb x)) := (hbw.out.cell (p := ⟨ga, oa, none⟩) hga).trans HYA.out
        have hgw : g < wr.heap.size := Nat.lt_of_lt_of_le hg hbw.out.size
        have hgaw : ga < wr.heap.size := Nat.lt_of_lt_of_le hga hbw.out.size
        have X1 : FxBox (wr.alloc (.cells #[.string (sb f.id), .string (sb f.rg), .int .u8 (f.kd : Int), .int .i64 f.lat, .int .i64 f.lon, .int .i64 f.el, .int .i64 f.ra] 34)) wr.heap.size f := heap_alloc_new wr _
        have HX1 := Lib.hid X1
        have HBX := Lib.hid (fun o => hbw.out.alloc hbw.out.size o)
        have hse := str_eqB (t := sb rr) (r := sb x)
        rw [bl_sb, bl_sb] at hse
        have hsx : wr.heap.size < (wr.alloc (.cells #[.string (sb f.id), .string (sb f.rg), .int .u8 (f.kd : Int), .int .i64 f.lat, .int .i64 f.lon, .int .i64 f.el, .int .i64 f.ra] 34)).heap.size := by simp
        have qa2 : (wr.alloc (.cells #[.string (sb f.id), .string (sb f.rg), .int .u8 (f.kd : Int), .int .i64 f.lat, .int .i64 f.lon, .int .i64 f.el, .int .i64 f.ra] 34)).cell? ⟨ga, oa, none⟩ = some (.string (sb x)) := (((RowKit.Below.refl _ wr).alloc (Nat.le_refl _) _).cell (p := ⟨ga, oa, none⟩) hgaw).trans qa
        have qag := fun n os => cell_grown (w := wr.alloc (.cells #[.string (sb f.id), .string (sb f.rg), .int .u8 (f.kd : Int), .int .i64 f.lat, .int .i64 f.lon, .int .i64 f.el, .int .i64 f.ra] 34)) (Nat.lt_trans hgaw hsx) qa2 n os
        have b0 := fun n os => (fxBox_cells X1 hsx n os).cells.c0
        have b1 := fun n os => (fxBox_cells X1 hsx n os).cells.c1
        have b2 := fun n os => (fxBox_cells X1 hsx n os).cells.c2
        have b3 := fun n os => (fxBox_cells X1 hsx n os).cells.c3
        have b4 := fun n os => (fxBox_cells X1 hsx n os).cells.c4
        have b5 := fun n os => (fxBox_cells X1 hsx n os).cells.c5
        have b6 := fun n os => (fxBox_cells X1 hsx n os).cells.c6
        clear hat X1 hd0 qa2 hsx
        by_cases hrx : rr = x
        · have hd : decide (rr = x) = true := decide_eq_true hrx
          rw [hd] at hse
          clear hd
          go_wp2_with fail
          have mixed := mixedS
          go_quiet_grown (first | (go_at_call 9; first | refine Calls.grown_of (rf _)))
          clear mixed
          have HX2 : Hid (FxBox (grow ((wr.alloc (.cells #[.string (sb f.id), .string (sb f.rg), .int .u8 (f.kd : Int), .int .i64 f.lat, .int .i64 f.lon, .int .i64 f.el, .int .i64 f.ra] 34)).drewN nq) osq) wr.heap.size f) := fxBox_cells HX1.out (by simp) nq osq
          have HB4 : Hid (Below w3.heap.size w3 (grow ((wr.alloc (.cells #[.string (sb f.id), .string (sb f.rg), .int .u8 (f.kd : Int), .int .i64 f.lat, .int .i64 f.lon, .int .i64 f.el, .int .i64 f.ra] 34)).drewN nq) osq)) := Below.then_ (HBX.out _) (below_grow _ nq osq)
          generalize grow ((wr.alloc (.cells #[.string (sb f.id), .string (sb f.rg), .int .u8 (f.kd : Int), .int .i64 f.lat, .int .i64 f.lon, .int .i64 f.el, .int .i64 f.ra] 34)).drewN nq) osq = wq at HB4 HX2 ⊢
          clear c0 c1 c2 c3 c4 c5 c6 b0 b1 b2 b3 b4 b5 b6 qag q0 q1 q2 qa hbw HBX HX1
          obtain ⟨c0, c1, c2, c3, c4, c5, c6⟩ := HX2.out.cells
          obtain ⟨q0, q1, q2⟩ := P3.out.below HB4.out
          have hlx := lt_heap HX2.out
          go_wp2_with fail
          refine (di _).mono ?_
          rintro e w5 ⟨rfl, hb5⟩
          have HB5 := Lib.hid (Below.then_ HB4.out hb5)
          have HR := Lib.hid hrx
          clear c0 c1 c2 c3 c4 c5 c6 q0 q1 q2 hlx hb5 HX2 HB4 di rf hse hrx hgw hgaw
          go_wp2_with fail
          go_loopg [12, 63] (N + 1) (fun g2 vl vj wx => ∃ (j : Nat) (lb : Bool), vj = .int .i64 j ∧ j ≤ N ∧ N - j ≤ g2 ∧ vl = .bool lb ∧ Hid (k = i → lb = true) ∧ Hid (Below w3.heap.size w3 wx))
          case atStart => exact ⟨0, true, by first | rfl | go_num, Nat.zero_le _, by omega, by first | rfl | go_num, Lib.hid (fun _ => rfl), HB5⟩
          case round =>
            obtain ⟨j, lb, rfl, hj, hg2, rfl, HLB, hbx⟩ := hrel
            by_cases hlj : j < N
            · have hjl : j < L.length := by rw [HN.out]; exact hlj
              obtain ⟨g', o', c'', hA, hg', hat⟩ := H3.out.at_ (k := j) (by rw [List.length_map]; exact hjl)
              rw [HLM.out, HN.out] at hA
              simp only [Value.slice.injEq, Option.some.injEq, Addr.mk.injEq, and_true, true_and] at hA
              obtain ⟨⟨rfl, rfl⟩, rfl⟩ := hA
              rw [List.getElem_map] at hat
              obtain ⟨z, hz⟩ : ∃ z, L[j] = z := ⟨_, rfl⟩
              rw [hz] at hat
              have HV2 := Lib.hid (HVA.out z (by rw [← hz]; exact List.getElem_mem hjl))
              obtain ⟨d1, hd1⟩ : ∃ d, (plc la lo z).1 = d := ⟨_, rfl⟩
              have HI3 : Hid (k = i → d0 ≤ d1) := fun e => by rw [← hd1, ← hz]; exact HI2.out e j hjl
              rw [plc_fst] at hd1
              clear hz
              obtain ⟨z, hzs⟩ := z
              have di := fun W => sdist_ok la lo z.lat z.lon W HV2.out.1 HV2.out.2
              simp only at hat hd1
              rw [hd1] at di
              obtain ⟨c0, c1, c2, c3, c4, c5, c6⟩ := hat.below hg' hbx.out hg'
              obtain ⟨q0, q1, q2⟩ := P3.out.below hbx.out
              have hgx : g < wr.heap.size := Nat.lt_of_lt_of_le hg' hbx.out.size
              have HBX := Lib.hid (fun o => hbx.out.alloc hbx.out.size o)
              clear hat hd1 hbx
              go_wp2_with fail
              refine (di _).mono ?_
              rintro e w6 ⟨rfl, hb6⟩
              have HB6 := Lib.hid (Below.then_ (HBX.out _) hb6)
              clear c0 c1 c2 c3 c4 c5 c6 q0 q1 q2 hb6 HBX di hgx
              cases lb
              · have HF : Hid (k = i → false = true) := HLB.out
                go_wp2
                go_roundg (N - (j + 1))
                case measure => omega
                case rel => exact ⟨j + 1, false, by go_num, hlj, by omega, rfl, HF, HB6⟩
              · by_cases hdd : d0 ≤ d1
                · have hdd2 : decide (d0 ≤ d1) = true := decide_eq_true hdd
                  go_wp2
                  go_roundg (N - (j + 1))
                  case measure => omega
                  case rel => exact ⟨j + 1, true, by go_num, hlj, by omega, rfl, Lib.hid (fun _ => rfl), HB6⟩
                · have HF : Hid (k = i → false = true) := fun e => absurd (HI3.out e) hdd
                  have hdd2 : decide (d0 ≤ d1) = false := decide_eq_false hdd
                  go_wp2
                  go_roundg (N - (j + 1))
                  case measure => omega
                  case rel => exact ⟨j + 1, false, by go_num, hlj, by omega, rfl, HF, HB6⟩
            · have HF : Hid (i < k + 1 → (hb || lb) = true) := fun h => by
                by_cases e : k = i
                · rw [HLB.out e, Bool.or_true]
                · rw [HHB.out (by omega), Bool.true_or]
              cases hb
              · rw [Bool.false_or] at HF
                go_wp2
                go_roundg (N - (k + 1))
                case measure => omega
                case rel => exact ⟨k + 1, lb, by go_num, hlt, by omega, rfl, HF, hbx⟩
              · go_wp2
                go_roundg (N - (k + 1))
                case measure => omega
                case rel => exact ⟨k + 1, true, by go_num, hlt, by omega, rfl, Lib.hid (fun _ => rfl), hbx⟩
        · have hd : decide (rr = x) = false := decide_eq_false hrx
          rw [hd] at hse
          have HF : Hid (i < k + 1 → hb = true) := fun h => by
            by_cases e : k = i
            · exact absurd (HI1.out e) hrx
            · exact HHB.out (by omega)
          clear hd
          go_wp2_with fail
          have mixed := mixedS
          go_quiet_grown (first | (go_at_call 9; first | refine Calls.grown_of (rf _)))
          clear mixed
          have HB4 : Hid (Below w3.heap.size w3 (grow ((wr.alloc (.cells #[.string (sb f.id), .string (sb f.rg), .int .u8 (f.kd : Int), .int .i64 f.lat, .int .i64 f.lon, .int .i64 f.el, .int .i64 f.ra] 34)).drewN nq) osq)) := Below.then_ (HBX.out _) (below_grow _ nq osq)
          generalize grow ((wr.alloc (.cells #[.string (sb f.id), .string (sb f.rg), .int .u8 (f.kd : Int), .int .i64 f.lat, .int .i64 f.lon, .int .i64 f.el, .int .i64 f.ra] 34)).drewN nq) osq = wq at HB4 ⊢
          clear c0 c1 c2 c3 c4 c5 c6 b0 b1 b2 b3 b4 b5 b6 qag q0 q1 q2 qa hbw HBX HX1
          go_wp2
          go_roundg (N - (k + 1))
          case measure => omega
          case rel => exact ⟨k + 1, hb, by go_num, hlt, by omega, rfl, HF, HB4⟩
      · have hkN : k = N := by omega
        obtain rfl : hb = true := HHB.out (by omega)
        have HE : Hid (Below w.heap.size w wr) := Below.then_ HB3.out hbw.out
        clear hbw
        go_wp2
        go_ret
        exact ⟨rfl, HE.out⟩
end Go.Proofs.YteojggbmkppjoaaGreatDoor
