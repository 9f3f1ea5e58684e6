/-
  Several texts as one.
  Contract: slices.insertionSortCmpFunc at structs: a run of a row is sorted, equal elements stay in order.
  Contract: slices.symMergeCmpFunc at structs: two sorted runs side by side become their stable merge.
-/
import Derived.Test.YtakgcdefbbgdaaaGreatDoorMG23
namespace Go.Proofs.YtakgcdefbbgdaaaGreatDoor
open Go.RowKit Go.Lib Go.Sort
set_option linter.unusedVariables false
set_option linter.unusedSimpArgs false
section
variable {α : Type}
theorem ltOf_true {cf : α → α → Int} {x y : α} (h : cf x y < 0) : ltOf cf x y = true := decide_eq_true h
theorem ltOf_false {cf : α → α → Int} {x y : α} (h : ¬ cf x y < 0) : ltOf cf x y = false := decide_eq_false h
variable {lt : α → α → Bool}
theorem ins_start {A P B : List α} : ∃ P1 P2 Pd, P = P1 ++ P2 ∧ Stb lt P1 Pd ∧ P1.length = min 1 P.length ∧ (A ++ P ++ B).toArray = (A ++ Pd ++ P2 ++ B).toArray := by
  cases P with
  | nil => exact ⟨[], [], [], rfl, Stb.nil lt, rfl, by simp⟩
  | cons x r => exact ⟨[x], r, [x], rfl, Stb.one lt x, by simp, by simp⟩
theorem ins_out (hs : Swo lt) {P P1 P2 Pd Q1 Q2 : List α} {x : α} (hP : P = P1 ++ x :: P2) (hst : Stb lt P1 Pd) (hq : Pd = Q1 ++ Q2) (h2 : ∀ q ∈ Q2, lt x q = true) (h1 : Q1 = [] ∨ ∃ Q z, Q1 = Q ++ [z] ∧ lt x z = false) :
    P = (P1 ++ [x]) ++ P2 ∧ Stb lt (P1 ++ [x]) (Q1 ++ x :: Q2) := by
  subst hq
  exact ⟨by rw [hP]; simp, hst.mrg (Stb.one lt x) (ins_mrg hs hst.srt h2 h1)⟩
end
section
variable {α : Type} [Inhabited α]
set_option maxRecDepth 100000 in
set_option maxHeartbeats 4000000 in
theorem insertion_fx (k : Nat) (aE : ∀ w, (isAgg 67).run Tryz.prog w = .ok true w) (zE : ∀ w, (Go.sizeOf 67).run Tryz.prog w = .ok k w) (enc : α → List Value) (cf : α → α → Int) (hsw : Swo (ltOf cf)) (g : Nat) (cb : Array Value) (eg : ∀ args w, (callFunc g args).run Tryz.prog w = .ok (.enter g args) w)
    (blk off cap a b N : Nat) (A P B : List α) (d0 : Array α) (w0 w : World) (R : RowK enc k w0 blk off d0) (hN : d0.size = N) (hC : CmpLays Tryz.prog g cb enc k cf blk off N w0) (hs : (A ++ P ++ B).length = N) (S : SWK enc k w0 blk off (A ++ P ++ B).toArray w)
    (ha : a = A.length) (hb : b = A.length + P.length) (hsz : N < 4611686018427387904) :
    Calls Tryz.prog 176 #[.slice (some ⟨blk, off, none⟩) N cap, .int .i64 a, .int .i64 b, .func (.func g) #[] cb] w
      fun e w' => e = .returned (.tuple #[]) ∧ ∃ P', Stb (ltOf cf) P P' ∧ SWK enc k w0 blk off (A ++ P' ++ B).toArray w' := by
  have mixed := mixedS
  have S0 : Aside (SWK enc k w0 blk off (A ++ P ++ B).toArray w) := S
  have hlen : N = A.length + P.length + B.length := by rw [← hs]; simp only [List.length_append]
  have hbN : b ≤ N := by omega
  have hab : a ≤ b := by omega
  have HA : Hid (A.length = a ∧ a + P.length = b) := ⟨ha.symm, by omega⟩
  have HS := Lib.hid hs
  have HSW := Lib.hid hsw
  have HC : Aside _ := hC
  have HE : Hid (∀ w', (∃ P', Stb (ltOf cf) P P' ∧ SWK enc k w0 blk off (A ++ P' ++ B).toArray w') → (fun (e : Ending) (w' : World) => e = .returned (.tuple #[]) ∧ ∃ P', Stb (ltOf cf) P P' ∧ SWK enc k w0 blk off (A ++ P' ++ B).toArray w') (.returned (.tuple #[])) w') := fun w' h => ⟨rfl, h⟩
  clear S ha hb hs hlen hC hsw
  generalize hQ : (fun (e : Ending) (w' : World) => e = .returned (.tuple #[]) ∧ ∃ P', Stb (ltOf cf) P P' ∧ SWK enc k w0 blk off (A ++ P' ++ B).toArray w') = Q at HE ⊢
  clear hQ
  go_enter Tryz.func176, Tryz.ntmps176
  go_wp2
  go_loopg [8] (b - a) (fun g1 vi wr => ∃ (i : Nat) (dk : Array α), vi = .int .i64 i ∧ a < i ∧ i ≤ b + 1 ∧ b + 1 - i ≤ g1 + 1 ∧ dk.size = N ∧ Aside (SWK enc k w0 blk off dk wr) ∧
    Hid (∃ P1 P2 Pd, P = P1 ++ P2 ∧ Stb (ltOf cf) P1 Pd ∧ P1.length = min (i - a) P.length ∧ dk = (A ++ Pd ++ P2 ++ B).toArray))
  case atStart =>
    obtain ⟨P1, P2, Pd, h1, h2, h3, h4⟩ := ins_start (lt := ltOf cf) (A := A) (P := P) (B := B)
    exact ⟨a + 1, _, by go_num, by omega, by omega, by omega, by rw [List.size_toArray]; exact HS.out, S0, ⟨P1, P2, Pd, h1, h2, by rw [h3]; congr 1; omega, h4⟩⟩
  case round =>
    clear S0
    obtain ⟨i, dk, rfl, hai, hib, hg1, hdk, S1, HI⟩ := hrel
    by_cases hlt : i < b
    · have hltz : (i : Int) < (b : Int) := by omega
      obtain ⟨P1, P2, Pd, hP, hst, hl1, hdk2⟩ := HI.out
      obtain ⟨x, P3, hP2⟩ : ∃ x P3, P2 = x :: P3 := by
        cases P2 with
        | nil => exfalso; have := HA.out.2; rw [hP, List.append_nil] at this hl1; omega
        | cons x r => exact ⟨x, r, rfl⟩
      subst hP2
      have hPdl : P1.length = i - a := by have := HA.out.2; omega
      have HP : Hid (P = P1 ++ x :: P3 ∧ Stb (ltOf cf) P1 Pd ∧ P1.length = i - a ∧ dk = (A ++ Pd ++ x :: P3 ++ B).toArray) := ⟨hP, hst, hPdl, by rw [hdk2]⟩
      clear hP hst hl1 hdk2 HI hPdl
      go_wp2
      go_loopg [9] i (fun g2 vj wr2 => ∃ (j : Nat) (dj : Array α) (Q1 Q2 : List α), vj = .int .i64 j ∧ a ≤ j ∧ j ≤ i ∧ j ≤ g2 ∧ dj.size = N ∧ Aside (SWK enc k w0 blk off dj wr2) ∧
        Hid (Pd = Q1 ++ Q2 ∧ Q1.length = j - a ∧ dj = (A ++ Q1 ++ x :: (Q2 ++ (P3 ++ B))).toArray ∧ ∀ q ∈ Q2, ltOf cf x q = true))
      case atStart =>
        refine ⟨i, dk, Pd, [], rfl, by omega, Nat.le_refl _, Nat.le_refl _, hdk, S1, ⟨by simp, ?_, ?_, by simp⟩⟩
        · rw [HP.out.2.1.len]; exact HP.out.2.2.1
        · rw [HP.out.2.2.2]; simp
      case round =>
        clear S1
        obtain ⟨j, dj, Q1, Q2, rfl, haj, hji, hg2, hdj, S2, HJ⟩ := hrel
        have hout : Hid ((Q1 = [] ∨ ∃ Q z, Q1 = Q ++ [z] ∧ ltOf cf x z = false) → ∃ P1 P2 Pd, P = P1 ++ P2 ∧ Stb (ltOf cf) P1 Pd ∧ P1.length = min (i + 1 - a) P.length ∧ dj = (A ++ Pd ++ P2 ++ B).toArray) := by
          intro h
          obtain ⟨e1, e2, e3, e4⟩ := HJ.out
          obtain ⟨f1, f2, f3, f4⟩ := HP.out
          obtain ⟨k1, k2⟩ := ins_out HSW.out f1 f2 e1 e4 h
          refine ⟨_, _, _, k1, k2, ?_, by rw [e3]; simp⟩
          have := HA.out.2
          rw [List.length_append, f3, List.length_singleton]
          omega
        by_cases hja : a < j
        · have hjaz : (a : Int) < (j : Int) := by omega
          obtain ⟨jp, rfl⟩ : ∃ jp, j = jp + 1 := ⟨j - 1, by omega⟩
          obtain ⟨Q, z, hQz⟩ : ∃ Q z, Q1 = Q ++ [z] := by
            have h1 : Q1 ≠ [] := by intro e; have := HJ.out.2.1; rw [e] at this; simp at this; omega
            exact ⟨Q1.dropLast, Q1.getLast h1, (List.dropLast_concat_getLast h1).symm⟩
          subst hQz
          have hx : dj[jp + 1]! = x := by
            rw [HJ.out.2.2.1]; exact get_mid (by have h1 := HJ.out.2.1; have h2 := HA.out.1; rw [List.length_append]; omega)
          have hz : dj[jp]! = z := by
            have := get_mid (A := A ++ Q) (x := z) (B := x :: (Q2 ++ (P3 ++ B))) (i := jp) (by have h1 := HJ.out.2.1; have h2 := HA.out.1; rw [List.length_append, List.length_singleton] at h1; rw [List.length_append]; omega)
            have e : A ++ (Q ++ [z]) ++ x :: (Q2 ++ (P3 ++ B)) = A ++ Q ++ z :: (x :: (Q2 ++ (P3 ++ B))) := by simp
            rw [HJ.out.2.2.1, e]; exact this
          have hsp : Hid (swp dj (jp + 1) jp = (A ++ Q ++ x :: (z :: Q2 ++ (P3 ++ B))).toArray) := by
            have := swp_mid' (A := A ++ Q) (M := []) (x := z) (y := x) (B := Q2 ++ (P3 ++ B)) (i := jp + 1) (j := jp) (by have h1 := HJ.out.2.1; have h2 := HA.out.1; rw [List.length_append, List.length_singleton] at h1; rw [List.length_append]; simp; omega) (by have h1 := HJ.out.2.1; have h2 := HA.out.1; rw [List.length_append, List.length_singleton] at h1; rw [List.length_append]; omega)
            unfold Hid
            rw [HJ.out.2.2.1]
            simpa using this
          have hwp : IntKind.i64.wrap (jp : Int) = (jp : Int) := by rw [IntKind.wrap_i64]; omega
          have jz : (jp : Int) + 1 < (N : Int) := by omega
          have jz1 : (jp : Int) < (N : Int) := by omega
          have hjaz' : (a : Int) < (jp : Int) + 1 := by omega
          have p0 : (0 : Int) ≤ (jp : Int) + 1 := by omega
          have e0 : ((jp : Int) + 1).toNat = jp + 1 := by omega
          have lj := S2.out.ld R (by omega) Tryz.prog (jp + 1) (by omega)
          have lp := S2.out.ld R (by omega) Tryz.prog jp (by omega)
          have hcg := S2.out.cmp HC.out hdj x z
          have hjN : jp + 1 < dj.size := by omega
          rw [hx] at lj
          rw [hz] at lp
          have HX : Hid (dj[jp + 1]! = x ∧ dj[jp]! = z) := ⟨hx, hz⟩
          clear hx hz
          by_cases hlv : cf x z < 0
          · go_wp2_with fail
            go_quiet_grown (first | (go_at_fn g; refine Calls.grown_of (hcg _ _)))
            go_wp2_with fail
            have S3 : Aside (SWK enc k w0 blk off dj (grow (wr.drewN nq) osq)) := S2.out.grown nq osq
            clear lj lp hcg S2
            generalize grow (wr.drewN nq) osq = wq at S3 ⊢
            have S4 : Aside (SWK enc k w0 blk off (swp dj (jp + 1) jp) ((wq.drew.setCells blk (off + (jp + 1) * k) (enc dj[jp]!)).setCells blk (off + jp * k) (enc dj[jp + 1]!))) := S3.out.swapped R (jp + 1) jp (by omega) (by omega)
            have l1 := S3.out.ld1 R (by omega) Tryz.prog (jp + 1) (by omega)
            have l2 := S3.out.ld1 R (by omega) Tryz.prog jp (by omega)
            have s1 := S3.out.st1 R (by omega) Tryz.prog (jp + 1) (by omega) dj[jp]!
            have s2 := S3.out.st2 R (by omega) Tryz.prog (jp + 1) jp (by omega) (by omega) dj[jp]! dj[jp + 1]!
            have n1 : (enc dj[jp + 1]!).length = k := R.hk _
            have n2 : (enc dj[jp]!).length = k := R.hk _
            generalize enc dj[jp + 1]! = cI at S4 l1 s2 n1
            generalize enc dj[jp]! = cJ at S4 l2 s1 s2 n2
            clear S3
            go_big_region_o
            clear l1 l2 s1 s2
            generalize (wq.drew.setCells blk (off + (jp + 1) * k) cJ).setCells blk (off + jp * k) cI = w2 at S4 ⊢
            go_wp2
            go_roundg jp
            case measure => omega
            case rel =>
              obtain ⟨e1, e2, e3, e4⟩ := HJ.out
              refine ⟨jp, _, Q, z :: Q2, by first | rfl | go_num, by omega, by omega, Nat.le_refl _, by rw [size_swp]; exact hdj, S4, ⟨by rw [e1]; simp, ?_, hsp.out, ?_⟩⟩
              · rw [List.length_append, List.length_singleton] at e2; omega
              · intro q hq
                rcases List.mem_cons.1 hq with rfl | hq
                · exact ltOf_true hlv
                · exact e4 q hq
          · go_wp2_with fail
            go_quiet_grown (first | (go_at_fn g; refine Calls.grown_of (hcg _ _)))
            have S3 : Aside (SWK enc k w0 blk off dj (grow (wr.drewN nq) osq)) := S2.out.grown nq osq
            clear lj lp hcg S2
            generalize grow (wr.drewN nq) osq = wq at S3 ⊢
            go_wp2
            go_roundg (b - (i + 1))
            case measure => omega
            case rel => exact ⟨i + 1, dj, by go_num, by omega, by omega, by omega, hdj, S3, hout.out (.inr ⟨Q, z, rfl, ltOf_false (by omega)⟩)⟩
        · have hjaz : decide ((j : Int) > (a : Int)) = false := decide_eq_false (by omega)
          have hjaz' : ¬ (a : Int) < (j : Int) := by omega
          have S3 : Aside (SWK enc k w0 blk off dj wr.drew) := S2.out.drew
          have HQ1 : Hid (Q1 = []) := List.eq_nil_of_length_eq_zero (by have := HJ.out.2.1; omega)
          clear S2
          go_wp2_with fail
          go_big_region_o
          all_goals generalize wr.drew = wq at S3 ⊢
          all_goals go_wp2
          go_roundg (b - (i + 1))
          case measure => omega
          case rel => exact ⟨i + 1, dj, by go_num, by omega, by omega, by omega, hdj, S3, hout.out (.inl HQ1.out)⟩
    · have hltz : ¬ (i : Int) < (b : Int) := by omega
      have HF : Hid (∃ P', Stb (ltOf cf) P P' ∧ dk = (A ++ P' ++ B).toArray) := by
        obtain ⟨P1, P2, Pd, hP, hst, hl1, hdk2⟩ := HI.out
        have h0 : P2 = [] := List.eq_nil_of_length_eq_zero (by have h1 := HA.out.2; rw [hP, List.length_append] at h1 hl1; omega)
        subst h0
        rw [List.append_nil] at hP hdk2
        exact ⟨Pd, by rw [hP]; exact hst, hdk2⟩
      go_wp2
      go_end0
      obtain ⟨P', h1, h2⟩ := HF.out
      exact HE.out _ ⟨P', h1, by rw [← h2]; exact S1.out⟩
end
end Go.Proofs.YtakgcdefbbgdaaaGreatDoor
namespace Go.Proofs.YtakgcdefbbgdaaaGreatDoor
open Go.RowKit Go.Lib Go.Sort
set_option linter.unusedVariables false
set_option linter.unusedSimpArgs false
section
variable {α : Type} {lt : α → α → Bool}
/-- elements of a sorted list -/
theorem srt_at {l : List α} (h : Srt lt l) {i j : Nat} (hi : i < j) (hj : j < l.length) : lt l[j] (l[i]'(by omega)) = false := List.pairwise_iff_getElem.1 h i j (by omega) hj hi
theorem srt_at' (hs : Swo lt) {l : List α} (h : Srt lt l) {i j : Nat} (hi : i ≤ j) (hj : j < l.length) : lt l[j] (l[i]'(by omega)) = false := by
  rcases Nat.lt_or_ge i j with h1 | h1
  · exact srt_at h h1 hj
  · have : i = j := by omega
    subst this
    exact hs.irrefl _
/-- how far the elements are less than x -/
structure Lo (lt : α → α → Bool) (Q : List α) (x : α) (i j : Nat) : Prop where
  lo : ∀ t (h : t < Q.length), t < i → lt Q[t] x = true
  hi : ∀ t (h : t < Q.length), j ≤ t → lt Q[t] x = false
theorem Lo.up (hs : Swo lt) {Q : List α} (hQ : Srt lt Q) {x : α} {i j c : Nat} (h : Lo lt Q x i j) (hc : c < Q.length) (hx : lt Q[c] x = true) : Lo lt Q x (c + 1) j :=
  ⟨fun t ht hi => le_lt hs (srt_at' hs hQ (by omega) hc) hx, h.hi⟩
theorem Lo.down (hs : Swo lt) {Q : List α} (hQ : Srt lt Q) {x : α} {i j c : Nat} (h : Lo lt Q x i j) (hc : c < Q.length) (hx : lt Q[c] x = false) : Lo lt Q x i c :=
  ⟨h.lo, fun t ht hi => hs.trans x Q[c] Q[t] hx (srt_at' hs hQ hi ht)⟩
theorem Lo.mrg (hs : Swo lt) {Q : List α} (hQ : Srt lt Q) {x : α} {i : Nat} (h : Lo lt Q x i i) : Mrg lt [x] Q (Q.take i ++ x :: Q.drop i) := by
  have := Mrg.one_left hs (x := x) (q1 := Q.take i) (q2 := Q.drop i) (by rw [List.take_append_drop]; exact hQ) (fun b hb => ?_) (fun b hb => ?_)
  · rwa [List.take_append_drop] at this
  · obtain ⟨t, ht, rfl⟩ := List.getElem_of_mem hb
    rw [List.length_take] at ht
    rw [List.getElem_take]
    exact h.lo t (by omega) (by omega)
  · obtain ⟨t, ht, rfl⟩ := List.getElem_of_mem hb
    rw [List.length_drop] at ht
    rw [List.getElem_drop]
    exact h.hi (i + t) (by omega) (by omega)
/-- how far y is not less than the elements -/
structure Hi (lt : α → α → Bool) (P : List α) (y : α) (i j : Nat) : Prop where
  lo : ∀ t (h : t < P.length), t < i → lt y P[t] = false
  hi : ∀ t (h : t < P.length), j ≤ t → lt y P[t] = true
theorem Hi.up (hs : Swo lt) {P : List α} (hP : Srt lt P) {y : α} {i j c : Nat} (h : Hi lt P y i j) (hc : c < P.length) (hx : lt y P[c] = false) : Hi lt P y (c + 1) j :=
  ⟨fun t ht hi => hs.trans P[t] P[c] y (srt_at' hs hP (by omega) hc) hx, h.hi⟩
theorem Hi.down (hs : Swo lt) {P : List α} (hP : Srt lt P) {y : α} {i j c : Nat} (h : Hi lt P y i j) (hc : c < P.length) (hx : lt y P[c] = true) : Hi lt P y i c :=
  ⟨h.lo, fun t ht hi => lt_le hs hx (srt_at' hs hP hi ht)⟩
theorem Hi.mrg (hs : Swo lt) {P : List α} (hP : Srt lt P) {y : α} {i : Nat} (h : Hi lt P y i i) : Mrg lt P [y] (P.take i ++ y :: P.drop i) := by
  have := Mrg.one_right hs (y := y) (p1 := P.take i) (p2 := P.drop i) (by rw [List.take_append_drop]; exact hP) (fun b hb => ?_) (fun b hb => ?_)
  · rwa [List.take_append_drop] at this
  · obtain ⟨t, ht, rfl⟩ := List.getElem_of_mem hb
    rw [List.length_take] at ht
    rw [List.getElem_take]
    exact h.lo t (by omega) (by omega)
  · obtain ⟨t, ht, rfl⟩ := List.getElem_of_mem hb
    rw [List.length_drop] at ht
    rw [List.getElem_drop]
    exact h.hi (i + t) (by omega) (by omega)
end
section
variable {α : Type} [Inhabited α] {lt : α → α → Bool}
/-- the elements of two runs in a row -/
theorem run_left {A P Q B : List α} {t : Nat} (h : t < P.length) : (A ++ P ++ Q ++ B).toArray[A.length + t]! = P[t] := by
  rw [getElem!_pos _ _ (by simp; omega)]
  simp only [List.getElem_toArray, List.append_assoc]
  rw [List.getElem_append_right (by omega)]
  simp only [Nat.add_sub_cancel_left]
  rw [List.getElem_append_left h]
theorem run_right {A P Q B : List α} {t : Nat} (h : t < Q.length) : (A ++ P ++ Q ++ B).toArray[A.length + P.length + t]! = Q[t] := by
  have := run_left (A := A ++ P) (P := Q) (Q := []) (B := B) h
  rw [List.length_append, List.append_nil] at this
  exact this
/-- where the search of symMerge stands -/
structure Sy (lt : α → α → Bool) (dk : Array α) (n s0 r0 s r : Nat) : Prop where
  lo : s = s0 ∨ lt dk[n - s]! dk[s - 1]! = false
  hi : r = r0 ∨ lt dk[n - 1 - r]! dk[r]! = true
/-- how symMerge begins its search -/
def SyIn (a m b md s0 r0 : Nat) : Prop := (m ≤ md ∧ s0 = a ∧ r0 = m) ∨ (md < m ∧ s0 + b = md + m ∧ r0 = md)
theorem sym_end {A P Q B : List α} {dk : Array α} {a m b md s0 r0 st en : Nat} (hd : dk = (A ++ P ++ Q ++ B).toArray) (ha : A.length = a) (hm : a + P.length = m) (hb : m + Q.length = b)
    (hi : SyIn a m b md s0 r0) (h : Sy lt dk (md + m) s0 r0 st st) (hs0 : s0 ≤ st) (hr0 : st ≤ r0) (ha0 : a ≤ s0) (hr1 : r0 ≤ m) (hen : st + en = md + m) (hen1 : m ≤ en) (hen2 : en ≤ b) :
    (P.drop (st - a) = [] ∨ Q.take (en - m) = [] ∨ ∃ x u y v, P.drop (st - a) = x :: u ∧ Q.take (en - m) = v ++ [y] ∧ lt y x = true) ∧
    (P.take (st - a) = [] ∨ Q.drop (en - m) = [] ∨ ∃ x p y q, P.take (st - a) = p ++ [x] ∧ Q.drop (en - m) = y :: q ∧ lt y x = false) := by
  subst hd
  constructor
  · by_cases h1 : st = m
    · left; rw [List.drop_eq_nil_iff]; omega
    · by_cases h2 : en = m
      · right; left; rw [h2, Nat.sub_self]; rfl
      · right; right
        have h3 := h.hi
        have hx : st - a < P.length := by omega
        have hy : en - 1 - m < Q.length := by omega
        have e1 : (A ++ P ++ Q ++ B).toArray[st]! = P[st - a] := by
          have := run_left (A := A) (P := P) (Q := Q) (B := B) hx
          rwa [show A.length + (st - a) = st by omega] at this
        have e2 : (A ++ P ++ Q ++ B).toArray[md + m - 1 - st]! = Q[en - 1 - m] := by
          have := run_right (A := A) (P := P) (Q := Q) (B := B) hy
          rwa [show A.length + P.length + (en - 1 - m) = md + m - 1 - st by omega] at this
        refine ⟨P[st - a], P.drop (st - a + 1), Q[en - 1 - m], Q.take (en - 1 - m), List.drop_eq_getElem_cons hx, ?_, ?_⟩
        · rw [show en - m = en - 1 - m + 1 by omega, List.take_succ_eq_append_getElem hy]
        · rcases h3 with h3 | h3
          · unfold SyIn at hi; omega
          · rwa [e1, e2] at h3
  · by_cases h1 : st = a
    · left; rw [h1, Nat.sub_self]; rfl
    · by_cases h2 : en = b
      · right; left; rw [List.drop_eq_nil_iff]; omega
      · right; right
        have h3 := h.lo
        have hx : st - 1 - a < P.length := by omega
        have hy : en - m < Q.length := by omega
        have e1 : (A ++ P ++ Q ++ B).toArray[st - 1]! = P[st - 1 - a] := by
          have := run_left (A := A) (P := P) (Q := Q) (B := B) hx
          rwa [show A.length + (st - 1 - a) = st - 1 by omega] at this
        have e2 : (A ++ P ++ Q ++ B).toArray[md + m - st]! = Q[en - m] := by
          have := run_right (A := A) (P := P) (Q := Q) (B := B) hy
          rwa [show A.length + P.length + (en - m) = md + m - st by omega] at this
        refine ⟨P[st - 1 - a], P.take (st - 1 - a), Q[en - m], Q.drop (en - m + 1), ?_, List.drop_eq_getElem_cons hy, ?_⟩
        · rw [show st - a = st - 1 - a + 1 by omega, List.take_succ_eq_append_getElem hx]
        · rcases h3 with h3 | h3
          · unfold SyIn at hi; omega
          · rwa [e1, e2] at h3
end
end Go.Proofs.YtakgcdefbbgdaaaGreatDoor
