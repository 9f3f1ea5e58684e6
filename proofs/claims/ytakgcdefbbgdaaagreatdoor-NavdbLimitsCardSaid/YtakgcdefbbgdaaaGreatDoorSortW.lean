/-
  Contract: slices.symMergeCmpFunc at structs.
-/
import Derived.Test.YtakgcdefbbgdaaaGreatDoorMG24
namespace Go.Proofs.YtakgcdefbbgdaaaGreatDoor
open Go.RowKit Go.Lib Go.Sort
set_option linter.unusedVariables false
set_option linter.unusedSimpArgs false
section
variable {α : Type} [Inhabited α]
/-- what symMerge is to do -/
def SymPost_fx (enc : α → List Value) (k : Nat) (cf : α → α → Int) (w0 : World) (blk off : Nat) (A P Q B : List α) (e : Ending) (w' : World) : Prop :=
  e = .returned (.tuple #[]) ∧ ∃ W, Mrg (ltOf cf) P Q W ∧ SWK enc k w0 blk off (A ++ W ++ B).toArray w'
set_option maxRecDepth 100000 in
set_option maxHeartbeats 8000000 in
/-- the first run is one element -/
theorem symOne_fx (k : Nat) (aE : ∀ w, (isAgg 67).run Tryz.prog w = .ok true w) (zE : ∀ w, (Go.sizeOf 67).run Tryz.prog w = .ok k w) (enc : α → List Value) (cf : α → α → Int) (hsw : Swo (ltOf cf)) (g : Nat) (cb : Array Value) (eg : ∀ args w, (callFunc g args).run Tryz.prog w = .ok (.enter g args) w)
    (blk off cap a m b N : Nat) (A Q B : List α) (x : α) (d0 : Array α) (w0 w : World) (R : RowK enc k w0 blk off d0) (hN : d0.size = N) (hC : CmpLays Tryz.prog g cb enc k cf blk off N w0) (hs : (A ++ [x] ++ Q ++ B).length = N) (S : SWK enc k w0 blk off (A ++ [x] ++ Q ++ B).toArray w)
    (ha : a = A.length) (hm : m = a + 1) (hb : b = m + Q.length) (hsz : N < 4611686018427387904) (hsQ : Srt (ltOf cf) Q) :
    Calls Tryz.prog 177 #[.slice (some ⟨blk, off, none⟩) N cap, .int .i64 a, .int .i64 m, .int .i64 b, .func (.func g) #[] cb] w (SymPost_fx enc k cf w0 blk off A [x] Q B) := by
  have mixed := mixedS
  obtain ⟨dk, hdk⟩ : ∃ dk, (A ++ [x] ++ Q ++ B).toArray = dk := ⟨_, rfl⟩
  have hdN : dk.size = N := by rw [← hdk, List.size_toArray]; exact hs
  rw [hdk] at S
  have S0 : Aside (SWK enc k w0 blk off dk w) := S
  have hlen : N = A.length + 1 + Q.length + B.length := by rw [← hs]; simp only [List.length_append, List.length_singleton]
  have hbN : b ≤ N := by omega
  have ham : a < m := by omega
  have hmb : m ≤ b := by omega
  have hdx : dk[a]! = x := by rw [← hdk, ha]; simp
  have HA : Hid (A.length = a ∧ m = a + 1 ∧ m + Q.length = b ∧ (A ++ [x] ++ Q ++ B).toArray = dk) := ⟨ha.symm, hm, hb.symm, hdk⟩
  have HSW := Lib.hid hsw
  have HSQ := Lib.hid hsQ
  have HC : Aside _ := hC
  have HQ : Hid (∀ t (h : t < Q.length), dk[m + t]! = Q[t]) := fun t h => by
    rw [← hdk]; have := run_right (A := A) (P := [x]) (Q := Q) (B := B) h; rwa [List.length_singleton, show A.length + 1 + t = m + t by omega] at this
  have HE : Hid (∀ w' W, Mrg (ltOf cf) [x] Q W → SWK enc k w0 blk off (A ++ W ++ B).toArray w' → SymPost_fx enc k cf w0 blk off A [x] Q B (.returned (.tuple #[])) w') := fun w' W h1 h2 => ⟨rfl, W, h1, h2⟩
  have e1 : ((m : Int) - (a : Int) == 1) = true := by rw [beq_iff_eq]; omega
  have HI0 : Hid (Lo (ltOf cf) Q x (m - m) (b - m)) := ⟨fun t h h2 => by omega, fun t h h2 => by omega⟩
  clear S ha hb hs hlen hC hsw hm hdk hsQ
  generalize SymPost_fx enc k cf w0 blk off A [x] Q B = Post at HE ⊢
  go_enter Tryz.func177, Tryz.ntmps177
  go_wp2
  go_loopg [10, 11] (b - m) (fun g1 vi vj wr => ∃ (i j : Nat), vi = .int .i64 i ∧ vj = .int .i64 j ∧ m ≤ i ∧ i ≤ j ∧ j ≤ b ∧ j - i ≤ g1 ∧ Aside (SWK enc k w0 blk off dk wr) ∧ Hid (Lo (ltOf cf) Q x (i - m) (j - m)))
  case atStart => exact ⟨m, b, rfl, rfl, Nat.le_refl _, hmb, Nat.le_refl _, Nat.le_refl _, S0, HI0⟩
  case round =>
    clear S0 HI0
    obtain ⟨i, j, rfl, rfl, hmi, hij, hjb, hg1, S1, HI⟩ := hrel
    by_cases hlt : i < j
    · have hltz : (i : Int) < (j : Int) := by omega
      obtain ⟨h, hh⟩ : ∃ h, (i + j) / 2 = h := ⟨_, rfl⟩
      have hhz : ((i : Int) + (j : Int)) / 2 = (h : Int) := by omega
      have hhi : i ≤ h := by omega
      have hhj : h < j := by omega
      have hhN : (h : Int) < (N : Int) := by omega
      have haN : (a : Int) < (N : Int) := by omega
      have hwh : IntKind.i64.wrap (h : Int) = (h : Int) := by rw [IntKind.wrap_i64]; omega
      have hwa : IntKind.i64.wrap (a : Int) = (a : Int) := by rw [IntKind.wrap_i64]; omega
      have hQl : h - m < Q.length := by have := HA.out.2.2.1; omega
      obtain ⟨q, hq⟩ : ∃ q, Q[h - m] = q := ⟨_, rfl⟩
      have hdq : dk[h]! = q := by have := HQ.out (h - m) hQl; rw [show m + (h - m) = h by omega] at this; rw [this, hq]
      have lh := S1.out.ld R (by omega) Tryz.prog h (by omega)
      have la := S1.out.ld R (by omega) Tryz.prog a (by omega)
      have hcg := S1.out.cmp HC.out hdN q x
      rw [hdq] at lh
      rw [hdx] at la
      have HH : Hid ((i + j) / 2 = h) := hh
      have HL := Lib.hid hQl
      have HQQ : Hid (Q[h - m] = q) := hq
      clear hh hdq hq hQl
      by_cases hlv : cf q x < 0
      · go_wp2_with fail
        go_quiet_grown (first | (go_at_fn g; refine Calls.grown_of (hcg _ _)))
        have S3 : Aside (SWK enc k w0 blk off dk (grow (wr.drewN nq) osq)) := S1.out.grown nq osq
        clear lh la hcg S1
        generalize grow (wr.drewN nq) osq = wq at S3 ⊢
        go_wp2
        go_roundg (j - (h + 1))
        case measure => omega
        case rel => exact ⟨h + 1, j, by go_num, rfl, by omega, by omega, hjb, Nat.le_refl _, S3, by
          have := HI.out.up HSW.out HSQ.out HL.out ((congrArg (fun z => ltOf cf z x) HQQ.out).trans (ltOf_true hlv))
          unfold Hid; rwa [show h + 1 - m = h - m + 1 by omega]⟩
      · go_wp2_with fail
        go_quiet_grown (first | (go_at_fn g; refine Calls.grown_of (hcg _ _)))
        have S3 : Aside (SWK enc k w0 blk off dk (grow (wr.drewN nq) osq)) := S1.out.grown nq osq
        clear lh la hcg S1
        generalize grow (wr.drewN nq) osq = wq at S3 ⊢
        go_wp2
        go_roundg (h - i)
        case measure => omega
        case rel => exact ⟨i, h, rfl, rfl, hmi, hhi, by omega, Nat.le_refl _, S3, HI.out.down HSW.out HSQ.out HL.out ((congrArg (fun z => ltOf cf z x) HQQ.out).trans (ltOf_false (by omega)))⟩
    · have hltz : ¬ (i : Int) < (j : Int) := by omega
      have hji : j = i := by omega
      subst hji
      have HM := Lib.hid (HI.out.mrg HSW.out HSQ.out)
      obtain ⟨Q1, hQ1⟩ : ∃ Q1, Q.take (j - m) = Q1 := ⟨_, rfl⟩
      obtain ⟨Q2, hQ2⟩ : ∃ Q2, Q.drop (j - m) = Q2 := ⟨_, rfl⟩
      have HQL : Hid (Q1.length = j - m ∧ (A ++ x :: (Q1 ++ (Q2 ++ B))).toArray = dk) := by
        refine ⟨by rw [← hQ1, List.length_take]; have := HA.out.2.2.1; omega, ?_⟩
        rw [← HA.out.2.2.2, ← hQ1, ← hQ2, ← List.append_assoc (Q.take _), List.take_append_drop]; simp
      rw [hQ1, hQ2] at HM
      have HM2 := Lib.hid HM.out
      clear hQ1 hQ2 HI HM
      go_wp2
      go_loopg [13] (j - 1 - a) (fun g1 vk wr => ∃ (kk : Nat) (dj : Array α) (R1 R2 : List α), vk = .int .i64 kk ∧ a ≤ kk ∧ kk + 1 ≤ j ∧ j - 1 - kk ≤ g1 ∧ dj.size = N ∧ Aside (SWK enc k w0 blk off dj wr) ∧ Hid (Q1 = R1 ++ R2 ∧ R1.length = kk - a ∧ dj = (A ++ R1 ++ x :: (R2 ++ (Q2 ++ B))).toArray))
      case atStart => exact ⟨a, dk, [], Q1, rfl, Nat.le_refl _, by omega, Nat.le_refl _, hdN, S1, ⟨rfl, by simp, by rw [← HQL.out.2]; simp⟩⟩
      case round =>
        clear S1
        obtain ⟨kk, dj, R1, R2, rfl, hak, hkj, hg2, hdj, S2, HJ⟩ := hrel
        by_cases hlk : kk + 1 < j
        · have hlkz : (kk : Int) < (j : Int) - 1 := by omega
          obtain ⟨r, R3, hR2⟩ : ∃ r R3, R2 = r :: R3 := by
            cases R2 with
            | nil => exfalso; have h1 := HJ.out.2.1; have h2 := HQL.out.1; rw [HJ.out.1, List.append_nil] at h2; have := HA.out.2.1; omega
            | cons r R3 => exact ⟨r, R3, rfl⟩
          subst hR2
          have hsp : Hid (swp dj kk (kk + 1) = (A ++ (R1 ++ [r]) ++ x :: (R3 ++ (Q2 ++ B))).toArray) := by
            have := swp_mid (A := A ++ R1) (M := []) (x := x) (y := r) (B := R3 ++ (Q2 ++ B)) (i := kk) (j := kk + 1) (by have h1 := HJ.out.2.1; have h2 := HA.out.1; rw [List.length_append]; omega) (by have h1 := HJ.out.2.1; have h2 := HA.out.1; rw [List.length_append]; simp; omega)
            unfold Hid
            rw [HJ.out.2.2]
            simpa using this
          have ea : ((kk : Int)).toNat = kk := by omega
          have pa : (0 : Int) ≤ (kk : Int) := by omega
          have ba : (kk : Int) < (N : Int) := by omega
          have ra : IntKind.i64.wrap (kk : Int) = (kk : Int) := by rw [IntKind.wrap_i64]; omega
          have eb : ((kk : Int) + 1).toNat = kk + 1 := by omega
          have pb : (0 : Int) ≤ (kk : Int) + 1 := by omega
          have bb : (kk : Int) + 1 < (N : Int) := by omega
          have rb : IntKind.i64.wrap ((kk : Int) + 1) = (kk : Int) + 1 := by rw [IntKind.wrap_i64]; omega
          have S4 : Aside (SWK enc k w0 blk off (swp dj kk (kk + 1)) ((wr.drew.setCells blk (off + kk * k) (enc dj[kk + 1]!)).setCells blk (off + (kk + 1) * k) (enc dj[kk]!))) := S2.out.swapped R kk (kk + 1) (by omega) (by omega)
          have l1 := S2.out.ld1 R (by omega) Tryz.prog kk (by omega)
          have l2 := S2.out.ld1 R (by omega) Tryz.prog (kk + 1) (by omega)
          have s1 := S2.out.st1 R (by omega) Tryz.prog kk (by omega) dj[kk + 1]!
          have s2 := S2.out.st2 R (by omega) Tryz.prog kk (kk + 1) (by omega) (by omega) dj[kk + 1]! dj[kk]!
          have n1 : (enc dj[kk]!).length = k := R.hk _
          have n2 : (enc dj[kk + 1]!).length = k := R.hk _
          generalize enc dj[kk]! = cI at S4 l1 s2 n1
          generalize enc dj[kk + 1]! = cJ at S4 l2 s1 s2 n2
          clear S2
          go_wp2_with fail
          go_big_region_o
          clear l1 l2 s1 s2
          generalize (wr.drew.setCells blk (off + kk * k) cJ).setCells blk (off + (kk + 1) * k) cI = w2 at S4 ⊢
          clear ra rb
          go_wp2
          go_roundg (j - 1 - (kk + 1))
          case measure => omega
          case rel => exact ⟨kk + 1, _, R1 ++ [r], R3, by go_num, by omega, by omega, Nat.le_refl _, by rw [size_swp]; exact hdj, S4, ⟨by rw [HJ.out.1]; simp, by rw [List.length_append, HJ.out.2.1, List.length_singleton]; omega, hsp.out⟩⟩
        · have hlkz : ¬ (kk : Int) < (j : Int) - 1 := by omega
          have HF : Hid (dj = (A ++ (Q1 ++ x :: Q2) ++ B).toArray) := by
            have h1 := HJ.out.2.1
            have h2 := HQL.out.1
            have h0 : R2 = [] := List.eq_nil_of_length_eq_zero (by rw [HJ.out.1, List.length_append] at h2; have := HA.out.2.1; omega)
            unfold Hid
            rw [HJ.out.2.2, HJ.out.1, h0]; simp
          go_wp2
          go_end0
          exact HE.out _ _ HM2.out (by rw [← HF.out]; exact S2.out)
set_option maxRecDepth 100000 in
set_option maxHeartbeats 8000000 in
/-- the second run is one element -/
theorem symLast_fx (k : Nat) (aE : ∀ w, (isAgg 67).run Tryz.prog w = .ok true w) (zE : ∀ w, (Go.sizeOf 67).run Tryz.prog w = .ok k w) (enc : α → List Value) (cf : α → α → Int) (hsw : Swo (ltOf cf)) (g : Nat) (cb : Array Value) (eg : ∀ args w, (callFunc g args).run Tryz.prog w = .ok (.enter g args) w)
    (blk off cap a m b N : Nat) (A P B : List α) (y : α) (d0 : Array α) (w0 w : World) (R : RowK enc k w0 blk off d0) (hN : d0.size = N) (hC : CmpLays Tryz.prog g cb enc k cf blk off N w0) (hs : (A ++ P ++ [y] ++ B).length = N) (S : SWK enc k w0 blk off (A ++ P ++ [y] ++ B).toArray w)
    (ha : a = A.length) (hm : m = a + P.length) (hb : b = m + 1) (hP2 : 2 ≤ P.length) (hsz : N < 4611686018427387904) (hsP : Srt (ltOf cf) P) :
    Calls Tryz.prog 177 #[.slice (some ⟨blk, off, none⟩) N cap, .int .i64 a, .int .i64 m, .int .i64 b, .func (.func g) #[] cb] w (SymPost_fx enc k cf w0 blk off A P [y] B) := by
  have mixed := mixedS
  obtain ⟨dk, hdk⟩ : ∃ dk, (A ++ P ++ [y] ++ B).toArray = dk := ⟨_, rfl⟩
  have hdN : dk.size = N := by rw [← hdk, List.size_toArray]; exact hs
  rw [hdk] at S
  have S0 : Aside (SWK enc k w0 blk off dk w) := S
  have hlen : N = A.length + P.length + 1 + B.length := by rw [← hs]; simp only [List.length_append, List.length_singleton]
  have hbN : b ≤ N := by omega
  have ham : a + 2 ≤ m := by omega
  have hmN : m < N := by omega
  have hdy : dk[m]! = y := by rw [← hdk, hm, ha]; simp
  have HA : Hid (A.length = a ∧ a + P.length = m ∧ m + 1 = b ∧ (A ++ P ++ [y] ++ B).toArray = dk) := ⟨ha.symm, hm.symm, hb.symm, hdk⟩
  have HSW := Lib.hid hsw
  have HSP := Lib.hid hsP
  have HC : Aside _ := hC
  have HQ : Hid (∀ t (h : t < P.length), dk[a + t]! = P[t]) := fun t h => by
    rw [← hdk, ha]; exact run_left (A := A) (P := P) (Q := [y]) (B := B) h
  have HE : Hid (∀ w' W, Mrg (ltOf cf) P [y] W → SWK enc k w0 blk off (A ++ W ++ B).toArray w' → SymPost_fx enc k cf w0 blk off A P [y] B (.returned (.tuple #[])) w') := fun w' W h1 h2 => ⟨rfl, W, h1, h2⟩
  have e1 : ((m : Int) - (a : Int) == 1) = false := by rw [beq_eq_false_iff_ne]; omega
  have e2 : ((b : Int) - (m : Int) == 1) = true := by rw [beq_iff_eq]; omega
  have hmb : m ≤ b := by omega
  have HI0 : Hid (Hi (ltOf cf) P y (a - a) (m - a)) := ⟨fun t h h2 => by omega, fun t h h2 => by omega⟩
  clear S ha hb hs hlen hC hsw hm hdk hsP hP2
  generalize SymPost_fx enc k cf w0 blk off A P [y] B = Post at HE ⊢
  go_enter Tryz.func177, Tryz.ntmps177
  go_wp2
  go_loopg [14, 15] (m - a) (fun g1 vi vj wr => ∃ (i j : Nat), vi = .int .i64 i ∧ vj = .int .i64 j ∧ a ≤ i ∧ i ≤ j ∧ j ≤ m ∧ j - i ≤ g1 ∧ Aside (SWK enc k w0 blk off dk wr) ∧ Hid (Hi (ltOf cf) P y (i - a) (j - a)))
  case atStart => exact ⟨a, m, rfl, rfl, Nat.le_refl _, by omega, Nat.le_refl _, Nat.le_refl _, S0, HI0⟩
  case round =>
    clear S0 HI0
    obtain ⟨i, j, rfl, rfl, hmi, hij, hjb, hg1, S1, HI⟩ := hrel
    by_cases hlt : i < j
    · have hltz : (i : Int) < (j : Int) := by omega
      obtain ⟨h, hh⟩ : ∃ h, (i + j) / 2 = h := ⟨_, rfl⟩
      have hhz : ((i : Int) + (j : Int)) / 2 = (h : Int) := by omega
      have hhi : i ≤ h := by omega
      have hhj : h < j := by omega
      have hhN : (h : Int) < (N : Int) := by omega
      have haN : (m : Int) < (N : Int) := by omega
      have hwh : IntKind.i64.wrap (h : Int) = (h : Int) := by rw [IntKind.wrap_i64]; omega
      have hwa : IntKind.i64.wrap (m : Int) = (m : Int) := by rw [IntKind.wrap_i64]; omega
      have hQl : h - a < P.length := by have := HA.out.2.1; omega
      obtain ⟨q, hq⟩ : ∃ q, P[h - a] = q := ⟨_, rfl⟩
      have hdq : dk[h]! = q := by have := HQ.out (h - a) hQl; rw [show a + (h - a) = h by omega] at this; rw [this, hq]
      have lh := S1.out.ld R (by omega) Tryz.prog h (by omega)
      have la := S1.out.ld R (by omega) Tryz.prog m (by omega)
      have hcg := S1.out.cmp HC.out hdN y q
      rw [hdq] at lh
      rw [hdy] at la
      have HH : Hid ((i + j) / 2 = h) := hh
      have HL := Lib.hid hQl
      have HQQ : Hid (P[h - a] = q) := hq
      clear hh hdq hq hQl
      by_cases hlv : cf y q < 0
      · have hlb : decide (cf y q < 0) = true := decide_eq_true hlv
        go_wp2_with fail
        go_quiet_grown (first | (go_at_fn g; refine Calls.grown_of (hcg _ _)))
        have S3 : Aside (SWK enc k w0 blk off dk (grow (wr.drewN nq) osq)) := S1.out.grown nq osq
        clear lh la hcg S1
        generalize grow (wr.drewN nq) osq = wq at S3 ⊢
        go_wp2
        go_roundg (h - i)
        case measure => omega
        case rel => exact ⟨i, h, rfl, rfl, hmi, hhi, by omega, Nat.le_refl _, S3, HI.out.down HSW.out HSP.out HL.out ((congrArg (fun z => ltOf cf y z) HQQ.out).trans (ltOf_true hlv))⟩
      · have hlb : decide (cf y q < 0) = false := decide_eq_false hlv
        go_wp2_with fail
        go_quiet_grown (first | (go_at_fn g; refine Calls.grown_of (hcg _ _)))
        have S3 : Aside (SWK enc k w0 blk off dk (grow (wr.drewN nq) osq)) := S1.out.grown nq osq
        clear lh la hcg S1
        generalize grow (wr.drewN nq) osq = wq at S3 ⊢
        go_wp2
        go_roundg (j - (h + 1))
        case measure => omega
        case rel => exact ⟨h + 1, j, by go_num, rfl, by omega, by omega, hjb, Nat.le_refl _, S3, by
          have := HI.out.up HSW.out HSP.out HL.out ((congrArg (fun z => ltOf cf y z) HQQ.out).trans (ltOf_false (by omega)))
          unfold Hid; rwa [show h + 1 - a = h - a + 1 by omega]⟩
    · have hltz : ¬ (i : Int) < (j : Int) := by omega
      have hji : j = i := by omega
      subst hji
      have HM := Lib.hid (HI.out.mrg HSW.out HSP.out)
      obtain ⟨P1, hP1⟩ : ∃ P1, P.take (j - a) = P1 := ⟨_, rfl⟩
      obtain ⟨P2, hP2⟩ : ∃ P2, P.drop (j - a) = P2 := ⟨_, rfl⟩
      have HPL : Hid (P1.length = j - a ∧ P2.length = m - j ∧ (A ++ P1 ++ P2 ++ y :: B).toArray = dk) := by
        have h2 := HA.out.2.1
        refine ⟨by rw [← hP1, List.length_take]; omega, by rw [← hP2, List.length_drop]; omega, ?_⟩
        rw [← HA.out.2.2.2, ← hP1, ← hP2, List.append_assoc A, List.take_append_drop]; simp
      rw [hP1, hP2] at HM
      have HM2 := Lib.hid HM.out
      clear hP1 hP2 HI HM
      go_wp2
      go_loopg [17] (m - j) (fun g1 vk wr => ∃ (kk : Nat) (dj : Array α) (R1 R2 : List α), vk = .int .i64 kk ∧ j ≤ kk ∧ kk ≤ m ∧ kk - j ≤ g1 ∧ dj.size = N ∧ Aside (SWK enc k w0 blk off dj wr) ∧ Hid (P2 = R1 ++ R2 ∧ R1.length = kk - j ∧ dj = (A ++ P1 ++ R1 ++ y :: (R2 ++ B)).toArray))
      case atStart => exact ⟨m, dk, P2, [], rfl, hjb, Nat.le_refl _, Nat.le_refl _, hdN, S1, ⟨by simp, HPL.out.2.1, by rw [← HPL.out.2.2]; simp⟩⟩
      case round =>
        clear S1
        obtain ⟨kk, dj, R1, R2, rfl, hak, hkj, hg2, hdj, S2, HJ⟩ := hrel
        by_cases hlk : j < kk
        · obtain ⟨kp, rfl⟩ : ∃ kp, kk = kp + 1 := ⟨kk - 1, by omega⟩
          have hlkz : (j : Int) < (kp : Int) + 1 := by omega
          obtain ⟨R3, r, hR1⟩ : ∃ R3 r, R1 = R3 ++ [r] := by
            have h1 : R1 ≠ [] := by intro e; have := HJ.out.2.1; rw [e] at this; simp at this; omega
            exact ⟨R1.dropLast, R1.getLast h1, (List.dropLast_concat_getLast h1).symm⟩
          subst hR1
          have hsp : Hid (swp dj (kp + 1) kp = (A ++ P1 ++ R3 ++ y :: (r :: R2 ++ B)).toArray) := by
            have h1 := HJ.out.2.1
            have h2 := HA.out.1
            have h3 := HPL.out.1
            rw [List.length_append, List.length_singleton] at h1
            have := swp_mid' (A := A ++ P1 ++ R3) (M := []) (x := r) (y := y) (B := R2 ++ B) (i := kp + 1) (j := kp) (by simp only [List.length_append, List.length_nil]; omega) (by simp only [List.length_append]; omega)
            unfold Hid
            rw [HJ.out.2.2]
            simpa using this
          have ea : ((kp : Int) + 1).toNat = kp + 1 := by omega
          have pa : (0 : Int) ≤ (kp : Int) + 1 := by omega
          have ba : (kp : Int) + 1 < (N : Int) := by omega
          have ra : IntKind.i64.wrap ((kp : Int) + 1) = (kp : Int) + 1 := by rw [IntKind.wrap_i64]; omega
          have bb : (kp : Int) < (N : Int) := by omega
          have rb : IntKind.i64.wrap (kp : Int) = (kp : Int) := by rw [IntKind.wrap_i64]; omega
          have S4 : Aside (SWK enc k w0 blk off (swp dj (kp + 1) kp) ((wr.drew.setCells blk (off + (kp + 1) * k) (enc dj[kp]!)).setCells blk (off + kp * k) (enc dj[kp + 1]!))) := S2.out.swapped R (kp + 1) kp (by omega) (by omega)
          have l1 := S2.out.ld1 R (by omega) Tryz.prog (kp + 1) (by omega)
          have l2 := S2.out.ld1 R (by omega) Tryz.prog kp (by omega)
          have s1 := S2.out.st1 R (by omega) Tryz.prog (kp + 1) (by omega) dj[kp]!
          have s2 := S2.out.st2 R (by omega) Tryz.prog (kp + 1) kp (by omega) (by omega) dj[kp]! dj[kp + 1]!
          have n1 : (enc dj[kp + 1]!).length = k := R.hk _
          have n2 : (enc dj[kp]!).length = k := R.hk _
          generalize enc dj[kp + 1]! = cI at S4 l1 s2 n1
          generalize enc dj[kp]! = cJ at S4 l2 s1 s2 n2
          clear S2
          go_wp2_with fail
          go_big_region_o
          clear l1 l2 s1 s2
          generalize (wr.drew.setCells blk (off + (kp + 1) * k) cJ).setCells blk (off + kp * k) cI = w2 at S4 ⊢
          clear ra rb
          go_wp2
          go_roundg (kp - j)
          case measure => omega
          case rel => exact ⟨kp, _, R3, r :: R2, by first | rfl | go_num, by omega, by omega, Nat.le_refl _, by rw [size_swp]; exact hdj, S4, ⟨by rw [HJ.out.1]; simp, by have := HJ.out.2.1; rw [List.length_append, List.length_singleton] at this; omega, hsp.out⟩⟩
        · have hlkz : ¬ (j : Int) < (kk : Int) := by omega
          have HF : Hid (dj = (A ++ (P1 ++ y :: P2) ++ B).toArray) := by
            have h1 := HJ.out.2.1
            have h0 : R1 = [] := List.eq_nil_of_length_eq_zero (by omega)
            unfold Hid
            rw [HJ.out.2.2, HJ.out.1, h0]; simp
          go_wp2
          go_end0
          exact HE.out _ _ HM2.out (by rw [← HF.out]; exact S2.out)
end
end Go.Proofs.YtakgcdefbbgdaaaGreatDoor
