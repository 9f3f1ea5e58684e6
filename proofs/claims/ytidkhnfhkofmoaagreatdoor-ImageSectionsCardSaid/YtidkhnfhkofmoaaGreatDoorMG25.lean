/-
  Several texts as one.
  Contract: slices.insertionSortCmpFunc at structs: a run of a row is sorted, equal elements stay in order.
  Contract: slices.symMergeCmpFunc at structs: two sorted runs side by side become their stable merge.
  Contract: slices.symMergeCmpFunc at structs.
-/
import Derived.Test.YtidkhnfhkofmoaaGreatDoorMG24
namespace Go.Proofs.YtidkhnfhkofmoaaGreatDoor
open Go.RowKit Go.Lib Go.Sort
set_option linter.unusedVariables false
set_option linter.unusedSimpArgs false
section
variable {α : Type}
theorem ltOf_true {cf : α → α → Int} {x y : α} (h : cf x y < 0) : ltOf cf x y = true := decide_eq_true h
theorem ltOf_false {cf : α → α → Int} {x y : α} (h : ¬ cf x y < 0) : ltOf cf x y = false := decide_eq_false h
variable {lt : α → α → Bool}
theorem ins_start {A P B : List α} : ∃ P1 P2 Pd, P = P1 ++ P2 ∧ Stb lt P1 Pd ∧ P1.length = min 1 P.length ∧ (A ++ P ++ B).toArray = (A ++ Pd ++ P2 ++ B).toArray := by
 cases P with
 | nil => exact ⟨[], [], [], rfl, Stb.nil lt, rfl, by simp⟩
 | cons x r => exact ⟨[x], r, [x], rfl, Stb.one lt x, by simp, by simp⟩
theorem ins_out (hs : Swo lt) {P P1 P2 Pd Q1 Q2 : List α} {x : α} (hP : P = P1 ++ x :: P2) (hst : Stb lt P1 Pd) (hq : Pd = Q1 ++ Q2) (h2 : ∀ q ∈ Q2, lt x q = true) (h1 : Q1 = [] ∨ ∃ Q z, Q1 = Q ++ [z] ∧ lt x z = false) :
  P = (P1 ++ [x]) ++ P2 ∧ Stb lt (P1 ++ [x]) (Q1 ++ x :: Q2) := by
 subst hq
 exact ⟨by rw [hP]; simp, hst.mrg (Stb.one lt x) (ins_mrg hs hst.srt h2 h1)⟩
end
section
variable {α : Type} [Inhabited α]
set_option maxRecDepth 100000 in
set_option maxHeartbeats 4000000 in
theorem insertion_fx (k : Nat) (aE : ∀ w, (isAgg 73).run Tryz.prog w = .ok true w) (zE : ∀ w, (Go.sizeOf 73).run Tryz.prog w = .ok k w) (enc : α → List Value) (cf : α → α → Int) (hsw : Swo (ltOf cf)) (g : Nat) (cb : Array Value) (eg : ∀ args w, (callFunc g args).run Tryz.prog w = .ok (.enter g args) w)
  (blk off cap a b N : Nat) (A P B : List α) (d0 : Array α) (w0 w : World) (R : RowK enc k w0 blk off d0) (hN : d0.size = N) (hC : CmpLays Tryz.prog g cb enc k cf blk off N w0) (hs : (A ++ P ++ B).length = N) (S : SWK enc k w0 blk off (A ++ P ++ B).toArray w)
  (ha : a = A.length) (hb : b = A.length + P.length) (hsz : N < 4611686018427387904) :
  Calls Tryz.prog 192 #[.slice (some ⟨blk, off, none⟩) N cap, .int .i64 a, .int .i64 b, .func (.func g) #[] cb] w
   fun e w' => e = .returned (.tuple #[]) ∧ ∃ P', Stb (ltOf cf) P P' ∧ SWK enc k w0 blk off (A ++ P' ++ B).toArray w' := by
 have mixed := mixedS
 have S0 : Aside (SWK enc k w0 blk off (A ++ P ++ B).toArray w) := S
 have hlen : N = A.length + P.length + B.length := by rw [← hs]; simp only [List.length_append]
 have hbN : b ≤ N := by omega
 have hab : a ≤ b := by omega
 have HA : Hid (A.length = a ∧ a + P.length = b) := ⟨ha.symm, by omega⟩
 have HS := Lib.hid hs
 have HSW := Lib.hid hsw
 have HC : Aside _ := hC
 have HE : Hid (∀ w', (∃ P', Stb (ltOf cf) P P' ∧ SWK enc k w0 blk off (A ++ P' ++ B).toArray w') → (fun (e : Ending) (w' : World) => e = .returned (.tuple #[]) ∧ ∃ P', Stb (ltOf cf) P P' ∧ SWK enc k w0 blk off (A ++ P' ++ B).toArray w') (.returned (.tuple #[])) w') := fun w' h => ⟨rfl, h⟩
 clear S ha hb hs hlen hC hsw
 generalize hQ : (fun (e : Ending) (w' : World) => e = .returned (.tuple #[]) ∧ ∃ P', Stb (ltOf cf) P P' ∧ SWK enc k w0 blk off (A ++ P' ++ B).toArray w') = Q at HE ⊢
 clear hQ
 go_enter Tryz.func192, Tryz.ntmps192
 go_wp2
 go_loopg [8] (b - a) (fun g1 vi wr => ∃ (i : Nat) (dk : Array α), vi = .int .i64 i ∧ a < i ∧ i ≤ b + 1 ∧ b + 1 - i ≤ g1 + 1 ∧ dk.size = N ∧ Aside (SWK enc k w0 blk off dk wr) ∧
  Hid (∃ P1 P2 Pd, P = P1 ++ P2 ∧ Stb (ltOf cf) P1 Pd ∧ P1.length = min (i - a) P.length ∧ dk = (A ++ Pd ++ P2 ++ B).toArray))
 case atStart =>
  obtain ⟨P1, P2, Pd, h1, h2, h3, h4⟩ := ins_start (lt := ltOf cf) (A := A) (P := P) (B := B)
  exact ⟨a + 1, _, by go_num, by omega, by omega, by omega, by rw [List.size_toArray]; exact HS.out, S0, ⟨P1, P2, Pd, h1, h2, by rw [h3]; congr 1; omega, h4⟩⟩
 case round =>
  clear S0
  obtain ⟨i, dk, rfl, hai, hib, hg1, hdk, S1, HI⟩ := hrel
  by_cases hlt : i < b
  ·have hltz : (i : Int) < (b : Int) := by omega
   obtain ⟨P1, P2, Pd, hP, hst, hl1, hdk2⟩ := HI.out
   obtain ⟨x, P3, hP2⟩ : ∃ x P3, P2 = x :: P3 := by
    cases P2 with
    | nil => exfalso; have := HA.out.2; rw [hP, List.append_nil] at this hl1; omega
    | cons x r => exact ⟨x, r, rfl⟩
   subst hP2
   have hPdl : P1.length = i - a := by have := HA.out.2; omega
   have HP : Hid (P = P1 ++ x :: P3 ∧ Stb (ltOf cf) P1 Pd ∧ P1.length = i - a ∧ dk = (A ++ Pd ++ x :: P3 ++ B).toArray) := ⟨hP, hst, hPdl, by rw [hdk2]⟩
   clear hP hst hl1 hdk2 HI hPdl
   go_wp2
   go_loopg [9] i (fun g2 vj wr2 => ∃ (j : Nat) (dj : Array α) (Q1 Q2 : List α), vj = .int .i64 j ∧ a ≤ j ∧ j ≤ i ∧ j ≤ g2 ∧ dj.size = N ∧ Aside (SWK enc k w0 blk off dj wr2) ∧
    Hid (Pd = Q1 ++ Q2 ∧ Q1.length = j - a ∧ dj = (A ++ Q1 ++ x :: (Q2 ++ (P3 ++ B))).toArray ∧ ∀ q ∈ Q2, ltOf cf x q = true))
   case atStart =>
    refine ⟨i, dk, Pd, [], rfl, by omega, Nat.le_refl _, Nat.le_refl _, hdk, S1, ⟨by simp, ?_, ?_, by simp⟩⟩
    ·rw [HP.out.2.1.len]; exact HP.out.2.2.1
    ·rw [HP.out.2.2.2]; simp
   case round =>
    clear S1
    obtain ⟨j, dj, Q1, Q2, rfl, haj, hji, hg2, hdj, S2, HJ⟩ := hrel
    have hout : Hid ((Q1 = [] ∨ ∃ Q z, Q1 = Q ++ [z] ∧ ltOf cf x z = false) → ∃ P1 P2 Pd, P = P1 ++ P2 ∧ Stb (ltOf cf) P1 Pd ∧ P1.length = min (i + 1 - a) P.length ∧ dj = (A ++ Pd ++ P2 ++ B).toArray) := by
     intro h
     obtain ⟨e1, e2, e3, e4⟩ := HJ.out
     obtain ⟨f1, f2, f3, f4⟩ := HP.out
     obtain ⟨k1, k2⟩ := ins_out HSW.out f1 f2 e1 e4 h
     refine ⟨_, _, _, k1, k2, ?_, by rw [e3]; simp⟩
     have := HA.out.2
     rw [List.length_append, f3, List.length_singleton]
     omega
    by_cases hja : a < j
    ·have hjaz : (a : Int) < (j : Int) := by omega
     obtain ⟨jp, rfl⟩ : ∃ jp, j = jp + 1 := ⟨j - 1, by omega⟩
     obtain ⟨Q, z, hQz⟩ : ∃ Q z, Q1 = Q ++ [z] := by
      have h1 : Q1 ≠ [] := by intro e; have := HJ.out.2.1; rw [e] at this; simp at this; omega
      exact ⟨Q1.dropLast, Q1.getLast h1, (List.dropLast_concat_getLast h1).symm⟩
     subst hQz
     have hx : dj[jp + 1]! = x := by
      rw [HJ.out.2.2.1]; exact get_mid (by have h1 := HJ.out.2.1; have h2 := HA.out.1; rw [List.length_append]; omega)
     have hz : dj[jp]! = z := by
      have := get_mid (A := A ++ Q) (x := z) (B := x :: (Q2 ++ (P3 ++ B))) (i := jp) (by have h1 := HJ.out.2.1; have h2 := HA.out.1; rw [List.length_append, List.length_singleton] at h1; rw [List.length_append]; omega)
      have e : A ++ (Q ++ [z]) ++ x :: (Q2 ++ (P3 ++ B)) = A ++ Q ++ z :: (x :: (Q2 ++ (P3 ++ B))) := by simp
      rw [HJ.out.2.2.1, e]; exact this
     have hsp : Hid (swp dj (jp + 1) jp = (A ++ Q ++ x :: (z :: Q2 ++ (P3 ++ B))).toArray) := by
      have := swp_mid' (A := A ++ Q) (M := []) (x := z) (y := x) (B := Q2 ++ (P3 ++ B)) (i := jp + 1) (j := jp) (by have h1 := HJ.out.2.1; have h2 := HA.out.1; rw [List.length_append, List.length_singleton] at h1; rw [List.length_append]; simp; omega) (by have h1 := HJ.out.2.1; have h2 := HA.out.1; rw [List.length_append, List.length_singleton] at h1; rw [List.length_append]; omega)
      unfold Hid
      rw [HJ.out.2.2.1]
      simpa using this
     have hwp : IntKind.i64.wrap (jp : Int) = (jp : Int) := by rw [IntKind.wrap_i64]; omega
     have jz : (jp : Int) + 1 < (N : Int) := by omega
     have jz1 : (jp : Int) < (N : Int) := by omega
     have hjaz' : (a : Int) < (jp : Int) + 1 := by omega
     have p0 : (0 : Int) ≤ (jp : Int) + 1 := by omega
     have e0 : ((jp : Int) + 1).toNat = jp + 1 := by omega
     have lj := S2.out.ld R (by omega) Tryz.prog (jp + 1) (by omega)
     have lp := S2.out.ld R (by omega) Tryz.prog jp (by omega)
     have hcg := S2.out.cmp HC.out hdj x z
     have hjN : jp + 1 < dj.size := by omega
     rw [hx] at lj
     rw [hz] at lp
     have HX : Hid (dj[jp + 1]! = x ∧ dj[jp]! = z) := ⟨hx, hz⟩
     clear hx hz
     by_cases hlv : cf x z < 0
     ·go_wp2_with fail
      go_quiet_grown (first | (go_at_fn g; refine Calls.grown_of (hcg _ _)))
      go_wp2_with fail
      have S3 : Aside (SWK enc k w0 blk off dj (grow (wr.drewN nq) osq)) := S2.out.grown nq osq
      clear lj lp hcg S2
      generalize grow (wr.drewN nq) osq = wq at S3 ⊢
      have S4 : Aside (SWK enc k w0 blk off (swp dj (jp + 1) jp) ((wq.drew.setCells blk (off + (jp + 1) * k) (enc dj[jp]!)).setCells blk (off + jp * k) (enc dj[jp + 1]!))) := S3.out.swapped R (jp + 1) jp (by omega) (by omega)
      have l1 := S3.out.ld1 R (by omega) Tryz.prog (jp + 1) (by omega)
      have l2 := S3.out.ld1 R (by omega) Tryz.prog jp (by omega)
      have s1 := S3.out.st1 R (by omega) Tryz.prog (jp + 1) (by omega) dj[jp]!
      have s2 := S3.out.st2 R (by omega) Tryz.prog (jp + 1) jp (by omega) (by omega) dj[jp]! dj[jp + 1]!
      have n1 : (enc dj[jp + 1]!).length = k := R.hk _
      have n2 : (enc dj[jp]!).length = k := R.hk _
      generalize enc dj[jp + 1]! = cI at S4 l1 s2 n1
      generalize enc dj[jp]! = cJ at S4 l2 s1 s2 n2
      clear S3
      go_big_region_o
      clear l1 l2 s1 s2
      generalize (wq.drew.setCells blk (off + (jp + 1) * k) cJ).setCells blk (off + jp * k) cI = w2 at S4 ⊢
      go_wp2
      go_roundg jp
      case measure => omega
      case rel =>
       obtain ⟨e1, e2, e3, e4⟩ := HJ.out
       refine ⟨jp, _, Q, z :: Q2, by first | rfl | go_num, by omega, by omega, Nat.le_refl _, by rw [size_swp]; exact hdj, S4, ⟨by rw [e1]; simp, ?_, hsp.out, ?_⟩⟩
       ·rw [List.length_append, List.length_singleton] at e2; omega
       ·intro q hq
        rcases List.mem_cons.1 hq with rfl | hq
        ·exact ltOf_true hlv
        ·exact e4 q hq
     ·go_wp2_with fail
      go_quiet_grown (first | (go_at_fn g; refine Calls.grown_of (hcg _ _)))
      have S3 : Aside (SWK enc k w0 blk off dj (grow (wr.drewN nq) osq)) := S2.out.grown nq osq
      clear lj lp hcg S2
      generalize grow (wr.drewN nq) osq = wq at S3 ⊢
      go_wp2
      go_roundg (b - (i + 1))
      case measure => omega
      case rel => exact ⟨i + 1, dj, by go_num, by omega, by omega, by omega, hdj, S3, hout.out (.inr ⟨Q, z, rfl, ltOf_false (by omega)⟩)⟩
    ·have hjaz : decide ((j : Int) > (a : Int)) = false := decide_eq_false (by omega)
     have hjaz' : ¬ (a : Int) < (j : Int) := by omega
     have S3 : Aside (SWK enc k w0 blk off dj wr.drew) := S2.out.drew
     have HQ1 : Hid (Q1 = []) := List.eq_nil_of_length_eq_zero (by have := HJ.out.2.1; omega)
     clear S2
     go_wp2_with fail
     go_big_region_o
     all_goals generalize wr.drew = wq at S3 ⊢
     all_goals go_wp2
     go_roundg (b - (i + 1))
     case measure => omega
     case rel => exact ⟨i + 1, dj, by go_num, by omega, by omega, by omega, hdj, S3, hout.out (.inl HQ1.out)⟩
  ·have hltz : ¬ (i : Int) < (b : Int) := by omega
   have HF : Hid (∃ P', Stb (ltOf cf) P P' ∧ dk = (A ++ P' ++ B).toArray) := by
    obtain ⟨P1, P2, Pd, hP, hst, hl1, hdk2⟩ := HI.out
    have h0 : P2 = [] := List.eq_nil_of_length_eq_zero (by have h1 := HA.out.2; rw [hP, List.length_append] at h1 hl1; omega)
    subst h0
    rw [List.append_nil] at hP hdk2
    exact ⟨Pd, by rw [hP]; exact hst, hdk2⟩
   go_wp2
   go_end0
   obtain ⟨P', h1, h2⟩ := HF.out
   exact HE.out _ ⟨P', h1, by rw [← h2]; exact S1.out⟩
end
end Go.Proofs.YtidkhnfhkofmoaaGreatDoor
namespace Go.Proofs.YtidkhnfhkofmoaaGreatDoor
open Go.RowKit Go.Lib Go.Sort
set_option linter.unusedVariables false
set_option linter.unusedSimpArgs false
section
variable {α : Type} {lt : α → α → Bool}
theorem srt_at {l : List α} (h : Srt lt l) {i j : Nat} (hi : i < j) (hj : j < l.length) : lt l[j] (l[i]'(by omega)) = false := List.pairwise_iff_getElem.1 h i j (by omega) hj hi
theorem srt_at' (hs : Swo lt) {l : List α} (h : Srt lt l) {i j : Nat} (hi : i ≤ j) (hj : j < l.length) : lt l[j] (l[i]'(by omega)) = false := by
 rcases Nat.lt_or_ge i j with h1 | h1
 ·exact srt_at h h1 hj
 ·have : i = j := by omega
  subst this
  exact hs.irrefl _
structure Lo (lt : α → α → Bool) (Q : List α) (x : α) (i j : Nat) : Prop where
 lo : ∀ t (h : t < Q.length), t < i → lt Q[t] x = true
 hi : ∀ t (h : t < Q.length), j ≤ t → lt Q[t] x = false
theorem Lo.up (hs : Swo lt) {Q : List α} (hQ : Srt lt Q) {x : α} {i j c : Nat} (h : Lo lt Q x i j) (hc : c < Q.length) (hx : lt Q[c] x = true) : Lo lt Q x (c + 1) j :=
 ⟨fun t ht hi => le_lt hs (srt_at' hs hQ (by omega) hc) hx, h.hi⟩
theorem Lo.down (hs : Swo lt) {Q : List α} (hQ : Srt lt Q) {x : α} {i j c : Nat} (h : Lo lt Q x i j) (hc : c < Q.length) (hx : lt Q[c] x = false) : Lo lt Q x i c :=
 ⟨h.lo, fun t ht hi => hs.trans x Q[c] Q[t] hx (srt_at' hs hQ hi ht)⟩
theorem Lo.mrg (hs : Swo lt) {Q : List α} (hQ : Srt lt Q) {x : α} {i : Nat} (h : Lo lt Q x i i) : Mrg lt [x] Q (Q.take i ++ x :: Q.drop i) := by
 have := Mrg.one_left hs (x := x) (q1 := Q.take i) (q2 := Q.drop i) (by rw [List.take_append_drop]; exact hQ) (fun b hb => ?_) (fun b hb => ?_)
 ·rwa [List.take_append_drop] at this
 ·obtain ⟨t, ht, rfl⟩ := List.getElem_of_mem hb
  rw [List.length_take] at ht
  rw [List.getElem_take]
  exact h.lo t (by omega) (by omega)
 ·obtain ⟨t, ht, rfl⟩ := List.getElem_of_mem hb
  rw [List.length_drop] at ht
  rw [List.getElem_drop]
  exact h.hi (i + t) (by omega) (by omega)
structure Hi (lt : α → α → Bool) (P : List α) (y : α) (i j : Nat) : Prop where
 lo : ∀ t (h : t < P.length), t < i → lt y P[t] = false
 hi : ∀ t (h : t < P.length), j ≤ t → lt y P[t] = true
theorem Hi.up (hs : Swo lt) {P : List α} (hP : Srt lt P) {y : α} {i j c : Nat} (h : Hi lt P y i j) (hc : c < P.length) (hx : lt y P[c] = false) : Hi lt P y (c + 1) j :=
 ⟨fun t ht hi => hs.trans P[t] P[c] y (srt_at' hs hP (by omega) hc) hx, h.hi⟩
theorem Hi.down (hs : Swo lt) {P : List α} (hP : Srt lt P) {y : α} {i j c : Nat} (h : Hi lt P y i j) (hc : c < P.length) (hx : lt y P[c] = true) : Hi lt P y i c :=
 ⟨h.lo, fun t ht hi => lt_le hs hx (srt_at' hs hP hi ht)⟩
theorem Hi.mrg (hs : Swo lt) {P : List α} (hP : Srt lt P) {y : α} {i : Nat} (h : Hi lt P y i i) : Mrg lt P [y] (P.take i ++ y :: P.drop i) := by
 have := Mrg.one_right hs (y := y) (p1 := P.take i) (p2 := P.drop i) (by rw [List.take_append_drop]; exact hP) (fun b hb => ?_) (fun b hb => ?_)
 ·rwa [List.take_append_drop] at this
 ·obtain ⟨t, ht, rfl⟩ := List.getElem_of_mem hb
  rw [List.length_take] at ht
  rw [List.getElem_take]
  exact h.lo t (by omega) (by omega)
 ·obtain ⟨t, ht, rfl⟩ := List.getElem_of_mem hb
  rw [List.length_drop] at ht
  rw [List.getElem_drop]
  exact h.hi (i + t) (by omega) (by omega)
end
section
variable {α : Type} [Inhabited α] {lt : α → α → Bool}
theorem run_left {A P Q B : List α} {t : Nat} (h : t < P.length) : (A ++ P ++ Q ++ B).toArray[A.length + t]! = P[t] := by
 rw [getElem!_pos _ _ (by simp; omega)]
 simp only [List.getElem_toArray, List.append_assoc]
 rw [List.getElem_append_right (by omega)]
 simp only [Nat.add_sub_cancel_left]
 rw [List.getElem_append_left h]
theorem run_right {A P Q B : List α} {t : Nat} (h : t < Q.length) : (A ++ P ++ Q ++ B).toArray[A.length + P.length + t]! = Q[t] := by
 have := run_left (A := A ++ P) (P := Q) (Q := []) (B := B) h
 rw [List.length_append, List.append_nil] at this
 exact this
structure Sy (lt : α → α → Bool) (dk : Array α) (n s0 r0 s r : Nat) : Prop where
 lo : s = s0 ∨ lt dk[n - s]! dk[s - 1]! = false
 hi : r = r0 ∨ lt dk[n - 1 - r]! dk[r]! = true
def SyIn (a m b md s0 r0 : Nat) : Prop := (m ≤ md ∧ s0 = a ∧ r0 = m) ∨ (md < m ∧ s0 + b = md + m ∧ r0 = md)
theorem sym_end {A P Q B : List α} {dk : Array α} {a m b md s0 r0 st en : Nat} (hd : dk = (A ++ P ++ Q ++ B).toArray) (ha : A.length = a) (hm : a + P.length = m) (hb : m + Q.length = b)
  (hi : SyIn a m b md s0 r0) (h : Sy lt dk (md + m) s0 r0 st st) (hs0 : s0 ≤ st) (hr0 : st ≤ r0) (ha0 : a ≤ s0) (hr1 : r0 ≤ m) (hen : st + en = md + m) (hen1 : m ≤ en) (hen2 : en ≤ b) :
  (P.drop (st - a) = [] ∨ Q.take (en - m) = [] ∨ ∃ x u y v, P.drop (st - a) = x :: u ∧ Q.take (en - m) = v ++ [y] ∧ lt y x = true) ∧
  (P.take (st - a) = [] ∨ Q.drop (en - m) = [] ∨ ∃ x p y q, P.take (st - a) = p ++ [x] ∧ Q.drop (en - m) = y :: q ∧ lt y x = false) := by
 subst hd
 constructor
 ·by_cases h1 : st = m
  ·left; rw [List.drop_eq_nil_iff]; omega
  ·by_cases h2 : en = m
   ·right; left; rw [h2, Nat.sub_self]; rfl
   ·right; right
    have h3 := h.hi
    have hx : st - a < P.length := by omega
    have hy : en - 1 - m < Q.length := by omega
    have e1 : (A ++ P ++ Q ++ B).toArray[st]! = P[st - a] := by
     have := run_left (A := A) (P := P) (Q := Q) (B := B) hx
     rwa [show A.length + (st - a) = st by omega] at this
    have e2 : (A ++ P ++ Q ++ B).toArray[md + m - 1 - st]! = Q[en - 1 - m] := by
     have := run_right (A := A) (P := P) (Q := Q) (B := B) hy
     rwa [show A.length + P.length + (en - 1 - m) = md + m - 1 - st by omega] at this
    refine ⟨P[st - a], P.drop (st - a + 1), Q[en - 1 - m], Q.take (en - 1 - m), List.drop_eq_getElem_cons hx, ?_, ?_⟩
    ·rw [show en - m = en - 1 - m + 1 by omega, List.take_succ_eq_append_getElem hy]
    ·rcases h3 with h3 | h3
     ·unfold SyIn at hi; omega
     ·rwa [e1, e2] at h3
 ·by_cases h1 : st = a
  ·left; rw [h1, Nat.sub_self]; rfl
  ·by_cases h2 : en = b
   ·right; left; rw [List.drop_eq_nil_iff]; omega
   ·right; right
    have h3 := h.lo
    have hx : st - 1 - a < P.length := by omega
    have hy : en - m < Q.length := by omega
    have e1 : (A ++ P ++ Q ++ B).toArray[st - 1]! = P[st - 1 - a] := by
     have := run_left (A := A) (P := P) (Q := Q) (B := B) hx
     rwa [show A.length + (st - 1 - a) = st - 1 by omega] at this
    have e2 : (A ++ P ++ Q ++ B).toArray[md + m - st]! = Q[en - m] := by
     have := run_right (A := A) (P := P) (Q := Q) (B := B) hy
     rwa [show A.length + P.length + (en - m) = md + m - st by omega] at this
    refine ⟨P[st - 1 - a], P.take (st - 1 - a), Q[en - m], Q.drop (en - m + 1), ?_, List.drop_eq_getElem_cons hy, ?_⟩
    ·rw [show st - a = st - 1 - a + 1 by omega, List.take_succ_eq_append_getElem hx]
    ·rcases h3 with h3 | h3
     ·unfold SyIn at hi; omega
     ·rwa [e1, e2] at h3
end
end Go.Proofs.YtidkhnfhkofmoaaGreatDoor
namespace Go.Proofs.YtidkhnfhkofmoaaGreatDoor
open Go.RowKit Go.Lib Go.Sort
set_option linter.unusedVariables false
set_option linter.unusedSimpArgs false
section
variable {α : Type} [Inhabited α]
def SymPost_fx (enc : α → List Value) (k : Nat) (cf : α → α → Int) (w0 : World) (blk off : Nat) (A P Q B : List α) (e : Ending) (w' : World) : Prop :=
 e = .returned (.tuple #[]) ∧ ∃ W, Mrg (ltOf cf) P Q W ∧ SWK enc k w0 blk off (A ++ W ++ B).toArray w'
set_option maxRecDepth 100000 in
set_option maxHeartbeats 8000000 in
theorem symOne_fx (k : Nat) (aE : ∀ w, (isAgg 73).run Tryz.prog w = .ok true w) (zE : ∀ w, (Go.sizeOf 73).run Tryz.prog w = .ok k w) (enc : α → List Value) (cf : α → α → Int) (hsw : Swo (ltOf cf)) (g : Nat) (cb : Array Value) (eg : ∀ args w, (callFunc g args).run Tryz.prog w = .ok (.enter g args) w)
  (blk off cap a m b N : Nat) (A Q B : List α) (x : α) (d0 : Array α) (w0 w : World) (R : RowK enc k w0 blk off d0) (hN : d0.size = N) (hC : CmpLays Tryz.prog g cb enc k cf blk off N w0) (hs : (A ++ [x] ++ Q ++ B).length = N) (S : SWK enc k w0 blk off (A ++ [x] ++ Q ++ B).toArray w)
  (ha : a = A.length) (hm : m = a + 1) (hb : b = m + Q.length) (hsz : N < 4611686018427387904) (hsQ : Srt (ltOf cf) Q) :
  Calls Tryz.prog 193 #[.slice (some ⟨blk, off, none⟩) N cap, .int .i64 a, .int .i64 m, .int .i64 b, .func (.func g) #[] cb] w (SymPost_fx enc k cf w0 blk off A [x] Q B) := by
 have mixed := mixedS
 obtain ⟨dk, hdk⟩ : ∃ dk, (A ++ [x] ++ Q ++ B).toArray = dk := ⟨_, rfl⟩
 have hdN : dk.size = N := by rw [← hdk, List.size_toArray]; exact hs
 rw [hdk] at S
 have S0 : Aside (SWK enc k w0 blk off dk w) := S
 have hlen : N = A.length + 1 + Q.length + B.length := by rw [← hs]; simp only [List.length_append, List.length_singleton]
 have hbN : b ≤ N := by omega
 have ham : a < m := by omega
 have hmb : m ≤ b := by omega
 have hdx : dk[a]! = x := by rw [← hdk, ha]; simp
 have HA : Hid (A.length = a ∧ m = a + 1 ∧ m + Q.length = b ∧ (A ++ [x] ++ Q ++ B).toArray = dk) := ⟨ha.symm, hm, hb.symm, hdk⟩
 have HSW := Lib.hid hsw
 have HSQ := Lib.hid hsQ
 have HC : Aside _ := hC
 have HQ : Hid (∀ t (h : t < Q.length), dk[m + t]! = Q[t]) := fun t h => by
  rw [← hdk]; have := run_right (A := A) (P := [x]) (Q := Q) (B := B) h; rwa [List.length_singleton, show A.length + 1 + t = m + t by omega] at this
 have HE : Hid (∀ w' W, Mrg (ltOf cf) [x] Q W → SWK enc k w0 blk off (A ++ W ++ B).toArray w' → SymPost_fx enc k cf w0 blk off A [x] Q B (.returned (.tuple #[])) w') := fun w' W h1 h2 => ⟨rfl, W, h1, h2⟩
 have e1 : ((m : Int) - (a : Int) == 1) = true := by rw [beq_iff_eq]; omega
 have HI0 : Hid (Lo (ltOf cf) Q x (m - m) (b - m)) := ⟨fun t h h2 => by omega, fun t h h2 => by omega⟩
 clear S ha hb hs hlen hC hsw hm hdk hsQ
 generalize SymPost_fx enc k cf w0 blk off A [x] Q B = Post at HE ⊢
 go_enter Tryz.func193, Tryz.ntmps193
 go_wp2
 go_loopg [10, 11] (b - m) (fun g1 vi vj wr => ∃ (i j : Nat), vi = .int .i64 i ∧ vj = .int .i64 j ∧ m ≤ i ∧ i ≤ j ∧ j ≤ b ∧ j - i ≤ g1 ∧ Aside (SWK enc k w0 blk off dk wr) ∧ Hid (Lo (ltOf cf) Q x (i - m) (j - m)))
 case atStart => exact ⟨m, b, rfl, rfl, Nat.le_refl _, hmb, Nat.le_refl _, Nat.le_refl _, S0, HI0⟩
 case round =>
  clear S0 HI0
  obtain ⟨i, j, rfl, rfl, hmi, hij, hjb, hg1, S1, HI⟩ := hrel
  by_cases hlt : i < j
  ·have hltz : (i : Int) < (j : Int) := by omega
   obtain ⟨h, hh⟩ : ∃ h, (i + j) / 2 = h := ⟨_, rfl⟩
   have hhz : ((i : Int) + (j : Int)) / 2 = (h : Int) := by omega
   have hhi : i ≤ h := by omega
   have hhj : h < j := by omega
   have hhN : (h : Int) < (N : Int) := by omega
   have haN : (a : Int) < (N : Int) := by omega
   have hwh : IntKind.i64.wrap (h : Int) = (h : Int) := by rw [IntKind.wrap_i64]; omega
   have hwa : IntKind.i64.wrap (a : Int) = (a : Int) := by rw [IntKind.wrap_i64]; omega
   have hQl : h - m < Q.length := by have := HA.out.2.2.1; omega
   obtain ⟨q, hq⟩ : ∃ q, Q[h - m] = q := ⟨_, rfl⟩
   have hdq : dk[h]! = q := by have := HQ.out (h - m) hQl; rw [show m + (h - m) = h by omega] at this; rw [this, hq]
   have lh := S1.out.ld R (by omega) Tryz.prog h (by omega)
   have la := S1.out.ld R (by omega) Tryz.prog a (by omega)
   have hcg := S1.out.cmp HC.out hdN q x
   rw [hdq] at lh
   rw [hdx] at la
   have HH : Hid ((i + j) / 2 = h) := hh
   have HL := Lib.hid hQl
   have HQQ : Hid (Q[h - m] = q) := hq
   clear hh hdq hq hQl
   by_cases hlv : cf q x < 0
   ·go_wp2_with fail
    go_quiet_grown (first | (go_at_fn g; refine Calls.grown_of (hcg _ _)))
    have S3 : Aside (SWK enc k w0 blk off dk (grow (wr.drewN nq) osq)) := S1.out.grown nq osq
    clear lh la hcg S1
    generalize grow (wr.drewN nq) osq = wq at S3 ⊢
    go_wp2
    go_roundg (j - (h + 1))
    case measure => omega
    case rel => exact ⟨h + 1, j, by go_num, rfl, by omega, by omega, hjb, Nat.le_refl _, S3, by
     have := HI.out.up HSW.out HSQ.out HL.out ((congrArg (fun z => ltOf cf z x) HQQ.out).trans (ltOf_true hlv))
     unfold Hid; rwa [show h + 1 - m = h - m + 1 by omega]⟩
   ·go_wp2_with fail
    go_quiet_grown (first | (go_at_fn g; refine Calls.grown_of (hcg _ _)))
    have S3 : Aside (SWK enc k w0 blk off dk (grow (wr.drewN nq) osq)) := S1.out.grown nq osq
    clear lh la hcg S1
    generalize grow (wr.drewN nq) osq = wq at S3 ⊢
    go_wp2
    go_roundg (h - i)
    case measure => omega
    case rel => exact ⟨i, h, rfl, rfl, hmi, hhi, by omega, Nat.le_refl _, S3, HI.out.down HSW.out HSQ.out HL.out ((congrArg (fun z => ltOf cf z x) HQQ.out).trans (ltOf_false (by omega)))⟩
  ·have hltz : ¬ (i : Int) < (j : Int) := by omega
   have hji : j = i := by omega
   subst hji
   have HM := Lib.hid (HI.out.mrg HSW.out HSQ.out)
   obtain ⟨Q1, hQ1⟩ : ∃ Q1, Q.take (j - m) = Q1 := ⟨_, rfl⟩
   obtain ⟨Q2, hQ2⟩ : ∃ Q2, Q.drop (j - m) = Q2 := ⟨_, rfl⟩
   have HQL : Hid (Q1.length = j - m ∧ (A ++ x :: (Q1 ++ (Q2 ++ B))).toArray = dk) := by
    refine ⟨by rw [← hQ1, List.length_take]; have := HA.out.2.2.1; omega, ?_⟩
    rw [← HA.out.2.2.2, ← hQ1, ← hQ2, ← List.append_assoc (Q.take _), List.take_append_drop]; simp
   rw [hQ1, hQ2] at HM
   have HM2 := Lib.hid HM.out
   clear hQ1 hQ2 HI HM
   go_wp2
   go_loopg [13] (j - 1 - a) (fun g1 vk wr => ∃ (kk : Nat) (dj : Array α) (R1 R2 : List α), vk = .int .i64 kk ∧ a ≤ kk ∧ kk + 1 ≤ j ∧ j - 1 - kk ≤ g1 ∧ dj.size = N ∧ Aside (SWK enc k w0 blk off dj wr) ∧ Hid (Q1 = R1 ++ R2 ∧ R1.length = kk - a ∧ dj = (A ++ R1 ++ x :: (R2 ++ (Q2 ++ B))).toArray))
   case atStart => exact ⟨a, dk, [], Q1, rfl, Nat.le_refl _, by omega, Nat.le_refl _, hdN, S1, ⟨rfl, by simp, by rw [← HQL.out.2]; simp⟩⟩
   case round =>
    clear S1
    obtain ⟨kk, dj, R1, R2, rfl, hak, hkj, hg2, hdj, S2, HJ⟩ := hrel
    by_cases hlk : kk + 1 < j
    ·have hlkz : (kk : Int) < (j : Int) - 1 := by omega
     obtain ⟨r, R3, hR2⟩ : ∃ r R3, R2 = r :: R3 := by
      cases R2 with
      | nil => exfalso; have h1 := HJ.out.2.1; have h2 := HQL.out.1; rw [HJ.out.1, List.append_nil] at h2; have := HA.out.2.1; omega
      | cons r R3 => exact ⟨r, R3, rfl⟩
     subst hR2
     have hsp : Hid (swp dj kk (kk + 1) = (A ++ (R1 ++ [r]) ++ x :: (R3 ++ (Q2 ++ B))).toArray) := by
      have := swp_mid (A := A ++ R1) (M := []) (x := x) (y := r) (B := R3 ++ (Q2 ++ B)) (i := kk) (j := kk + 1) (by have h1 := HJ.out.2.1; have h2 := HA.out.1; rw [List.length_append]; omega) (by have h1 := HJ.out.2.1; have h2 := HA.out.1; rw [List.length_append]; simp; omega)
      unfold Hid
      rw [HJ.out.2.2]
      simpa using this
     have ea : ((kk : Int)).toNat = kk := by omega
     have pa : (0 : Int) ≤ (kk : Int) := by omega
     have ba : (kk : Int) < (N : Int) := by omega
     have ra : IntKind.i64.wrap (kk : Int) = (kk : Int) := by rw [IntKind.wrap_i64]; omega
     have eb : ((kk : Int) + 1).toNat = kk + 1 := by omega
     have pb : (0 : Int) ≤ (kk : Int) + 1 := by omega
     have bb : (kk : Int) + 1 < (N : Int) := by omega
     have rb : IntKind.i64.wrap ((kk : Int) + 1) = (kk : Int) + 1 := by rw [IntKind.wrap_i64]; omega
     have S4 : Aside (SWK enc k w0 blk off (swp dj kk (kk + 1)) ((wr.drew.setCells blk (off + kk * k) (enc dj[kk + 1]!)).setCells blk (off + (kk + 1) * k) (enc dj[kk]!))) := S2.out.swapped R kk (kk + 1) (by omega) (by omega)
     have l1 := S2.out.ld1 R (by omega) Tryz.prog kk (by omega)
     have l2 := S2.out.ld1 R (by omega) Tryz.prog (kk + 1) (by omega)
     have s1 := S2.out.st1 R (by omega) Tryz.prog kk (by omega) dj[kk + 1]!
     have s2 := S2.out.st2 R (by omega) Tryz.prog kk (kk + 1) (by omega) (by omega) dj[kk + 1]! dj[kk]!
     have n1 : (enc dj[kk]!).length = k := R.hk _
     have n2 : (enc dj[kk + 1]!).length = k := R.hk _
     generalize enc dj[kk]! = cI at S4 l1 s2 n1
     generalize enc dj[kk + 1]! = cJ at S4 l2 s1 s2 n2
     clear S2
     go_wp2_with fail
     go_big_region_o
     clear l1 l2 s1 s2
     generalize (wr.drew.setCells blk (off + kk * k) cJ).setCells blk (off + (kk + 1) * k) cI = w2 at S4 ⊢
     clear ra rb
     go_wp2
     go_roundg (j - 1 - (kk + 1))
     case measure => omega
     case rel => exact ⟨kk + 1, _, R1 ++ [r], R3, by go_num, by omega, by omega, Nat.le_refl _, by rw [size_swp]; exact hdj, S4, ⟨by rw [HJ.out.1]; simp, by rw [List.length_append, HJ.out.2.1, List.length_singleton]; omega, hsp.out⟩⟩
    ·have hlkz : ¬ (kk : Int) < (j : Int) - 1 := by omega
     have HF : Hid (dj = (A ++ (Q1 ++ x :: Q2) ++ B).toArray) := by
      have h1 := HJ.out.2.1
      have h2 := HQL.out.1
      have h0 : R2 = [] := List.eq_nil_of_length_eq_zero (by rw [HJ.out.1, List.length_append] at h2; have := HA.out.2.1; omega)
      unfold Hid
      rw [HJ.out.2.2, HJ.out.1, h0]; simp
     go_wp2
     go_end0
     exact HE.out _ _ HM2.out (by rw [← HF.out]; exact S2.out)
set_option maxRecDepth 100000 in
set_option maxHeartbeats 8000000 in
theorem symLast_fx (k : Nat) (aE : ∀ w, (isAgg 73).run Tryz.prog w = .ok true w) (zE : ∀ w, (Go.sizeOf 73).run Tryz.prog w = .ok k w) (enc : α → List Value) (cf : α → α → Int) (hsw : Swo (ltOf cf)) (g : Nat) (cb : Array Value) (eg : ∀ args w, (callFunc g args).run Tryz.prog w = .ok (.enter g args) w)
  (blk off cap a m b N : Nat) (A P B : List α) (y : α) (d0 : Array α) (w0 w : World) (R : RowK enc k w0 blk off d0) (hN : d0.size = N) (hC : CmpLays Tryz.prog g cb enc k cf blk off N w0) (hs : (A ++ P ++ [y] ++ B).length = N) (S : SWK enc k w0 blk off (A ++ P ++ [y] ++ B).toArray w)
  (ha : a = A.length) (hm : m = a + P.length) (hb : b = m + 1) (hP2 : 2 ≤ P.length) (hsz : N < 4611686018427387904) (hsP : Srt (ltOf cf) P) :
  Calls Tryz.prog 193 #[.slice (some ⟨blk, off, none⟩) N cap, .int .i64 a, .int .i64 m, .int .i64 b, .func (.func g) #[] cb] w (SymPost_fx enc k cf w0 blk off A P [y] B) := by
 have mixed := mixedS
 obtain ⟨dk, hdk⟩ : ∃ dk, (A ++ P ++ [y] ++ B).toArray = dk := ⟨_, rfl⟩
 have hdN : dk.size = N := by rw [← hdk, List.size_toArray]; exact hs
 rw [hdk] at S
 have S0 : Aside (SWK enc k w0 blk off dk w) := S
 have hlen : N = A.length + P.length + 1 + B.length := by rw [← hs]; simp only [List.length_append, List.length_singleton]
 have hbN : b ≤ N := by omega
 have ham : a + 2 ≤ m := by omega
 have hmN : m < N := by omega
 have hdy : dk[m]! = y := by rw [← hdk, hm, ha]; simp
 have HA : Hid (A.length = a ∧ a + P.length = m ∧ m + 1 = b ∧ (A ++ P ++ [y] ++ B).toArray = dk) := ⟨ha.symm, hm.symm, hb.symm, hdk⟩
 have HSW := Lib.hid hsw
 have HSP := Lib.hid hsP
 have HC : Aside _ := hC
 have HQ : Hid (∀ t (h : t < P.length), dk[a + t]! = P[t]) := fun t h => by
  rw [← hdk, ha]; exact run_left (A := A) (P := P) (Q := [y]) (B := B) h
 have HE : Hid (∀ w' W, Mrg (ltOf cf) P [y] W → SWK enc k w0 blk off (A ++ W ++ B).toArray w' → SymPost_fx enc k cf w0 blk off A P [y] B (.returned (.tuple #[])) w') := fun w' W h1 h2 => ⟨rfl, W, h1, h2⟩
 have e1 : ((m : Int) - (a : Int) == 1) = false := by rw [beq_eq_false_iff_ne]; omega
 have e2 : ((b : Int) - (m : Int) == 1) = true := by rw [beq_iff_eq]; omega
 have hmb : m ≤ b := by omega
 have HI0 : Hid (Hi (ltOf cf) P y (a - a) (m - a)) := ⟨fun t h h2 => by omega, fun t h h2 => by omega⟩
 clear S ha hb hs hlen hC hsw hm hdk hsP hP2
 generalize SymPost_fx enc k cf w0 blk off A P [y] B = Post at HE ⊢
 go_enter Tryz.func193, Tryz.ntmps193
 go_wp2
 go_loopg [14, 15] (m - a) (fun g1 vi vj wr => ∃ (i j : Nat), vi = .int .i64 i ∧ vj = .int .i64 j ∧ a ≤ i ∧ i ≤ j ∧ j ≤ m ∧ j - i ≤ g1 ∧ Aside (SWK enc k w0 blk off dk wr) ∧ Hid (Hi (ltOf cf) P y (i - a) (j - a)))
 case atStart => exact ⟨a, m, rfl, rfl, Nat.le_refl _, by omega, Nat.le_refl _, Nat.le_refl _, S0, HI0⟩
 case round =>
  clear S0 HI0
  obtain ⟨i, j, rfl, rfl, hmi, hij, hjb, hg1, S1, HI⟩ := hrel
  by_cases hlt : i < j
  ·have hltz : (i : Int) < (j : Int) := by omega
   obtain ⟨h, hh⟩ : ∃ h, (i + j) / 2 = h := ⟨_, rfl⟩
   have hhz : ((i : Int) + (j : Int)) / 2 = (h : Int) := by omega
   have hhi : i ≤ h := by omega
   have hhj : h < j := by omega
   have hhN : (h : Int) < (N : Int) := by omega
   have haN : (m : Int) < (N : Int) := by omega
   have hwh : IntKind.i64.wrap (h : Int) = (h : Int) := by rw [IntKind.wrap_i64]; omega
   have hwa : IntKind.i64.wrap (m : Int) = (m : Int) := by rw [IntKind.wrap_i64]; omega
   have hQl : h - a < P.length := by have := HA.out.2.1; omega
   obtain ⟨q, hq⟩ : ∃ q, P[h - a] = q := ⟨_, rfl⟩
   have hdq : dk[h]! = q := by have := HQ.out (h - a) hQl; rw [show a + (h - a) = h by omega] at this; rw [this, hq]
   have lh := S1.out.ld R (by omega) Tryz.prog h (by omega)
   have la := S1.out.ld R (by omega) Tryz.prog m (by omega)
   have hcg := S1.out.cmp HC.out hdN y q
   rw [hdq] at lh
   rw [hdy] at la
   have HH : Hid ((i + j) / 2 = h) := hh
   have HL := Lib.hid hQl
   have HQQ : Hid (P[h - a] = q) := hq
   clear hh hdq hq hQl
   by_cases hlv : cf y q < 0
   ·have hlb : decide (cf y q < 0) = true := decide_eq_true hlv
    go_wp2_with fail
    go_quiet_grown (first | (go_at_fn g; refine Calls.grown_of (hcg _ _)))
    have S3 : Aside (SWK enc k w0 blk off dk (grow (wr.drewN nq) osq)) := S1.out.grown nq osq
    clear lh la hcg S1
    generalize grow (wr.drewN nq) osq = wq at S3 ⊢
    go_wp2
    go_roundg (h - i)
    case measure => omega
    case rel => exact ⟨i, h, rfl, rfl, hmi, hhi, by omega, Nat.le_refl _, S3, HI.out.down HSW.out HSP.out HL.out ((congrArg (fun z => ltOf cf y z) HQQ.out).trans (ltOf_true hlv))⟩
   ·have hlb : decide (cf y q < 0) = false := decide_eq_false hlv
    go_wp2_with fail
    go_quiet_grown (first | (go_at_fn g; refine Calls.grown_of (hcg _ _)))
    have S3 : Aside (SWK enc k w0 blk off dk (grow (wr.drewN nq) osq)) := S1.out.grown nq osq
    clear lh la hcg S1
    generalize grow (wr.drewN nq) osq = wq at S3 ⊢
    go_wp2
    go_roundg (j - (h + 1))
    case measure => omega
    case rel => exact ⟨h + 1, j, by go_num, rfl, by omega, by omega, hjb, Nat.le_refl _, S3, by
     have := HI.out.up HSW.out HSP.out HL.out ((congrArg (fun z => ltOf cf y z) HQQ.out).trans (ltOf_false (by omega)))
     unfold Hid; rwa [show h + 1 - a = h - a + 1 by omega]⟩
  ·have hltz : ¬ (i : Int) < (j : Int) := by omega
   have hji : j = i := by omega
   subst hji
   have HM := Lib.hid (HI.out.mrg HSW.out HSP.out)
   obtain ⟨P1, hP1⟩ : ∃ P1, P.take (j - a) = P1 := ⟨_, rfl⟩
   obtain ⟨P2, hP2⟩ : ∃ P2, P.drop (j - a) = P2 := ⟨_, rfl⟩
   have HPL : Hid (P1.length = j - a ∧ P2.length = m - j ∧ (A ++ P1 ++ P2 ++ y :: B).toArray = dk) := by
    have h2 := HA.out.2.1
    refine ⟨by rw [← hP1, List.length_take]; omega, by rw [← hP2, List.length_drop]; omega, ?_⟩
    rw [← HA.out.2.2.2, ← hP1, ← hP2, List.append_assoc A, List.take_append_drop]; simp
   rw [hP1, hP2] at HM
   have HM2 := Lib.hid HM.out
   clear hP1 hP2 HI HM
   go_wp2
   go_loopg [17] (m - j) (fun g1 vk wr => ∃ (kk : Nat) (dj : Array α) (R1 R2 : List α), vk = .int .i64 kk ∧ j ≤ kk ∧ kk ≤ m ∧ kk - j ≤ g1 ∧ dj.size = N ∧ Aside (SWK enc k w0 blk off dj wr) ∧ Hid (P2 = R1 ++ R2 ∧ R1.length = kk - j ∧ dj = (A ++ P1 ++ R1 ++ y :: (R2 ++ B)).toArray))
   case atStart => exact ⟨m, dk, P2, [], rfl, hjb, Nat.le_refl _, Nat.le_refl _, hdN, S1, ⟨by simp, HPL.out.2.1, by rw [← HPL.out.2.2]; simp⟩⟩
   case round =>
    clear S1
    obtain ⟨kk, dj, R1, R2, rfl, hak, hkj, hg2, hdj, S2, HJ⟩ := hrel
    by_cases hlk : j < kk
    ·obtain ⟨kp, rfl⟩ : ∃ kp, kk = kp + 1 := ⟨kk - 1, by omega⟩
     have hlkz : (j : Int) < (kp : Int) + 1 := by omega
     obtain ⟨R3, r, hR1⟩ : ∃ R3 r, R1 = R3 ++ [r] := by
      have h1 : R1 ≠ [] := by intro e; have := HJ.out.2.1; rw [e] at this; simp at this; omega
      exact ⟨R1.dropLast, R1.getLast h1, (List.dropLast_concat_getLast h1).symm⟩
     subst hR1
     have hsp : Hid (swp dj (kp + 1) kp = (A ++ P1 ++ R3 ++ y :: (r :: R2 ++ B)).toArray) := by
      have h1 := HJ.out.2.1
      have h2 := HA.out.1
      have h3 := HPL.out.1
      rw [List.length_append, List.length_singleton] at h1
      have := swp_mid' (A := A ++ P1 ++ R3) (M := []) (x := r) (y := y) (B := R2 ++ B) (i := kp + 1) (j := kp) (by simp only [List.length_append, List.length_nil]; omega) (by simp only [List.length_append]; omega)
      unfold Hid
      rw [HJ.out.2.2]
      simpa using this
     have ea : ((kp : Int) + 1).toNat = kp + 1 := by omega
     have pa : (0 : Int) ≤ (kp : Int) + 1 := by omega
     have ba : (kp : Int) + 1 < (N : Int) := by omega
     have ra : IntKind.i64.wrap ((kp : Int) + 1) = (kp : Int) + 1 := by rw [IntKind.wrap_i64]; omega
     have bb : (kp : Int) < (N : Int) := by omega
     have rb : IntKind.i64.wrap (kp : Int) = (kp : Int) := by rw [IntKind.wrap_i64]; omega
     have S4 : Aside (SWK enc k w0 blk off (swp dj (kp + 1) kp) ((wr.drew.setCells blk (off + (kp + 1) * k) (enc dj[kp]!)).setCells blk (off + kp * k) (enc dj[kp + 1]!))) := S2.out.swapped R (kp + 1) kp (by omega) (by omega)
     have l1 := S2.out.ld1 R (by omega) Tryz.prog (kp + 1) (by omega)
     have l2 := S2.out.ld1 R (by omega) Tryz.prog kp (by omega)
     have s1 := S2.out.st1 R (by omega) Tryz.prog (kp + 1) (by omega) dj[kp]!
     have s2 := S2.out.st2 R (by omega) Tryz.prog (kp + 1) kp (by omega) (by omega) dj[kp]! dj[kp + 1]!
     have n1 : (enc dj[kp + 1]!).length = k := R.hk _
     have n2 : (enc dj[kp]!).length = k := R.hk _
     generalize enc dj[kp + 1]! = cI at S4 l1 s2 n1
     generalize enc dj[kp]! = cJ at S4 l2 s1 s2 n2
     clear S2
     go_wp2_with fail
     go_big_region_o
     clear l1 l2 s1 s2
     generalize (wr.drew.setCells blk (off + (kp + 1) * k) cJ).setCells blk (off + kp * k) cI = w2 at S4 ⊢
     clear ra rb
     go_wp2
     go_roundg (kp - j)
     case measure => omega
     case rel => exact ⟨kp, _, R3, r :: R2, by first | rfl | go_num, by omega, by omega, Nat.le_refl _, by rw [size_swp]; exact hdj, S4, ⟨by rw [HJ.out.1]; simp, by have := HJ.out.2.1; rw [List.length_append, List.length_singleton] at this; omega, hsp.out⟩⟩
    ·have hlkz : ¬ (j : Int) < (kk : Int) := by omega
     have HF : Hid (dj = (A ++ (P1 ++ y :: P2) ++ B).toArray) := by
      have h1 := HJ.out.2.1
      have h0 : R1 = [] := List.eq_nil_of_length_eq_zero (by omega)
      unfold Hid
      rw [HJ.out.2.2, HJ.out.1, h0]; simp
     go_wp2
     go_end0
     exact HE.out _ _ HM2.out (by rw [← HF.out]; exact S2.out)
end
end Go.Proofs.YtidkhnfhkofmoaaGreatDoor
