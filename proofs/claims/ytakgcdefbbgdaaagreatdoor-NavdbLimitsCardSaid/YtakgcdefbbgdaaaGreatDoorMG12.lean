/-
  Several texts as one.
  Contracts: what a scanner takes as a value: an altitude, a distance, a number, a position, a window; and its end. Both sides.
  Laws: append onto a row of the call's own (nothing appended: as it was), and append onto a slice that is full; at a step of a region that draws its order. No program in it.
  Contracts: a position that a scanner takes; the end of a record; a scanner at the first field. Both sides.
-/
import Derived.Test.YtakgcdefbbgdaaaGreatDoorMG10
import Derived.Test.YtakgcdefbbgdaaaGreatDoorBase
import Derived.Deep.AppendLies
import Derived.Deep.RegionHeld3
namespace Go.Proofs.YtakgcdefbbgdaaaGreatDoor
open Go.RowKit
set_option linter.unusedVariables false
set_option linter.unusedSimpArgs false

def IntPost (V E : List UInt8 → Int) (s : Sc) (g : Nat) (w : World) (e : Ending) (w' : World) : Prop := e = .returned (.int .i64 (s.tv 0 V)) ∧ ScPost (s.tk E) g w w'
theorem text_size {s : Sc} (h : s.text.length ≤ 140737488351232) : (sb s.text).size ≤ 140737488351232 := h
set_option maxRecDepth 100000 in
set_option maxHeartbeats 1000000 in
theorem takenAlt_any (s : Sc) (g : Nat) (w : World) (E : Env w) (hts : s.text.length ≤ 140737488351232) (hg0 : 12 ≤ g) (h : ScP w g s) :
    Calls Tryz.prog 154 #[.pointer (some ⟨g, 0, none⟩), .func (.func 155) #[] #[]] w (IntPost (fun t => pAltN (altSpec t)) (fun t => pAltE (altSpec t)) s g w) := by
  have H := Lib.hid h
  have HFIN : Hid (∀ (x : Int) w', s.tv 0 (fun t => pAltN (altSpec t)) = x → ScPost (s.tk (fun t => pAltE (altSpec t))) g w w' → IntPost (fun t => pAltN (altSpec t)) (fun t => pAltE (altSpec t)) s g w (.returned (.int .i64 x)) w') := by
    intro x w' h1 h2; unfold IntPost; rw [h1]; exact ⟨rfl, h2⟩
  clear h
  cases hg : s.got
  · have HG := Lib.hid hg
    have HF1 := Lib.hid (Sc.tv_no hg (0 : Int) (fun t => pAltN (altSpec t)))
    have HF2 := Lib.hid (Sc.tk_no hg (fun t => pAltE (altSpec t)))
    clear hg
    go_enter Tryz.func154, Tryz.ntmps154
    go_wp2_with fail
    refine (take_any s g _ H.out).mono ?_
    rintro e w1 ⟨rfl, hp⟩
    rw [HG.out]
    have HP := Lib.hid hp
    clear hp
    go_wp2
    go_ret
    exact HFIN.out _ _ HF1.out (by rw [HF2.out]; exact HP.out)
  · have HG := Lib.hid hg
    have HF1 := Lib.hid (Sc.tv_got hg (0 : Int) (fun t => pAltN (altSpec t)))
    have HF2 := Lib.hid (Sc.tk_got hg (fun t => pAltE (altSpec t)))
    obtain ⟨t, ht⟩ : ∃ t, s.text = t := ⟨_, rfl⟩
    have hsz := text_size hts
    rw [ht] at HF1 HF2 hsz
    have HT := Lib.hid ht
    have HSZ := Lib.hid hsz
    clear hg ht hts hsz
    go_enter Tryz.func154, Tryz.ntmps154
    go_wp2_with fail
    refine (take_any s g _ H.out).mono ?_
    rintro e w1 ⟨rfl, hp⟩
    rw [HG.out, HT.out]
    have HP := Lib.hid hp
    have E1 : Env w1 := E.of_below (hp.2.below (Below.refl 12 w) hg0 E.size) (Nat.le_refl _)
    clear hp
    go_wp2_with fail
    refine (parseAlt_any (sb t) _ E1 HSZ.out).mono ?_
    rintro e w2 ⟨rfl, hb2⟩
    rw [bl_sb]
    have HP2 := Lib.hid (HP.out.then_ hb2)
    have c3 := HP2.out.1.c3
    clear hb2
    obtain ⟨x, hx⟩ : ∃ x, (fun t => pAltN (altSpec t)) t = x := ⟨_, rfl⟩
    obtain ⟨er, her⟩ : ∃ x, (fun t => pAltE (altSpec t)) t = x := ⟨_, rfl⟩
    have hz : er ≠ 0 → x = 0 := by rw [← her, ← hx]; exact pAlt_zero
    simp only [] at hx her
    rw [hx] at HF1
    rw [her] at HF2
    rw [hx, her]
    clear hx her
    by_cases h0 : er = 0
    · have e1 : (er != 0) = false := bne_eq_false_iff_eq.2 h0
      have HE : Hid (s.tk (fun t => pAltE (altSpec t)) = s.take) := by unfold Hid; rw [HF2.out, h0, Sc.note_zero]
      clear h0 hz
      go_wp2
      go_ret
      exact HFIN.out _ _ HF1.out (by rw [HE.out]; exact HP2.out)
    · have e1 : (er != 0) = true := bne_iff_ne.2 h0
      have HX := Lib.hid (hz h0)
      clear h0 hz
      go_wp2_with fail
      refine (note_any s.take s.take.la er g _ HP2.out.1).mono ?_
      rintro e w3 ⟨rfl, hp⟩
      have HP3 := Lib.hid (HP2.out.trans hp)
      clear hp
      go_wp2
      go_ret
      exact HFIN.out _ _ (by rw [HF1.out, HX.out]) (by rw [HF2.out]; exact HP3.out)
set_option maxRecDepth 100000 in
set_option maxHeartbeats 1000000 in
theorem takenDist_any (s : Sc) (g : Nat) (w : World) (E : Env w) (hts : s.text.length ≤ 140737488351232) (hg0 : 12 ≤ g) (h : ScP w g s) :
    Calls Tryz.prog 154 #[.pointer (some ⟨g, 0, none⟩), .func (.func 156) #[] #[]] w (IntPost (fun t => distN (distSpec t)) (fun t => distE (distSpec t)) s g w) := by
  have H := Lib.hid h
  have HFIN : Hid (∀ (x : Int) w', s.tv 0 (fun t => distN (distSpec t)) = x → ScPost (s.tk (fun t => distE (distSpec t))) g w w' → IntPost (fun t => distN (distSpec t)) (fun t => distE (distSpec t)) s g w (.returned (.int .i64 x)) w') := by
    intro x w' h1 h2; unfold IntPost; rw [h1]; exact ⟨rfl, h2⟩
  clear h
  cases hg : s.got
  · have HG := Lib.hid hg
    have HF1 := Lib.hid (Sc.tv_no hg (0 : Int) (fun t => distN (distSpec t)))
    have HF2 := Lib.hid (Sc.tk_no hg (fun t => distE (distSpec t)))
    clear hg
    go_enter Tryz.func154, Tryz.ntmps154
    go_wp2_with fail
    refine (take_any s g _ H.out).mono ?_
    rintro e w1 ⟨rfl, hp⟩
    rw [HG.out]
    have HP := Lib.hid hp
    clear hp
    go_wp2
    go_ret
    exact HFIN.out _ _ HF1.out (by rw [HF2.out]; exact HP.out)
  · have HG := Lib.hid hg
    have HF1 := Lib.hid (Sc.tv_got hg (0 : Int) (fun t => distN (distSpec t)))
    have HF2 := Lib.hid (Sc.tk_got hg (fun t => distE (distSpec t)))
    obtain ⟨t, ht⟩ : ∃ t, s.text = t := ⟨_, rfl⟩
    have hsz := text_size hts
    rw [ht] at HF1 HF2 hsz
    have HT := Lib.hid ht
    have HSZ := Lib.hid hsz
    clear hg ht hts hsz
    go_enter Tryz.func154, Tryz.ntmps154
    go_wp2_with fail
    refine (take_any s g _ H.out).mono ?_
    rintro e w1 ⟨rfl, hp⟩
    rw [HG.out, HT.out]
    have HP := Lib.hid hp
    have E1 : Env w1 := E.of_below (hp.2.below (Below.refl 12 w) hg0 E.size) (Nat.le_refl _)
    clear hp
    go_wp2_with fail
    refine (parseDist_any (sb t) _ E1 HSZ.out).mono ?_
    rintro e w2 ⟨rfl, hb2⟩
    rw [bl_sb]
    have HP2 := Lib.hid (HP.out.then_ hb2)
    have c3 := HP2.out.1.c3
    clear hb2
    obtain ⟨x, hx⟩ : ∃ x, (fun t => distN (distSpec t)) t = x := ⟨_, rfl⟩
    obtain ⟨er, her⟩ : ∃ x, (fun t => distE (distSpec t)) t = x := ⟨_, rfl⟩
    have hz : er ≠ 0 → x = 0 := by rw [← her, ← hx]; exact distN_zero
    simp only [] at hx her
    rw [hx] at HF1
    rw [her] at HF2
    rw [hx, her]
    clear hx her
    by_cases h0 : er = 0
    · have e1 : (er != 0) = false := bne_eq_false_iff_eq.2 h0
      have HE : Hid (s.tk (fun t => distE (distSpec t)) = s.take) := by unfold Hid; rw [HF2.out, h0, Sc.note_zero]
      clear h0 hz
      go_wp2
      go_ret
      exact HFIN.out _ _ HF1.out (by rw [HE.out]; exact HP2.out)
    · have e1 : (er != 0) = true := bne_iff_ne.2 h0
      have HX := Lib.hid (hz h0)
      clear h0 hz
      go_wp2_with fail
      refine (note_any s.take s.take.la er g _ HP2.out.1).mono ?_
      rintro e w3 ⟨rfl, hp⟩
      have HP3 := Lib.hid (HP2.out.trans hp)
      clear hp
      go_wp2
      go_ret
      exact HFIN.out _ _ (by rw [HF1.out, HX.out]) (by rw [HF2.out]; exact HP3.out)
theorem altS_any (s : Sc) (g : Nat) (w : World) (E : Env w) (hts : s.text.length ≤ 140737488351232) (hg0 : 12 ≤ g) (h : ScP w g s) :
    Calls Tryz.prog 103 #[.pointer (some ⟨g, 0, none⟩)] w (IntPost (fun t => pAltN (altSpec t)) (fun t => pAltE (altSpec t)) s g w) := by
  have H := Lib.hid h
  clear h
  go_enter Tryz.func103, Tryz.ntmps103
  go_wp2_with fail
  refine (takenAlt_any s g _ E hts hg0 H.out).mono ?_
  rintro e w1 ⟨rfl, hp⟩
  have HP := Lib.hid hp
  clear hp
  go_wp2
  go_ret
  exact ⟨rfl, HP.out⟩
theorem distS_any (s : Sc) (g : Nat) (w : World) (E : Env w) (hts : s.text.length ≤ 140737488351232) (hg0 : 12 ≤ g) (h : ScP w g s) :
    Calls Tryz.prog 104 #[.pointer (some ⟨g, 0, none⟩)] w (IntPost (fun t => distN (distSpec t)) (fun t => distE (distSpec t)) s g w) := by
  have H := Lib.hid h
  clear h
  go_enter Tryz.func104, Tryz.ntmps104
  go_wp2_with fail
  refine (takenDist_any s g _ E hts hg0 H.out).mono ?_
  rintro e w1 ⟨rfl, hp⟩
  have HP := Lib.hid hp
  clear hp
  go_wp2
  go_ret
  exact ⟨rfl, HP.out⟩
end Go.Proofs.YtakgcdefbbgdaaaGreatDoor
namespace Go.Proofs.YtakgcdefbbgdaaaGreatDoor
open Go.RowKit
set_option linter.unusedVariables false
set_option linter.unusedSimpArgs false

section
variable {P : Program} (w : World)
/-- append onto a slice without room, whatever it is a slice of -/
theorem run_append_full (base : Nat) (t ty e : TypeId) (i : TypeInfo) (z : Value) (size bytes : Nat) (ht : P.underlying t = some (.slice e)) (hi : P.info? e = some i) (hz : i.zero = some z)
    (hsize : i.size = size) (hby : i.bytes = bytes) (hzs : z.cells.size = size)
    (b : Addr) (n : Nat) (xs : List Value) (hxl : xs.length = n * size) (hxs : ∀ j u, xs[j]? = some u → w.cell? (b.add j) = some u)
    (a : Addr) (m c : Nat) (news : List Value) (hl : news.length = m * size) (hnews : ∀ j u, news[j]? = some u → w.cell? (a.add j) = some u) (hm : 0 < m)
    (h63 : n + m ≤ maxLen) (hbytes : (n + m) * bytes ≤ 140737488355328) (hbase : base ≤ w.heap.size) :
    ∃ v' w', (Builtin.append_ #[t, t] ty #[.slice (some b) n n, .slice (some a) m c]).run P w = .ok v' w' ∧ w'.ownsRow base e size v' (n + m) (xs ++ news) ∧ w.grownBy w' none := by
  subst hsize
  subst hby
  have hsmall : n + m ≤ 9223372036854775807 := by simp only [maxLen] at h63; omega
  have hlen : (xs ++ news).length = (n + m) * i.size := by rw [List.length_append, hxl, hl, Nat.add_mul]
  have hr := run_append_grow (P := P) w t ty e i z ht hi hz b n n xs hxl hxs a m c news hl hnews (by omega) (by omega) (growslice_fits (by omega) hbytes)
  have hge := grownCap_ge w (n + m) n e
  have hcm : grownCap w (n + m) n e ≤ maxLen := grownCap_le_maxLen w (n + m) n e h63
  refine ⟨_, _, hr, ⟨hlen, .inr ⟨w.heap.size, _, _, rfl, hbase, heap_alloc_new w.drew _, hge, hcm, ?_, ?_⟩⟩, ⟨rfl, rfl, rfl, by simp, fun k hk _ => Below.heap_alloc w.drew _ k hk⟩⟩
  · simp only [Array.size_append, List.size_toArray, size_zeroCells, hzs, hxl, hl, ← Nat.add_mul]
    congr 1
    omega
  · simp only [Array.toList_append, List.append_assoc]
    rw [← List.append_assoc, ← hlen]
    exact List.take_left
theorem step_append_full {ops : Array Oper} {o : Oper} {a : Act} {K : Act → World → Prop} {Q : Exit → Act → World → Prop} {E : Prop} (hgd : o.guard = none) (s x : Operand) (t : TypeId)
    (ho : o.op = .call { callee := .builtin .append, args := #[s, x], argTypes := #[t, t] })
    (base : Nat) (e : TypeId) (i : TypeInfo) (z : Value) (size bytes : Nat) (ht : P.underlying t = some (.slice e)) (hi : P.info? e = some i) (hz : i.zero = some z)
    (hsize : i.size = size) (hby : i.bytes = bytes) (hzs : z.cells.size = size)
    (b : Addr) (n : Nat) (xs : List Value) (hs : a.eval s = .slice (some b) n n) (hxl : xs.length = n * size) (hxs : ∀ j u, xs[j]? = some u → w.cell? (b.add j) = some u)
    (ad : Addr) (m c : Nat) (news : List Value) (hx : a.eval x = .slice (some ad) m c) (hl : news.length = m * size) (hnews : ∀ j u, news[j]? = some u → w.cell? (ad.add j) = some u) (hm : 0 < m)
    (h63 : n + m ≤ maxLen) (hbytes : (n + m) * bytes ≤ 140737488355328) (hbase : base ≤ w.heap.size)
    (h : ∀ v' w', w'.ownsRow base e size v' (n + m) (xs ++ news) → w.grownBy w' none → K (a.put o.dst v') w') :
    if Region.wanted o (yielded ops a.tmps) = true then Oper.wp P o a w K Q else E := by
  have hw : Region.wanted o (yielded ops a.tmps) = true := by simp [Region.wanted, hgd]
  rw [if_pos hw]
  obtain ⟨v', w', hr, h2, h3⟩ := run_append_full (P := P) w base t o.type e i z size bytes ht hi hz hsize hby hzs b n xs hxl hxs ad m c news hl hnews hm h63 hbytes hbase
  unfold Oper.wp execOp
  simp only [ho, resolve, invoke, builtin, Sem.run_bind, Sem.run_pure, Result.andThen_ok, List.map_toArray, List.map_cons, List.map_nil, hs, hx, hr]
  exact h v' w' h2 h3
theorem step_append_at {ops : Array Oper} {o : Oper} {a : Act} {K : Act → World → Prop} {Q : Exit → Act → World → Prop} {E : Prop} (hgd : o.guard = none) (s x : Operand) (t : TypeId)
    (ho : o.op = .call { callee := .builtin .append, args := #[s, x], argTypes := #[t, t] })
    (base : Nat) (e : TypeId) (i : TypeInfo) (z : Value) (size bytes : Nat) (ht : P.underlying t = some (.slice e)) (hi : P.info? e = some i) (hz : i.zero = some z)
    (hsize : i.size = size) (hby : i.bytes = bytes) (hzs : z.cells.size = size) (hsz : 0 < size)
    (v : Value) (n : Nat) (xs : List Value) (hs : a.eval s = v) (hown : w.ownsRow base e size v n xs)
    (ad : Addr) (m c : Nat) (news : List Value) (hx : a.eval x = .slice (some ad) m c) (hl : news.length = m * size) (hnews : ∀ j u, news[j]? = some u → w.cell? (ad.add j) = some u) (h1 : ∀ u ∈ news, u.oneCell' = true)
    (h63 : n + m ≤ maxLen) (hbytes : (n + m) * bytes ≤ 140737488355328) (hbase : base ≤ w.heap.size)
    (h : ∀ v' w', w'.ownsRow base e size v' (n + m) (xs ++ news) → w.grownBy w' v.ownBlock → (v'.ownBlock = v.ownBlock ∨ v'.ownBlock = some w.heap.size) → K (a.put o.dst v') w') :
    if Region.wanted o (yielded ops a.tmps) = true then Oper.wp P o a w K Q else E := by
  have hw : Region.wanted o (yielded ops a.tmps) = true := by simp [Region.wanted, hgd]
  rw [if_pos hw]
  obtain ⟨v', w', hr, h2, h3, _, h5⟩ := run_append_own_at (P := P) w base t o.type e i z size bytes ht hi hz hsize hby hzs hsz v n xs hown ad m c news hl hnews h1 h63 hbytes hbase
  unfold Oper.wp execOp
  simp only [ho, resolve, invoke, builtin, Sem.run_bind, Sem.run_pure, Result.andThen_ok, List.map_toArray, List.map_cons, List.map_nil, hs, hx, hr]
  exact h v' w' h2 h3 h5
end
end Go.Proofs.YtakgcdefbbgdaaaGreatDoor
namespace Go.Proofs.YtakgcdefbbgdaaaGreatDoor
open Go.RowKit
set_option linter.unusedVariables false
set_option linter.unusedSimpArgs false

theorem posP_zero {l : List UInt8} (h : posPErr l ≠ 0) : posPLat l = 0 ∧ posPLon l = 0 := by
  unfold posPLat posPLon; rw [if_neg h, if_neg h]; exact ⟨rfl, rfl⟩
def PosSPost (s : Sc) (g : Nat) (w : World) (e : Ending) (w' : World) : Prop :=
  e = .returned (.agg #[.int .i64 (s.tv 0 posPLat), .int .i64 (s.tv 0 posPLon)]) ∧ ScPost (s.tk posPErr) g w w'
theorem PosSPost.mk {s : Sc} {g : Nat} {w w' : World} {a b : Int} (h1 : s.tv 0 posPLat = a) (h2 : s.tv 0 posPLon = b) (h : ScPost (s.tk posPErr) g w w') : PosSPost s g w (.returned (.agg #[.int .i64 a, .int .i64 b])) w' := by
  unfold PosSPost; rw [h1, h2]; exact ⟨rfl, h⟩
/-- a block of the call's own, behind a scanner's -/
def OwnB (w : World) (b : Nat) (x y : Int) (T : TypeId) : Prop := w.heap[b]? = some (.cells #[.int .i64 x, .int .i64 y] T (0, 0))
theorem OwnB.facts {w : World} {b : Nat} {x y : Int} {T : TypeId} (h : OwnB w b x y T) : w.cell? ⟨b, 0, none⟩ = some (.int .i64 x) ∧ w.cell? ⟨b, 1, none⟩ = some (.int .i64 y) ∧ w.frozen? ⟨b, 0, none⟩ = false ∧ w.frozen? ⟨b, 1, none⟩ = false ∧ b < w.heap.size :=
  ⟨blkCell h 0 rfl, blkCell h 1 rfl, blkFree h 0, blkFree h 1, (Array.getElem?_eq_some_iff.1 h).1⟩
theorem OwnB.off {w w' : World} {g b : Nat} {x y : Int} {T : TypeId} (h : OwnB w b x y T) (ho : Off g w w') (hb : b ≠ g) : OwnB w' b x y T :=
  (ho.block b (Array.getElem?_eq_some_iff.1 h).1 (by intro e; injection e with e; exact hb e)).trans h
set_option maxRecDepth 100000 in
set_option maxHeartbeats 1000000 in
theorem takenPos_any (s : Sc) (g : Nat) (w : World) (hts : s.text.length ≤ 140737488351232) (h : ScP w g s) :
    Calls Tryz.prog 152 #[.pointer (some ⟨g, 0, none⟩), .func (.func 153) #[] #[]] w (PosSPost s g w) := by
  have hgs := h.lt
  have H : Hid (ScP ((w.alloc (.cells #[.int .i64 0, .int .i64 0] 24)).alloc (.cells #[.int .i64 0, .int .i64 0] 24)) g s) := (h.alloc _).alloc _
  have O1 : OwnB ((w.alloc (.cells #[.int .i64 0, .int .i64 0] 24)).alloc (.cells #[.int .i64 0, .int .i64 0] 24)) w.heap.size 0 0 24 :=
    (((Below.refl _ _).alloc (Nat.le_refl _) _).block w.heap.size (by simp)).trans (heap_alloc_new w _)
  have O2 : OwnB ((w.alloc (.cells #[.int .i64 0, .int .i64 0] 24)).alloc (.cells #[.int .i64 0, .int .i64 0] 24)) (w.heap.size + 1) 0 0 24 := by
    have := heap_alloc_new (w.alloc (.cells #[.int .i64 0, .int .i64 0] 24)) (.cells #[.int .i64 0, .int .i64 0] 24)
    rw [show (w.alloc (.cells #[.int .i64 0, .int .i64 0] 24)).heap.size = w.heap.size + 1 by simp] at this
    exact this
  have HOFF : Hid (Off g w ((w.alloc (.cells #[.int .i64 0, .int .i64 0] 24)).alloc (.cells #[.int .i64 0, .int .i64 0] 24))) := ((Off.refl g w).alloc _).alloc _
  have HO1 := Lib.hid O1
  have HO2 := Lib.hid O2
  clear h O1 O2
  cases hg : s.got
  · have HG := Lib.hid hg
    have HF1 := Lib.hid (Sc.tv_no hg (0 : Int) posPLat)
    have HF2 := Lib.hid (Sc.tv_no hg (0 : Int) posPLon)
    have HF3 := Lib.hid (Sc.tk_no hg posPErr)
    clear hg
    go_enter Tryz.func152, Tryz.ntmps152
    go_wp2_with fail
    refine (take_any s g _ H.out).mono ?_
    rintro e w1 ⟨rfl, hp⟩
    rw [HG.out]
    have HP := Lib.hid hp
    obtain ⟨k0, k1, k2, k3, k4⟩ := (HO1.out.off hp.2 (by omega)).facts
    obtain ⟨l0, l1, l2, l3, l4⟩ := (HO2.out.off hp.2 (by omega)).facts
    have HFIN : Hid (ScPost s.take g w ((w1.setCell ⟨w.heap.size, 0, none⟩ (.int .i64 0)).setCell ⟨w.heap.size, 1, none⟩ (.int .i64 0))) :=
      ⟨(hp.1.setNew hgs _).setNew hgs _, ((HOFF.out.trans hp.2).setNew (Nat.le_refl _) _ _).setNew (Nat.le_refl _) _ _⟩
    clear hp
    go_wp2
    exact bodyPost_ret (v := .agg #[.int .i64 0, .int .i64 0]) (by simp [results, Tryz.results152, go_sem, k0, k1, k4]) rfl (PosSPost.mk HF1.out HF2.out (by rw [HF3.out]; exact HFIN.out))
  · have HG := Lib.hid hg
    have HF1 := Lib.hid (Sc.tv_got hg (0 : Int) posPLat)
    have HF2 := Lib.hid (Sc.tv_got hg (0 : Int) posPLon)
    have HF3 := Lib.hid (Sc.tk_got hg posPErr)
    obtain ⟨t, ht⟩ : ∃ t, s.text = t := ⟨_, rfl⟩
    have hsz := text_size hts
    rw [ht] at HF1 HF2 HF3 hsz
    have HT := Lib.hid ht
    have HSZ := Lib.hid hsz
    clear hg ht hts hsz
    go_enter Tryz.func152, Tryz.ntmps152
    go_wp2_with fail
    refine (take_any s g _ H.out).mono ?_
    rintro e w1 ⟨rfl, hp⟩
    rw [HG.out, HT.out]
    have HP := Lib.hid hp
    clear hp
    go_wp2_with fail
    refine (parsePos_any (sb t) _ (by have := HSZ.out; unfold maxLen; omega)).mono ?_
    rintro e w2 ⟨rfl, hb2⟩
    rw [bl_sb]
    have HP2 := Lib.hid (HP.out.then_ hb2)
    have z2 : w.heap.size + 2 ≤ w2.heap.size := by have := HP2.out.2.size; simp at this; omega
    obtain ⟨x, hx⟩ : ∃ x, posPLat t = x := ⟨_, rfl⟩
    obtain ⟨y, hy⟩ : ∃ x, posPLon t = x := ⟨_, rfl⟩
    obtain ⟨er, her⟩ : ∃ x, posPErr t = x := ⟨_, rfl⟩
    have hz : er ≠ 0 → x = 0 ∧ y = 0 := by rw [← her, ← hx, ← hy]; exact posP_zero
    rw [hx] at HF1
    rw [hy] at HF2
    rw [her] at HF3
    rw [hx, hy, her]
    clear hx hy her
    have Q1 := Lib.hid (HO1.out.off HP2.out.2 (by omega))
    have Q2 := Lib.hid (HO2.out.off HP2.out.2 (by omega))
    obtain ⟨k0, k1, k2, k3, k4⟩ := Q1.out.facts
    obtain ⟨l0, l1, l2, l3, l4⟩ := Q2.out.facts
    have c3 := HP2.out.1.c3
    have hg2 := HP2.out.1.lt
    by_cases h0 : er = 0
    · have e1 : (er != 0) = false := bne_eq_false_iff_eq.2 h0
      have HE : Hid (s.tk posPErr = s.take) := by unfold Hid; rw [HF3.out, h0, Sc.note_zero]
      have HFIN : Hid (ScPost s.take g w (((w2.setCell ⟨w.heap.size, 0, none⟩ (.int .i64 x)).setCell ⟨w.heap.size, 1, none⟩ (.int .i64 y)).alloc (.cells #[.int .i64 x, .int .i64 y] 24))) :=
        ⟨((HP2.out.1.setNew hgs _).setNew hgs _).alloc _, (((HOFF.out.trans HP2.out.2).setNew (Nat.le_refl _) _ _).setNew (Nat.le_refl _) _ _).alloc _⟩
      clear h0 hz hb2
      go_wp2
      exact bodyPost_ret (v := .agg #[.int .i64 x, .int .i64 y]) (by simp [results, Tryz.results152, go_sem, k0, k1, k4]) rfl (PosSPost.mk HF1.out HF2.out (by rw [HE.out]; exact HFIN.out))
    · have e1 : (er != 0) = true := bne_iff_ne.2 h0
      obtain ⟨rfl, rfl⟩ := hz h0
      clear h0 hz hb2
      go_wp2_with fail
      refine (note_any s.take s.take.la er g _ (HP2.out.1.alloc _)).mono ?_
      rintro e w3 ⟨rfl, hp⟩
      have HP3 := Lib.hid hp
      have HO3 : Hid (Off g w2 w3) := ((Off.refl g w2).alloc _).trans hp.2
      clear k0 k1 k2 k3 k4 l0 l1 l2 l3 l4 hp
      obtain ⟨k0, k1, k2, k3, k4⟩ := (Q1.out.off HO3.out (by omega)).facts
      obtain ⟨l0, l1, l2, l3, l4⟩ := (Q2.out.off HO3.out (by omega)).facts
      have HFIN : Hid (ScPost (s.tk posPErr) g w ((w3.setCell ⟨w.heap.size, 0, none⟩ (.int .i64 0)).setCell ⟨w.heap.size, 1, none⟩ (.int .i64 0))) := by
        unfold Hid
        rw [HF3.out]
        exact ⟨(HP3.out.1.setNew hgs _).setNew hgs _, (((HOFF.out.trans HP2.out.2).trans HO3.out).setNew (Nat.le_refl _) _ _).setNew (Nat.le_refl _) _ _⟩
      go_wp2
      exact bodyPost_ret (v := .agg #[.int .i64 0, .int .i64 0]) (by simp [results, Tryz.results152, go_sem, k0, k1, k4]) rfl (PosSPost.mk HF1.out HF2.out HFIN.out)
set_option maxHeartbeats 1000000 in
theorem posS_any (s : Sc) (g : Nat) (w : World) (hts : s.text.length ≤ 140737488351232) (h : ScP w g s) :
    Calls Tryz.prog 100 #[.pointer (some ⟨g, 0, none⟩)] w (PosSPost s g w) := by
  have H : Hid (ScP (w.alloc (.cells #[.int .i64 0, .int .i64 0] 24)) g s) := h.alloc _
  have O1 : Hid (OwnB (w.alloc (.cells #[.int .i64 0, .int .i64 0] 24)) w.heap.size 0 0 24) := heap_alloc_new w _
  have HOFF : Hid (Off g w (w.alloc (.cells #[.int .i64 0, .int .i64 0] 24))) := (Off.refl g w).alloc _
  have hgs := h.lt
  obtain ⟨x, hx⟩ : ∃ x, s.tv 0 posPLat = x := ⟨_, rfl⟩
  obtain ⟨y, hy⟩ : ∃ x, s.tv 0 posPLon = x := ⟨_, rfl⟩
  have HX := Lib.hid hx
  have HY := Lib.hid hy
  clear h hx hy
  go_enter Tryz.func100, Tryz.ntmps100
  go_wp2_with fail
  refine (takenPos_any s g _ hts H.out).mono ?_
  rintro e w1 ⟨rfl, hp⟩
  rw [HX.out, HY.out]
  obtain ⟨k0, k1, k2, k3, k4⟩ := (O1.out.off hp.2 (by omega)).facts
  have HFIN : Hid (ScPost (s.tk posPErr) g w ((w1.setCell ⟨w.heap.size, 0, none⟩ (.int .i64 x)).setCell ⟨w.heap.size, 1, none⟩ (.int .i64 y))) :=
    ⟨(hp.1.setNew hgs _).setNew hgs _, ((HOFF.out.trans hp.2).setNew (Nat.le_refl _) _ _).setNew (Nat.le_refl _) _ _⟩
  clear hp
  go_wp2
  exact bodyPost_ret (v := .agg #[.int .i64 x, .int .i64 y]) (by simp [results, Tryz.results100, go_sem, k0, k1, k4]) rfl (PosSPost.mk HX.out HY.out HFIN.out)
end Go.Proofs.YtakgcdefbbgdaaaGreatDoor
