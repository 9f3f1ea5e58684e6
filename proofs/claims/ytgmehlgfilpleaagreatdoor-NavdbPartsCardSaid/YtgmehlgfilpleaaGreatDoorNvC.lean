/-
  The compiler of navigation databases in memory; contract: a diagnostic is noted (fail).
-/
import Derived.Test.YtgmehlgfilpleaaGreatDoorNvJ
import Derived.Test.YtgmehlgfilpleaaGreatDoorTakT
import Derived.Deep.RegionLaw
namespace Go.Proofs.YtgmehlgfilpleaaGreatDoor
open Go.RowKit
set_option linter.unusedVariables false
set_option linter.unusedSimpArgs false
abbrev DgI := Int × Int × Int
def dicells (l : List DgI) : List Value := l.flatMap fun d => [.int .i64 d.1, .int .i64 d.2.1, .int .i64 d.2.2]
theorem dicells_snoc (l : List DgI) (d : DgI) : dicells (l ++ [d]) = dicells l ++ [.int .i64 d.1, .int .i64 d.2.1, .int .i64 d.2.2] := by
  unfold dicells; rw [List.flatMap_append]; rfl
/-- an element of a source: a fix or an airway -/
structure El where
  kd : Nat
  x : Ln
  fx : Fx
  nm : List UInt8
  pts : List Pt
  vias : List Ln
/-- where an element's parts lie -/
structure EV where
  fv : Value
  pv : Value
  vv : Value
def elc (p : El × EV) : List Value := [.int .u8 (p.1.kd : Int), .int .i64 p.1.x.1, p.2.fv, .string (sb p.1.fx.id), .string (sb p.1.fx.rg), .int .u8 (p.1.fx.kd : Int), .int .i64 p.1.fx.lat, .int .i64 p.1.fx.lon, .int .i64 p.1.fx.el, .int .i64 p.1.fx.ra,
  .string (sb p.1.nm), p.2.pv, p.2.vv, .string ⟨#[]⟩, .string ⟨#[]⟩, .int .u8 0, .slice none 0 0, .slice none 0 0, .slice none 0 0]
def elcells (L : List (El × EV)) : List Value := L.flatMap elc
theorem elcells_snoc (L : List (El × EV)) (p : El × EV) : elcells (L ++ [p]) = elcells L ++ elc p := by
  unfold elcells; rw [List.flatMap_append]; simp
theorem elcells_at (l : List (El × EV)) : ∀ (k : Nat) (h : k < l.length) (j : Nat), j < 19 → (elcells l)[k * 19 + j]? = (elc l[k])[j]? := by
  induction l with
  | nil => intro k h; simp at h
  | cons p l ih =>
    intro k h j hj
    show (elc p ++ elcells l)[k * 19 + j]? = _
    have hl : (elc p).length = 19 := rfl
    cases k with
    | zero => rw [Nat.zero_mul, Nat.zero_add, List.getElem?_append_left (by omega)]; rfl
    | succ k =>
      rw [List.getElem?_append_right (by omega), hl, show (k + 1) * 19 + j - 19 = k * 19 + j by omega]
      exact ih k (by simpa using h) j hj
structure Cp where
  bad : List DgI
  nm : List UInt8
  cy : Int
  fr : Int
  tu : Int
  la : Int
  lo : Int
  all : List El
  aw : Bool
  pr : Bool
  pt : Bool
def cpC (lv bv av : Value) (s : Cp) : Array Value := #[lv, bv, .string (sb s.nm), .int .i64 s.cy, .int .i64 s.fr, .int .i64 s.tu, .int .i64 s.la, .int .i64 s.lo, av, .bool s.aw, .bool s.pr, .bool s.pt]
/-- an element's parts, in memory -/
structure ElIn (w0 w : World) (p : El × EV) : Prop where
  f : FsR w0 w0.heap.size p.2.fv p.1.x.2
  v : LnsR w0 p.2.vv p.1.vias
  ps : RdT w 53 4 p.2.pv p.1.pts.length (ptcells p.1.pts)
  f0 : 0 < p.1.x.2.length
  nz : p.1.nm.length ≤ 140737488351232
  pz : ∀ q ∈ p.1.pts, q.ref.length ≤ maxLen ∧ q.dir < 256
  xz : p.1.fx.id.length ≤ 1000000000000000 ∧ p.1.fx.rg.length ≤ 1000000000000000
structure CpR (w0 : World) (B : Nat) (lv : Value) (s : Cp) (bv av : Value) (L : List (El × EV)) (w : World) : Prop where
  bx : Bx w0.heap.size (cpC lv bv av s) 180 w
  bad : w.ownsRow B 89 3 bv s.bad.length (dicells s.bad)
  all : RdT w 187 19 av s.all.length (elcells L)
  eq : L.map (·.1) = s.all
  be : Below w0.heap.size w0 w
  el : ∀ p ∈ L, ElIn w0 w p
  lo : w0.heap.size < B
  hi : B ≤ w.heap.size
theorem ElIn.below {w0 w w' : World} {p : El × EV} (h : ElIn w0 w p) (hb : Below w.heap.size w w') : ElIn w0 w' p := ⟨h.f, h.v, h.ps.below hb, h.f0, h.nz, h.pz, h.xz⟩
theorem CpR.below {w0 : World} {B : Nat} {lv : Value} {s : Cp} {bv av : Value} {L : List (El × EV)} {w w' : World} (h : CpR w0 B lv s bv av L w) (hb : Below w.heap.size w w') : CpR w0 B lv s bv av L w' :=
  ⟨h.bx.via hb, own_below h.bad hb, h.all.below hb, h.eq, Below.then_ h.be hb, fun p hp => (h.el p hp).below hb, h.lo, Nat.le_trans h.hi hb.size⟩
theorem CpR.lt {w0 : World} {B : Nat} {lv : Value} {s : Cp} {bv av : Value} {L : List (El × EV)} {w : World} (h : CpR w0 B lv s bv av L w) : w0.heap.size < w.heap.size := h.bx.lt
def Cp.fail (s : Cp) (x : Ln) (e : Int) : Cp := if e = 0 then s else { s with bad := s.bad ++ [(x.1, (fld x.2 0).2, e)] }
/-- what a note of a diagnostic may touch -/
def SBad (w0 : World) (bv : Value) (k : Nat) : Prop := k = w0.heap.size ∨ bv.ownBlock = some k
theorem SBad.map {w0 : World} {B : Nat} {bv : Value} {w : World} {lv : Value} {s : Cp} {av : Value} {L : List (El × EV)} (h : CpR w0 B lv s bv av L w) {b : Nat} {es c} (hb : w.heap[b]? = some (.map es c)) : ¬ SBad w0 bv b := by
  rintro (h1 | h1)
  · rw [h1, h.bx] at hb; cases hb
  · obtain ⟨cur, e', z, hh, _⟩ := own_block h.bad b h1
    rw [hh] at hb; cases hb
theorem SBad.mapF {w0 : World} {B : Nat} {bv : Value} {w : World} {lv : Value} {s : Cp} {av : Value} {L : List (El × EV)} (h : CpR w0 B lv s bv av L w) {β : Type} {e : Elm β} {b n : Nat} {m : List UInt8 → Option β} (hm : MapF e w b n m) : ¬ SBad w0 bv b := by
  obtain ⟨D, ⟨es, clock, hbk, r⟩, k⟩ := hm
  exact SBad.map h hbk
theorem SBad.cells {w0 : World} {B : Nat} {bv : Value} {w : World} {lv : Value} {s : Cp} {av : Value} {L : List (El × EV)} (h : CpR w0 B lv s bv av L w) {b : Nat} {cs z} {t : TypeId} (hb : w.heap[b]? = some (.cells cs t z)) (h1 : t ≠ 180) (h2 : t ≠ 89) : ¬ SBad w0 bv b := by
  rintro (h3 | h3)
  · rw [h3, h.bx] at hb
    injection hb with hb
    injection hb with _ ht
    exact h1 ht.symm
  · obtain ⟨cur, e', z', hh, he⟩ := own_block h.bad b h3
    rw [hh] at hb
    injection hb with hb
    injection hb with _ ht
    exact h2 (by rw [← ht, he])
theorem RdT.frm {S : Nat → Prop} {w w' : World} {e : TypeId} {size n : Nat} {v : Value} {xs : List Value} (h : RdT w e size v n xs) (hf : Frm S w w') (hr : ∀ k cur z, w.heap[k]? = some (.cells cur e z) → ¬ S k) : RdT w' e size v n xs := by
  obtain ⟨⟨hl, A, c, hv, hc, hm, hx⟩, h2⟩ := h
  refine ⟨⟨hl, A, c, hv, hc, hm, fun hn => ?_⟩, ?_⟩
  · obtain ⟨g, o, hA, hgl, hcell⟩ := hx hn
    rcases h2 with h0 | ⟨g', o', c', cur, z, hv', hh⟩
    · omega
    · have hg' : g = g' := by
        rw [hv, hA] at hv'
        injection hv' with ha
        injection ha with ha
        injection ha
      subst hg'
      have hs := hf.block g hgl (hr _ _ _ hh)
      exact ⟨g, o, hA, Nat.lt_of_lt_of_le hgl hf.size, fun j u hu => (World.cell?_of_block (w := w) (a := ⟨g, o + j, none⟩) hs).trans (hcell j u hu)⟩
  · rcases h2 with h0 | ⟨g', o', c', cur, z, hv', hh⟩
    · exact .inl h0
    · exact .inr ⟨g', o', c', cur, z, hv', (hf.block g' (heap_lt hh) (hr _ _ _ hh)).trans hh⟩
theorem own_frm {S : Nat → Prop} {base : Nat} {w w' : World} {e : TypeId} {size n : Nat} {v : Value} {xs : List Value} (h : w.ownsRow base e size v n xs) (hf : Frm S w w') (hr : ∀ k cur z, w.heap[k]? = some (.cells cur e z) → ¬ S k) : w'.ownsRow base e size v n xs := by
  obtain ⟨hl, h2 | ⟨g, cap, cur, hv, hg, hh, r⟩⟩ := h
  · exact ⟨hl, .inl h2⟩
  · exact ⟨hl, .inr ⟨g, cap, cur, hv, hg, (hf.block g (heap_lt hh) (hr _ _ _ hh)).trans hh, r⟩⟩
theorem ElIn.frm {S : Nat → Prop} {w0 w w' : World} {p : El × EV} (h : ElIn w0 w p) (hf : Frm S w w') (hr : ∀ k cur z, w.heap[k]? = some (.cells cur 53 z) → ¬ S k) : ElIn w0 w' p := ⟨h.f, h.v, h.ps.frm hf hr, h.f0, h.nz, h.pz, h.xz⟩
/-- a diagnostic more -/
theorem CpR.push {w0 : World} {B : Nat} {lv : Value} {s s' : Cp} {bv av v' : Value} {L : List (El × EV)} {w wa w3 : World} {a b c : Int} (h : CpR w0 B lv s bv av L w) (hba : Below w.heap.size w wa)
    (hown : w3.ownsRow B 89 3 v' (s.bad.length + 1) (dicells s.bad ++ [.int .i64 a, .int .i64 b, .int .i64 c])) (hg : wa.grownBy w3 bv.ownBlock) (hs : s' = { s with bad := s.bad ++ [(a, b, c)] }) :
    CpR w0 B lv s' v' av L (w3.setCell ⟨w0.heap.size, 1, none⟩ v') ∧ Frm (SBad w0 bv) w (w3.setCell ⟨w0.heap.size, 1, none⟩ v') := by
  have hlt := h.bad.lt
  have l0 := h.lt
  have lo := h.lo
  have hsz := hba.size
  have hA := h.below hba
  have hoth : ∀ k, k ≠ w0.heap.size → (w3.setCell ⟨w0.heap.size, 1, none⟩ v').heap[k]? = w3.heap[k]? := fun k hk => heap_setCell_other w3 ⟨w0.heap.size, 1, none⟩ k v' (fun e => hk (by simpa using e))
  have hkeep : ∀ k, k < wa.heap.size → bv.ownBlock ≠ some k → w3.heap[k]? = wa.heap[k]? := fun k hk hk2 => hg.block k hk (by intro e; exact hk2 e.symm)
  have hn0 : bv.ownBlock ≠ some w0.heap.size := fun e => by have := (hlt _ e).1; omega
  have F : Frm (SBad w0 bv) w (w3.setCell ⟨w0.heap.size, 1, none⟩ v') := by
    refine ⟨hg.os.trans hba.os, hg.tape.trans hba.tape, hg.output.trans hba.output, by simp; have := hg.size; omega, fun k hk hn => ?_⟩
    have h1 : k ≠ w0.heap.size := fun e => hn (.inl e)
    have h2 : bv.ownBlock ≠ some k := fun e => hn (.inr e)
    exact (hoth k h1).trans ((hkeep k (by omega) h2).trans (hba.block k hk))
  subst hs
  refine ⟨⟨?_, ?_, h.all.frm F (fun k cur z hh => SBad.cells h hh (by decide) (by decide)), h.eq, F.below (by omega) (fun k hk => ?_) |> fun hb => Below.trans h.be hb, fun p hp => (h.el p hp).frm F (fun k cur z hh => SBad.cells h hh (by decide) (by decide)), lo, Nat.le_trans h.hi F.size⟩, F⟩
  · exact ((hkeep _ (by omega) hn0).trans hA.bx : w3.heap[w0.heap.size]? = _) |> fun e => heap_setCell_same w3 w0.heap.size 1 _ _ _ e
  · have e : ({ s with bad := s.bad ++ [(a, b, c)] } : Cp).bad.length = s.bad.length + 1 := by simp
    rw [e, show ({ s with bad := s.bad ++ [(a, b, c)] } : Cp).bad = s.bad ++ [(a, b, c)] from rfl, dicells_snoc]
    exact own_set hown lo v'
  · rcases hk with rfl | hk
    · exact Nat.le_refl _
    · have := (hlt _ hk).1; omega
set_option maxRecDepth 100000 in
set_option maxHeartbeats 4000000 in
theorem fail_any (w0 : World) (B : Nat) (lv : Value) (s : Cp) (bv av : Value) (L : List (El × EV)) (x : Ln) (fv : Value) (er : Int) (w : World) (h : CpR w0 B lv s bv av L w) (hf : FsR w0 w0.heap.size fv x.2) (h0 : 0 < x.2.length) (hn : s.bad.length ≤ 1000000000) :
    Calls Tryz.prog 189 #[.pointer (some ⟨w0.heap.size, 0, none⟩), .agg #[.int .i64 x.1, fv], .int .i64 er] w
      fun e w' => e = .returned (.tuple #[]) ∧ ∃ bv', CpR w0 B lv (s.fail x er) bv' av L w' ∧ Frm (SBad w0 bv) w w' ∧ (er = 0 → bv' = bv) := by
  obtain ⟨ip, hip, hz0, hz1, hz2⟩ := info_parts infoDiag
  obtain ⟨gb, go, gc, rfl, hgb, y0, y1, _⟩ := hf.at_ (k := 0) h0
  simp only [Nat.zero_mul, Nat.add_zero, Nat.zero_add] at y0 y1
  obtain ⟨m, hm⟩ : ∃ m, x.2.length = m := ⟨_, rfl⟩
  rw [hm] at h0 ⊢
  have hmi : (0 : Int) < (m : Int) := by omega
  obtain ⟨col, hcol⟩ : ∃ c, (fld x.2 0).2 = c := ⟨_, rfl⟩
  have HCOL := Lib.hid hcol
  rw [hcol] at y1
  have H := Lib.hid h
  have hlt := h.lt
  clear hf hm hcol y0
  by_cases he : er = 0
  · subst he
    have e0 : ((0 : Int) != 0) = false := rfl
    clear hip hz0 hz1 hz2
    go_enter Tryz.func189, Tryz.ntmps189
    go_wp2
    go_end0
    have hb : Below w.heap.size w (w.alloc (.cells #[.int .i64 x.1, .slice (some ⟨gb, go, none⟩) m gc] 184)) := (Below.refl _ _).alloc (Nat.le_refl _) _
    exact ⟨rfl, bv, by unfold Cp.fail; rw [if_pos rfl]; exact H.out.below hb, Frm.of_below hb, fun _ => rfl⟩
  · have e0 : (er != 0) = true := bne_iff_ne.2 he
    have HS : Hid (s.fail x er = { s with bad := s.bad ++ [(x.1, col, er)] }) := by unfold Hid Cp.fail; rw [if_neg he, HCOL.out]
    obtain ⟨xn, hxn⟩ : ∃ n, x.1 = n := ⟨_, rfl⟩
    rw [hxn] at HS ⊢
    have HE := Lib.hid he
    clear he hxn HCOL
    obtain ⟨w1, hw1⟩ : ∃ W, w.alloc (.cells #[.int .i64 xn, .slice (some ⟨gb, go, none⟩) m gc] 184) = W := ⟨_, rfl⟩
    have B1 : Hid (Below w.heap.size w w1) := by rw [← hw1]; exact (Below.refl _ _).alloc (Nat.le_refl _) _
    have c0 : w1.cell? ⟨w.heap.size, 0, none⟩ = some (.int .i64 xn) := by rw [← hw1]; simp [go_sem]
    have c1 : w1.cell? ⟨w.heap.size, 1, none⟩ = some (.slice (some ⟨gb, go, none⟩) m gc) := by rw [← hw1]; simp [go_sem]
    have clt : w.heap.size < w1.heap.size := by rw [← hw1]; simp
    have H1 := Lib.hid (H.out.below B1.out)
    have k1 : w1.cell? ⟨gb, go + 1, none⟩ = some (.int .i64 col) := (H1.out.be.cell (p := ⟨gb, go + 1, none⟩) hgb).trans y1
    have klt : gb < w1.heap.size := by omega
    have kv : w1.cell? ⟨w0.heap.size, 1, none⟩ = some bv := H1.out.bx.cell 1 rfl
    have kf : w1.frozen? ⟨w0.heap.size, 1, none⟩ = false := H1.out.bx.free 1
    have kl : w0.heap.size < w1.heap.size := by omega
    have hBs : B ≤ w1.heap.size := H1.out.hi
    have hBlo : w0.heap.size < B := H1.out.lo
    have hown := H1.out.bad
    obtain ⟨Av, cv, rfl, hcv1, hcv2⟩ := (Rd.of_own hown).form
    unfold maxLen at hcv2
    have hlt0 := hown.lt
    have HW1 := Lib.hid hw1
    clear hw1 H y1
    go_enter Tryz.func189, Tryz.ntmps189
    go_upto_region 2 with fail
    rw [HW1.out]
    clear HW1
    have nbw : (Value.slice Av s.bad.length cv).ownBlock ≠ some w0.heap.size := fun h => by have := (hlt0 _ h).1; omega
    have kva := Lib.hid (fun o => (((Below.refl w1.heap.size w1).alloc (Nat.le_refl _) o).drew.cell (p := ⟨w0.heap.size, 1, none⟩) kl).trans kv)
    have kfa := Lib.hid (fun o => (((Below.refl w1.heap.size w1).alloc (Nat.le_refl _) o).drew.frozen (p := ⟨w0.heap.size, 1, none⟩) kl).trans kf)
    have ksz : Hid (∀ o, w0.heap.size < (w1.alloc o).drew.heap.size) := fun o => by show w0.heap.size < (w1.alloc o).heap.size; rw [World.size_alloc]; omega
    go_region_law (
        (refine step_append_lies _ (by rfl) _ _ _ (by rfl) B 89 ip (.agg #[.int .i64 0, .int .i64 0, .int .i64 0]) 3 24 Tryz.underlying85 hip hz0 hz1 hz2 rfl (by omega) (.slice Av s.bad.length cv) s.bad.length (dicells s.bad) (by rfl) (by first | exact (hown.alloc _).drew | exact (hown.drew).alloc _) ⟨w1.heap.size, 0, none⟩ 1 1 [.int .i64 xn, .int .i64 col, .int .i64 er] (by rfl) (by rfl) (World.news_of_block (cs := #[.int .i64 xn, .int .i64 col, .int .i64 er]) (t := 89) (fr := (0, 0)) (heap_alloc_new w1 _)) (by simp [Value.oneCell']) (by omega) (by unfold maxLen; omega) (by omega) (by simp; omega) (w1.heap.size + 1) (by simp) ?_; intro gg cap w3 hown3 hgrow hat hlt3; have kv3 : w3.cell? ⟨w0.heap.size, 1, none⟩ = some (.slice Av s.bad.length cv) := (hgrow.cell_far ⟨w0.heap.size, 1, none⟩ (ksz.out _) (Ne.symm nbw)).trans (kva.out _); have kf3 : w3.frozen? ⟨w0.heap.size, 1, none⟩ = false := (hgrow.frozen_far ⟨w0.heap.size, 1, none⟩ (ksz.out _) (Ne.symm nbw)).trans (kfa.out _)))
    all_goals
      have P := CpR.push (s' := s.fail x er) h ((B1.out.alloc B1.out.size _).drew) hown3 hgrow HS.out
      have HP := Lib.hid P
      clear P hown3 hgrow kv3 kf3
      go_end0
      exact ⟨rfl, _, HP.out.1, HP.out.2, fun e => absurd e HE.out⟩
end Go.Proofs.YtgmehlgfilpleaaGreatDoor
