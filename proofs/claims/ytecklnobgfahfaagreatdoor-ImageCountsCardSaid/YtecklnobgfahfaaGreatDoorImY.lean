/-
  Contract: a section is closed: its tag, its length and its bytes go to the writer of the whole image.
-/
import Derived.Test.YtecklnobgfahfaaGreatDoorMG06
import Derived.Test.YtecklnobgfahfaaGreatDoorImP
import Derived.Deep.RegionLaw
namespace Go.Proofs.YtecklnobgfahfaaGreatDoor
open Go.RowKit
set_option linter.unusedVariables false
set_option linter.unusedSimpArgs false
theorem WrR.below {g B : Nat} {v : Value} {out : List UInt8} {w w' : World} (h : WrR g B v out w) (hb : Below w.heap.size w w') : WrR g B v out w' :=
  ⟨h.bx.via hb, own_below h.own hb, Nat.le_trans h.hi hb.size⟩
/-- a writer beside another one, of which a call is made -/
theorem WrR.beside {g1 B1 g2 B2 : Nat} {v1 v2 v2' : Value} {out1 out2 : List UInt8} {w w' : World} (h : WrR g1 B1 v1 out1 w) (k : WrTo g2 B2 v2 out2 w v2' w') (hg : g1 ≠ g2) (h1 : v2.ownBlock ≠ some g1) (hd : ∀ b, v1.ownBlock = some b → v2.ownBlock ≠ some b ∧ b ≠ g2) : WrR g1 B1 v1 out1 w' := by
  refine ⟨(k.f.block g1 h.bx.lt (fun e => by rcases e with e | e; exact hg e; exact h1 e)).trans h.bx, ?_, Nat.le_trans h.hi k.f.size⟩
  obtain ⟨hl, h2 | ⟨b, cap, cur, hv, hb, hh, r⟩⟩ := h.own
  · exact ⟨hl, .inl h2⟩
  · refine ⟨hl, .inr ⟨b, cap, cur, hv, hb, (k.f.block b (heap_lt hh) (fun e => ?_)).trans hh, r⟩⟩
    obtain ⟨e1, e2⟩ := hd b (by rw [hv]; rfl)
    rcases e with e | e
    · exact e2 e
    · exact e1 e
theorem WrTo.of_below {g B : Nat} {v v' : Value} {out : List UInt8} {w w1 w' : World} (hb : Below w.heap.size w w1) (h : WrTo g B v out w1 v' w') : WrTo g B v out w v' w' :=
  ⟨h.r, (Frm.of_below hb).trans h.f, fun b e => by rcases h.o b e with h1 | h1; exact .inl h1; exact .inr (Nat.le_trans hb.size h1)⟩
theorem sep_to {g1 B1 g2 : Nat} {v1 v2 va : Value} {out1 : List UInt8} {w : World} (h1 : WrR g1 B1 v1 out1 w) (hgo : v2.ownBlock ≠ some g1) (hd : ∀ b, v1.ownBlock = some b → v2.ownBlock ≠ some b ∧ b ≠ g2) (o : ∀ b, va.ownBlock = some b → v2.ownBlock = some b ∨ w.heap.size ≤ b) :
    va.ownBlock ≠ some g1 ∧ ∀ b, v1.ownBlock = some b → va.ownBlock ≠ some b ∧ b ≠ g2 := by
  have hl := h1.bx.lt
  refine ⟨fun e => ?_, fun b hb => ⟨fun e => ?_, (hd b hb).2⟩⟩
  · rcases o _ e with h | h
    · exact hgo h
    · omega
  · have := (h1.own.lt b hb).2
    rcases o _ e with h | h
    · exact (hd b hb).1 h
    · omega
def secB (tag : UInt8) (out : List UInt8) : List UInt8 := ([tag] ++ lowB (out.length : Int) 4) ++ out
set_option maxRecDepth 100000 in
set_option maxHeartbeats 8000000 in
theorem wsectionG_any {g1 B1 g2 B2 : Nat} {v1 v2 : Value} {out1 out2 : List UInt8} (tag : UInt8) (w : World) (h1 : WrR g1 B1 v1 out1 w) (hby : ∀ (ga : Nat) (w0 : World), Below w.heap.size w w0 → BsA w0 ga 0 [tag] → Calls Tryz.prog 21 #[.pointer (some ⟨g2, 0, none⟩), .slice (some ⟨ga, 0, none⟩) 1 1] w0 fun e w' => e = .returned (.tuple #[]) ∧ ∃ v', WrTo g2 B2 v2 (out2 ++ [tag]) w0 v' w') (hg : g1 ≠ g2) (hgo : v2.ownBlock ≠ some g1) (hd : ∀ b, v1.ownBlock = some b → v2.ownBlock ≠ some b ∧ b ≠ g2) (h0 : 0 < out1.length) (hN : out1.length + out2.length ≤ 1000000) :
    Calls Tryz.prog 19 #[.pointer (some ⟨g1, 0, none⟩), .pointer (some ⟨g2, 0, none⟩), .int .u8 (tag.toNat : Int)] w fun e w' => e = .returned (.tuple #[]) ∧ ∃ v2', WrTo g2 B2 v2 (out2 ++ secB tag out1) w v2' w' := by
  obtain ⟨i0, hi, hz0, hz1, hz2⟩ := info_parts infoU8b
  obtain ⟨T, hT⟩ : ∃ T : Nat, tag.toNat = T := ⟨_, rfl⟩
  have HT := Lib.hid hT
  obtain ⟨w0, hw0⟩ : ∃ W, w.alloc (.cells #[.int .u8 (T : Int)] 5) = W := ⟨_, rfl⟩
  have hb0 : Below w.heap.size w w0 := by rw [← hw0]; exact (Below.refl _ _).alloc (Nat.le_refl _) _
  have A0 : BsA w0 w.heap.size 0 [tag] := by
    have hx : Bx w.heap.size #[.int .u8 (T : Int)] 5 w0 := by rw [← hw0]; exact Bx.last _ _ _
    refine ⟨hx.lt, fun j b hb => ?_⟩
    cases j with
    | zero =>
      simp at hb
      subst hb
      have := hx.cell 0 (u := .int .u8 (T : Int)) rfl
      unfold u8c
      rw [hT]
      exact this
    | succ j => simp at hb
  have hbs := hby w.heap.size w0 hb0 A0
  have HBS := Lib.hid hbs
  have H1W := Lib.hid h1
  have HB0 := Lib.hid hb0
  have H1 := Lib.hid (h1.below hb0)
  have HW0 := Lib.hid hw0
  obtain ⟨m, hm⟩ : ∃ m, out1.length = m := ⟨_, rfl⟩
  have HM := Lib.hid hm
  rw [hT]
  rw [hm] at h0 hN
  have HD := Lib.hid hd
  have HGO := Lib.hid hgo
  clear h1 hby hb0 A0 hbs hw0 hT hm hd hgo
  go_enter Tryz.func19, Tryz.ntmps19
  go_wp2_with fail
  rw [HW0.out]
  clear HW0
  refine HBS.out.mono ?_
  rintro e w1 ⟨rfl, va, hta⟩
  have T1 : Hid (WrTo g2 B2 v2 (out2 ++ [tag]) w va w1) := hta.of_below HB0.out
  have S1 : Hid (WrR g1 B1 v1 out1 w1) := H1.out.beside hta hg HGO.out HD.out
  clear HBS hta H1 HB0
  obtain ⟨A1, n1, c1, rfl⟩ := own_form S1.out.own
  obtain rfl : n1 = m := (own_len S1.out.own).trans HM.out
  have k1 := S1.out.bx.cell 0 (u := .slice A1 n1 c1) rfl
  have k1l := S1.out.bx.lt
  have hlw := wlow_any (g := g2) (B := B2) (n1 : Int) 4 (by omega) w1 T1.out.r (by simp; omega)
  have HLW := Lib.hid hlw
  clear hlw
  go_wp2_with fail
  refine HLW.out.mono ?_
  rintro e w2 ⟨rfl, vb, htb⟩
  have T2 := Lib.hid (T1.out.then_ htb)
  have S2 : Hid (WrR g1 B1 (.slice A1 n1 c1) out1 w2) := S1.out.beside htb hg (sep_to H1W.out HGO.out HD.out T1.out.o).1 (sep_to H1W.out HGO.out HD.out T1.out.o).2
  clear HLW htb S1 T1 k1 k1l
  have k1 := S2.out.bx.cell 0 (u := .slice A1 n1 c1) rfl
  have k1l := S2.out.bx.lt
  obtain ⟨g3, o3, hA, hcs⟩ : ∃ g3 o3, A1 = some ⟨g3, o3, none⟩ ∧ ∀ W, Below w2.heap.size w2 W → ∀ j u, (out1.map u8c)[j]? = some u → W.cell? ((⟨g3, o3, none⟩ : Addr).add j) = some u := by
    obtain ⟨_, A', c', hv, hc', hm', hx⟩ := Rd.of_own S2.out.own
    injection hv with e1 e2 e3
    obtain ⟨g3, o3, hA, hgl, hcell⟩ := hx (by rw [HM.out]; exact h0)
    refine ⟨g3, o3, e1.trans hA, fun W hW j u hu => ?_⟩
    have hadd : (⟨g3, o3, none⟩ : Addr).add j = ⟨g3, o3 + j, none⟩ := by unfold Addr.add; split <;> simp_all
    rw [hadd]
    exact (hW.cell (p := ⟨g3, o3 + j, none⟩) hgl).trans (hcell j u hu)
  subst hA
  have HCS := Lib.hid hcs
  obtain ⟨A2, n2, c2, rfl⟩ := own_form T2.out.r.own
  have kv := T2.out.r.bx.cell 0 (u := .slice A2 n2 c2) rfl
  have kf := T2.out.r.bx.free 0
  have kl := T2.out.r.bx.lt
  have hown := T2.out.r.own
  have hlt0 := hown.lt
  have hBz := T2.out.r.hi
  have hBlo := T2.out.r.lo
  have HL2 : Hid ((out1.map u8c).length = n1 * 1) := by unfold Hid; rw [List.length_map, HM.out]; omega
  have HONE := Lib.hid (u8cells_one out1)
  have HLEN : Hid ((out2 ++ [tag] ++ lowB (n1 : Int) 4).length = out2.length + 5) := by unfold Hid; rw [List.length_append, List.length_append, lowB_len]; rfl
  rw [HLEN.out] at hown
  have HOUT : Hid (out2 ++ secB tag out1 = (out2 ++ [tag] ++ lowB (n1 : Int) 4) ++ out1) := by unfold Hid secB; rw [HM.out]; simp
  obtain ⟨L, hL⟩ : ∃ l, (out2 ++ [tag] ++ lowB (n1 : Int) 4).map u8c = l := ⟨_, rfl⟩
  rw [hL] at hown
  have HLL := Lib.hid hL
  have nbw : (Value.slice A2 n2 c2).ownBlock ≠ some g2 := T2.out.r.lo
  have NBW := Lib.hid nbw
  obtain ⟨w3', hw3'⟩ : ∃ W, w2.drew = W := ⟨_, rfl⟩
  have hown2 : w2.drew.ownsRow B2 5 1 (.slice A2 n2 c2) (out2.length + 5) L := hown.drew
  have HX := Lib.hid (hcs w2.drew ((Below.refl _ _).drew))
  have hm6 : n1 ≤ 1000000 := by omega
  clear hcs hL hown hw3'
  go_upto_region 2 with fail
  go_region_law (
    (refine step_append_lies _ (by rfl) _ _ _ (by rfl) B2 5 i0 (.int .u8 0) 1 1 Tryz.underlying33 hi hz0 hz1 hz2 rfl (by omega) (.slice A2 n2 c2) (out2.length + 5) L (by rfl) hown2 ⟨g3, o3, none⟩ n1 c1 (out1.map u8c) (by rfl) HL2.out HX.out HONE.out h0 (by unfold maxLen; omega) (by omega) hBz w2.heap.size (by rfl) ?_; intro gg cap w3 hown3 hgrow hat hlt3; have kv3 : w3.cell? ⟨g2, 0, none⟩ = some (.slice A2 n2 c2) := (hgrow.cell_far ⟨g2, 0, none⟩ kl (Ne.symm NBW.out)).trans kv; have kf3 : w3.frozen? ⟨g2, 0, none⟩ = false := (hgrow.frozen_far ⟨g2, 0, none⟩ kl (Ne.symm NBW.out)).trans kf; have kl3 : g2 < w3.heap.size := Nat.lt_of_lt_of_le kl hgrow.size))
  all_goals
    have T3 : WrTo g2 B2 (.slice A2 n2 c2) ((out2 ++ [tag] ++ lowB (n1 : Int) 4) ++ out1) w2.drew (.slice (some ⟨gg, 0, none⟩) (out2.length + 5 + n1) cap) (w3.setCell ⟨g2, 0, none⟩ (.slice (some ⟨gg, 0, none⟩) (out2.length + 5 + n1) cap)) := by
      refine WrR.push2 (T2.out.r.below ((Below.refl _ _).drew)) ?_ hgrow ?_
      · rw [HLEN.out, HM.out, HLL.out]
        exact hown3
      · intro b hb
        have e : gg = b := by simpa [Value.ownBlock] using hb
        subst e
        rcases hat with h1 | h1
        · exact .inl h1
        · exact .inr (by rw [h1]; exact Nat.le_refl _)
    have T4 := Lib.hid (T2.out.then_ (T3.of_below ((Below.refl _ _).drew)))
    clear T3 hown3 hgrow hat hlt3 hown2 T2 S2 kv kf k1 k1l hlt0 nbw
    go_wp2
    go_end0
    rw [HOUT.out]
    exact ⟨rfl, _, T4.out⟩
theorem wsection_any {g1 B1 g2 B2 : Nat} {v1 v2 : Value} {out1 out2 : List UInt8} (tag : UInt8) (w : World) (h1 : WrR g1 B1 v1 out1 w) (h2 : WrR g2 B2 v2 out2 w) (hg : g1 ≠ g2) (hgo : v2.ownBlock ≠ some g1) (hd : ∀ b, v1.ownBlock = some b → v2.ownBlock ≠ some b ∧ b ≠ g2) (h0 : 0 < out1.length) (hN : out1.length + out2.length ≤ 1000000) :
    Calls Tryz.prog 19 #[.pointer (some ⟨g1, 0, none⟩), .pointer (some ⟨g2, 0, none⟩), .int .u8 (tag.toNat : Int)] w fun e w' => e = .returned (.tuple #[]) ∧ ∃ v2', WrTo g2 B2 v2 (out2 ++ secB tag out1) w v2' w' :=
  wsectionG_any tag w h1 (fun ga w0 hb ha => wbytes_any (g := g2) (B := B2) (v := v2) (out := out2) ga 0 1 [tag] w0 (h2.below hb) ha (by simp) (by simp; omega)) hg hgo hd h0 hN
section
variable {P : Program} (w : World)
theorem run_append_full2 (base : Nat) (t ty e : TypeId) (i : TypeInfo) (z : Value) (size bytes : Nat) (ht : P.underlying t = some (.slice e)) (hi : P.info? e = some i) (hz : i.zero = some z)
    (hsize : i.size = size) (hby : i.bytes = bytes) (hzs : z.cells.size = size)
    (b : Addr) (n : Nat) (xs : List Value) (hxl : xs.length = n * size) (hxs : ∀ j u, xs[j]? = some u → w.cell? (b.add j) = some u)
    (a : Addr) (m c : Nat) (news : List Value) (hl : news.length = m * size) (hnews : ∀ j u, news[j]? = some u → w.cell? (a.add j) = some u) (hm : 0 < m)
    (h63 : n + m ≤ maxLen) (hbytes : (n + m) * bytes ≤ 140737488355328) (hbase : base ≤ w.heap.size) :
    ∃ v' w', (Builtin.append_ #[t, t] ty #[.slice (some b) n n, .slice (some a) m c]).run P w = .ok v' w' ∧ w'.ownsRow base e size v' (n + m) (xs ++ news) ∧ w.grownBy w' none ∧ v'.ownBlock = some w.heap.size := by
  subst hsize
  subst hby
  have hsmall : n + m ≤ 9223372036854775807 := by simp only [maxLen] at h63; omega
  have hlen : (xs ++ news).length = (n + m) * i.size := by rw [List.length_append, hxl, hl, Nat.add_mul]
  have hr := run_append_grow (P := P) w t ty e i z ht hi hz b n n xs hxl hxs a m c news hl hnews (by omega) (by omega) (growslice_fits (by omega) hbytes)
  have hge := grownCap_ge w (n + m) n e
  have hcm : grownCap w (n + m) n e ≤ maxLen := grownCap_le_maxLen w (n + m) n e h63
  refine ⟨_, _, hr, ⟨hlen, .inr ⟨w.heap.size, _, _, rfl, hbase, heap_alloc_new w.drew _, hge, hcm, ?_, ?_⟩⟩, ⟨rfl, rfl, rfl, by simp, fun k hk _ => Below.heap_alloc w.drew _ k hk⟩, rfl⟩
  · simp only [Array.size_append, List.size_toArray, size_zeroCells, hzs, hxl, hl, ← Nat.add_mul]
    congr 1
    omega
  · simp only [Array.toList_append, List.append_assoc]
    rw [← List.append_assoc, ← hlen]
    exact List.take_left
/-- append onto a slice without room, at a plain region's list -/
theorem wpList_append_full {ops : Array Oper} {rest : List Oper} {o : Oper} {a : Act} {Q : Exit → Act → World → Prop} (hgd : o.guard = none) (s x : Operand) (t : TypeId)
    (ho : o.op = .call { callee := .builtin .append, args := #[s, x], argTypes := #[t, t] })
    (base : Nat) (e : TypeId) (i : TypeInfo) (z : Value) (size bytes : Nat) (ht : P.underlying t = some (.slice e)) (hi : P.info? e = some i) (hz : i.zero = some z)
    (hsize : i.size = size) (hby : i.bytes = bytes) (hzs : z.cells.size = size)
    (b : Addr) (n : Nat) (xs : List Value) (hs : a.eval s = .slice (some b) n n) (hxl : xs.length = n * size) (hxs : ∀ j u, xs[j]? = some u → w.cell? (b.add j) = some u)
    (ad : Addr) (m c : Nat) (news : List Value) (hx : a.eval x = .slice (some ad) m c) (hl : news.length = m * size) (hnews : ∀ j u, news[j]? = some u → w.cell? (ad.add j) = some u) (hm : 0 < m)
    (h63 : n + m ≤ maxLen) (hbytes : (n + m) * bytes ≤ 140737488355328) (hbase : base ≤ w.heap.size)
    (h : ∀ v' w', w'.ownsRow base e size v' (n + m) (xs ++ news) → w.grownBy w' none → v'.ownBlock = some w.heap.size → wpList P ops Q rest (a.put o.dst v') w') : wpList P ops Q (o :: rest) a w :=
  wpList_plain hgd fun _ hK => by
    obtain ⟨v', w', hr, h2, h3, h4⟩ := run_append_full2 (P := P) w base t o.type e i z size bytes ht hi hz hsize hby hzs b n xs hxl hxs ad m c news hl hnews hm h63 hbytes hbase
    unfold Oper.wp execOp
    simp only [ho, resolve, invoke, builtin, Sem.run_bind, Sem.run_pure, Result.andThen_ok, List.map_toArray, List.map_cons, List.map_nil, hs, hx, hr]
    exact hK _ _ (h v' w' h2 h3 h4)
end
/-- a writer whose bytes are a constant's -/
structure WrF (g : Nat) (v : Value) (out : List UInt8) (w : World) : Prop where
  bx : Bx g #[v] 61 w
  v : ∃ b, v = .slice (some ⟨b, 0, none⟩) out.length out.length ∧ BsA w b 0 out
theorem WrF.below {g : Nat} {v : Value} {out : List UInt8} {w w' : World} (h : WrF g v out w) (hb : Below w.heap.size w w') : WrF g v out w' := by
  obtain ⟨hx, b, hv, hbs⟩ := h
  exact ⟨hx.via hb, b, hv, hbs.below hb⟩
set_option maxRecDepth 100000 in
set_option maxHeartbeats 8000000 in
theorem wbytesF_any {g : Nat} {v : Value} {out : List UInt8} (B ga oa ca : Nat) (add : List UInt8) (w : World) (h : WrF g v out w) (ha : BsA w ga oa add) (h0 : 0 < add.length) (hN : out.length + add.length ≤ 100000000) (hB : B ≤ w.heap.size) :
    Calls Tryz.prog 21 #[.pointer (some ⟨g, 0, none⟩), .slice (some ⟨ga, oa, none⟩) add.length ca] w fun e w' => e = .returned (.tuple #[]) ∧ ∃ v', WrTo g B v (out ++ add) w v' w' := by
  obtain ⟨i0, hi, hz0, hz1, hz2⟩ := info_parts infoU8b
  obtain ⟨hx, b, rfl, hbs⟩ := h
  have k0 := hx.cell 0 (u := .slice (some ⟨b, 0, none⟩) out.length out.length) rfl
  have f0 := hx.free 0
  have gl := hx.lt
  have HBX := Lib.hid hx
  have HX0 := Lib.hid (hbs.news (Below.refl _ _))
  have HX := Lib.hid (ha.news (Below.refl _ _))
  obtain ⟨m, hm⟩ : ∃ m, out.length = m := ⟨_, rfl⟩
  obtain ⟨p, hp⟩ : ∃ p, add.length = p := ⟨_, rfl⟩
  have HL1 : Hid ((out.map u8c).length = m * 1) := by unfold Hid; rw [List.length_map, hm]; omega
  have HL2 : Hid ((add.map u8c).length = p * 1) := by unfold Hid; rw [List.length_map, hp]; omega
  rw [hm] at hN k0 ⊢
  rw [hp] at h0 hN ⊢
  have HM := Lib.hid hm
  have HP := Lib.hid hp
  have hal := ha.1
  clear ha hm hp hx hbs
  go_enter Tryz.func21, Tryz.ntmps21
  go_wp2_with (at_builtin; (refine wpList_append_full _ rfl _ _ 33 rfl B 5 i0 (.int .u8 0) 1 1 Tryz.underlying33 hi hz0 hz1 hz2 rfl ⟨b, 0, none⟩ m (out.map u8c) rfl HL1.out HX0.out ⟨ga, oa, none⟩ p ca (add.map u8c) rfl HL2.out HX.out h0 ?c3 ?c4 hB ?_))
  case c3 => unfold maxLen; omega
  case c4 => omega
  intro v' w3 hown3 hgrow hob
  obtain ⟨A', n', c', rfl⟩ := own_form hown3
  have hb3 := hgrow.block g gl (by simp)
  have kg : w3.cell? ⟨g, 0, none⟩ = some (.slice (some ⟨b, 0, none⟩) m m) := (World.cell?_of_block (w := w) (a := ⟨g, 0, none⟩) hb3).trans k0
  have hx3 : Bx g #[.slice (some ⟨b, 0, none⟩) out.length out.length] 61 w3 := hb3.trans HBX.out
  have fg := hx3.free 0
  have gl3 := hx3.lt
  have R : Hid (WrTo g B (.slice (some ⟨b, 0, none⟩) out.length out.length) (out ++ add) w (.slice A' n' c') (w3.setCell ⟨g, 0, none⟩ (.slice A' n' c'))) := by
    have hoth : ∀ k, k ≠ g → (w3.setCell ⟨g, 0, none⟩ (.slice A' n' c')).heap[k]? = w3.heap[k]? := fun k hk => heap_setCell_other w3 ⟨g, 0, none⟩ k _ (fun e => hk (by simpa using e))
    have hown4 : w3.ownsRow B 5 1 (.slice A' n' c') (out ++ add).length ((out ++ add).map u8c) := by rw [List.length_append, HM.out, HP.out, List.map_append]; exact hown3
    refine ⟨⟨hx3.set 0 _, ?_, by simp; have := hgrow.size; omega⟩, ⟨hgrow.os, hgrow.tape, hgrow.output, by simpa using hgrow.size, fun k hkl hn => ?_⟩, fun k hk => ?_⟩
    · obtain ⟨hl, h2 | ⟨q, cap, cur, hv, hb, hh, r⟩⟩ := hown4
      · exact ⟨hl, .inl h2⟩
      · exact ⟨hl, .inr ⟨q, cap, cur, hv, hb, (hoth q (bx_ne hx3 hh)).trans hh, r⟩⟩
    · exact (hoth k (fun e => hn (.inl e))).trans (hgrow.block k hkl (by simp))
    · rw [hob] at hk; injection hk with hk; exact .inr (by omega)
  clear hown3 hgrow hob k0 f0 hb3 hx3
  go_wp2
  go_end0
  rw [HM.out] at R
  exact ⟨rfl, _, R.out⟩
theorem wsectionF_any {g1 B1 g2 B2 : Nat} {v1 v2 : Value} {out1 out2 : List UInt8} (tag : UInt8) (w : World) (h1 : WrR g1 B1 v1 out1 w) (h2 : WrF g2 v2 out2 w) (hg : g1 ≠ g2) (hgo : v2.ownBlock ≠ some g1) (hd : ∀ b, v1.ownBlock = some b → v2.ownBlock ≠ some b ∧ b ≠ g2) (h0 : 0 < out1.length) (hN : out1.length + out2.length ≤ 1000000) (hB : B2 ≤ w.heap.size) :
    Calls Tryz.prog 19 #[.pointer (some ⟨g1, 0, none⟩), .pointer (some ⟨g2, 0, none⟩), .int .u8 (tag.toNat : Int)] w fun e w' => e = .returned (.tuple #[]) ∧ ∃ v2', WrTo g2 B2 v2 (out2 ++ secB tag out1) w v2' w' :=
  wsectionG_any tag w h1 (fun ga w0 hb ha => wbytesF_any (g := g2) (v := v2) (out := out2) B2 ga 0 1 [tag] w0 (h2.below hb) ha (by simp) (by simp; omega) (Nat.le_trans hB hb.size)) hg hgo hd h0 hN
end Go.Proofs.YtecklnobgfahfaaGreatDoor
