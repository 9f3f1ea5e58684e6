/-
  Several texts as one.
-/
import Derived.Test.YtlhniiakacbbeaaGreatDoorImG
import Derived.Test.YtlhniiakacbbeaaGreatDoorMG09
import Derived.Test.YtlhniiakacbbeaaGreatDoorImA
import Derived.Test.YtlhniiakacbbeaaGreatDoorMG07
namespace Go.Proofs.YtlhniiakacbbeaaGreatDoor
open Go.RowKit
set_option linter.unusedVariables false
set_option linter.unusedSimpArgs false
theorem info_imLsLeg : (Tryz.prog.info? 65).map (fun i => (i.zero, i.size, i.bytes)) = some (some (.agg #[.int .u8 0, .string ⟨#[]⟩, .string ⟨#[]⟩, .int .u8 0, .bool false, .int .i64 0, .int .i64 0, .int .i64 0, .int .i64 0, .int .i64 0, .int .i64 0, .int .i64 0, .int .i64 0]), 13, 112) := by kernel_rfl
set_option maxRecDepth 100000 in
set_option maxHeartbeats 8000000 in
theorem imLsLeg_any {g gb ob c st : Nat} {bs : List UInt8} (s : RS) (w : World) (h : RdP g gb ob c st bs s w) :
  Calls Tryz.prog 281 #[.pointer (some ⟨g, 0, none⟩), .func (.func 282) #[] #[]] w (ImLPost (imLegR bs st) (leS bs st) 65 13 g gb ob c st bs s w) := by
 obtain ⟨i0, hi, hz0, hz1, hz2⟩ := info_parts info_imLsLeg
 have hgl := h.lt
 have hgb := h.by_.1
 go_enter Tryz.func281, Tryz.ntmps281
 go_wp2_with fail
 refine (imLow_any s 2 w h (by omega)).mono ?_
 rintro e w1 ⟨rfl, hr⟩
 have HR := Lib.hid hr
 have hnlt : lsN bs st s < 65536 := lsN_lt
 have HLS : Hid (lsS bs st (leS bs st) s = itS (leS bs st) (lsN bs st s) (tkS st 2 s)) := rfl
 obtain ⟨n, hn⟩ : ∃ n, loN (tkV bs st 2 s) = n := ⟨_, rfl⟩
 have hn2 : lsN bs st s = n := hn
 have hwn : IntKind.i64.wrap (n : Int) = (n : Int) := by rw [IntKind.wrap_i64]; omega
 rw [hn, hwn]
 rw [hn2] at HLS hnlt
 have HN := Lib.hid hn2
 obtain ⟨s1, hs1⟩ : ∃ x, tkS st 2 s = x := ⟨_, rfl⟩
 rw [hs1] at HR HLS
 have HS1 := Lib.hid hs1
 clear hr hwn hn hn2 hs1 h
 go_wp2
 go_loopw [5, 8] (fun v iv wr => ∃ (k : Nat) (L : List (List Value)) (sk : RS), k ≤ n ∧ iv = .int .i64 (k : Int) ∧ Hid (L.length = k) ∧ Hid (Chn (imLegR bs st) (leS bs st) s1 L sk) ∧ Hid (itS (leS bs st) (n - k) sk = lsS bs st (leS bs st) s) ∧ Hid (wr.ownsRow w.heap.size 65 13 v L.length L.reverse.flatten) ∧ Hid (RdPTo g gb ob c st bs sk w wr) ∧ Hid (k = 0 → v = .slice none 0 0)) (fun _ iv _ => n - (intOf iv).toNat)
 case atStart => exact ⟨0, [], s1, Nat.zero_le _, rfl, rfl, rfl, HLS.out.symm, World.ownsRow_nil _ _ _ _, HR.out, fun _ => rfl⟩
 case round =>
  obtain ⟨k, L, sk, hk, rfl, hL, hch, hit, hown, hrd, hnil⟩ := hrel
  obtain ⟨ak, bk⟩ := sk
  have k3 := hrd.out.r.bx.cell 3 (u := .bool bk) rfl
  by_cases hlt : k < n
  ·cases bk with
   | true =>
    have HB : Hid ((lsS bs st (leS bs st) s) = (ak, true)) := by unfold Hid; rw [← hit.out, itS_bad rfl]
    clear hown hch hit
    go_wp2
    go_ret
    refine ⟨_, rfl, ⟨_, _, _, rfl⟩, fun _ => rfl, fun hb => ?_, ?_⟩
    ·rw [HB.out] at hb; cases hb
    ·rw [HB.out]; exact hrd.out
   | false =>
    have hkl : ak ≤ st := hrd.out.r.at_
    go_wp2_with fail
    refine (imLeg_any (ak, false) _ hrd.out.r).mono ?_
    rintro e w2 ⟨⟨cs, rfl, hcs⟩, hr2⟩
    have HR2 := Lib.hid (hrd.out.then_ hr2)
    have hf2 := Lib.hid hr2.f
    have hown2 : w2.ownsRow w.heap.size 65 13 _ L.length L.reverse.flatten := own_frm2 hown.out hr2.f (by omega)
    have hlo := hown2.lt
    obtain ⟨cs, rfl⟩ : ∃ l : List Value, cs = l.toArray := ⟨cs.toList, by simp⟩
    simp only [List.toList_toArray] at hcs
    have HCS := Lib.hid hcs
    obtain rfl : cs = imLegC bs st (ak, false) := hcs
    unfold imLegC
    have HC2 : Hid (imLegR bs st (ak, false) (imLegC bs st (ak, false))) := rfl
    clear hr2 hown k3
    have hLk := hL.out
    go_wp2_with (at_builtin; refine wpList_append_lies _ rfl _ _ 60 rfl w.heap.size 65 i0 (.agg #[.int .u8 0, .string ⟨#[]⟩, .string ⟨#[]⟩, .int .u8 0, .bool false, .int .i64 0, .int .i64 0, .int .i64 0, .int .i64 0, .int .i64 0, .int .i64 0, .int .i64 0, .int .i64 0]) 13 112 Tryz.underlying60 hi hz0 hz1 hz2 rfl (by decide) _ _ _ rfl (hown2.alloc _) ⟨w2.heap.size, 0, none⟩ 1 1 (imLegC bs st (ak, false)) rfl rfl (World.news_of_block (heap_alloc_new w2 _)) ?c2 (by decide) ?c3 ?c4 ?c5 _ rfl ?_)
    case c2 => intro u hu; unfold imLegC at hu; simp only [List.mem_cons, List.not_mem_nil, or_false] at hu; rcases hu with rfl | rfl | rfl | rfl | rfl | rfl | rfl | rfl | rfl | rfl | rfl | rfl | rfl <;> rfl
    case c3 => unfold maxLen; omega
    case c4 => omega
    case c5 => have := HR2.out.f.size; simp; omega
    intro gg cap w3 hown3 hgrow3 hor hgg
    have R := chn_step (one := leS bs st) (ak := ak) hL.out hch.out hit.out HC2.out hlt HR2.out hown2 hlo hown3 hgrow3 hgl hgb
    obtain ⟨R1, R2, R3, R4, R5⟩ := R
    have Q1 := Lib.hid R1
    have Q2 := Lib.hid R2
    have Q3 := Lib.hid R3
    have Q4 := Lib.hid R4
    have Q5 := Lib.hid R5
    clear R1 R2 R3 R4 R5 hown3 hgrow3 hor hgg hlo hown2 hLk hL hch hit
    go_wp2
    go_roundw
    case rel => exact ⟨k + 1, _, _, hlt, by go_num, Q1, Q2, Q3, Q4, Q5, fun h => by omega⟩
    case measure => simp [intOf]; omega
  ·have hkn : k = n := by omega
   subst hkn
   have hit2 := hit.out
   rw [Nat.sub_self] at hit2
   have HI : Hid ((ak, bk) = lsS bs st (leS bs st) s) := hit2
   obtain ⟨A, n', c', hv⟩ := own_form hown.out
   rw [hv] at hown hnil ⊢
   clear hit2 hit
   go_wp2
   go_ret
   rw [HI.out] at hrd hch
   refine ⟨_, rfl, ⟨_, _, _, rfl⟩, fun h0 => hnil.out (HN.out ▸ h0), fun _ => ⟨L, hL.out.trans HN.out.symm, by rw [HS1.out]; exact hch.out, hown.out⟩, hrd.out⟩
theorem info_imLsPart : (Tryz.prog.info? 62).map (fun i => (i.zero, i.size, i.bytes)) = some (some (.agg #[.int .u8 0, .string ⟨#[]⟩, .slice none 0 0]), 3, 48) := by kernel_rfl
theorem info_imLsProc : (Tryz.prog.info? 57).map (fun i => (i.zero, i.size, i.bytes)) = some (some (.agg #[.string ⟨#[]⟩, .string ⟨#[]⟩, .int .u8 0, .slice none 0 0]), 4, 64) := by kernel_rfl
def fourC (x : Int) : Array Value := #[.int .u8 (x % 256), .int .u8 (x / 256 % 256), .int .u8 (x / 65536 % 256), .int .u8 (x / 16777216 % 256)]
set_option maxHeartbeats 2000000 in
theorem rfour_any (x : Int) (w : World) (h0 : 0 ≤ x) (h1 : x < 4294967296) :
  Calls Tryz.prog 153 #[.int .u32 x] w fun e w' => e = .returned (.slice (some ⟨w.heap.size, 0, none⟩) 4 4) ∧ w' = w.alloc (.cells (fourC x) 5) := by
 have hl : x / 16777216 % 256 = x / 16777216 := by omega
 unfold fourC
 rw [hl]
 clear hl
 go_enter Tryz.func153, Tryz.ntmps153
 go_wp2
 go_ret
 exact ⟨rfl, by trivial⟩
structure Cmp4 (g o q : Nat) (bs : List UInt8) (S : Int) (w wr : World) : Prop where
 b : BsA wr g o bs
 x : Bx q (fourC S) 5 wr
 e : Below w.heap.size w wr
theorem Cmp4.drewN {g o q : Nat} {bs : List UInt8} {S : Int} {w wr : World} (h : Cmp4 g o q bs S w wr) (n : Nat) : Cmp4 g o q bs S w (wr.drewN n) := ⟨h.b.below (below_drewN' (Below.refl _ _) n), h.x, below_drewN' h.e n⟩
def dbI (h : ImHd) (f a p : Value) : Array Value := #[.string (sb h.nm), .int .i64 h.cy, .int .i64 h.fr, .int .i64 h.tu, .int .i64 h.la, .int .i64 h.lo, f, a, p]
def dbZ9 : Array Value := #[.string ⟨#[]⟩, .int .i64 0, .int .i64 0, .int .i64 0, .int .i64 0, .int .i64 0, .slice none 0 0, .slice none 0 0, .slice none 0 0]
def secC (s : Sec) : List Value := [.int .u8 (s.1 : Int), .int .i64 (s.2.1 : Int), .int .i64 (s.2.2.1 : Int), .int .i64 (s.2.2.2 : Int)]
def seccells (L : List Sec) : List Value := L.flatMap secC
theorem seccells_snoc (L : List Sec) (s : Sec) : seccells (L ++ [s]) = seccells L ++ secC s := by unfold seccells; rw [List.flatMap_append]; simp
def LF (v : Value) (n : Nat) : Prop := ∃ A c, v = .slice A n c ∧ (n = 0 → v = .slice none 0 0)
theorem LF.nil : LF (.slice none 0 0) 0 := ⟨_, _, rfl, fun _ => rfl⟩
structure DbK (body : List UInt8) (k : Nat) (db : Array Value) (L : List Sec) : Prop where
 ex : ∃ (f a p : Value) (nf na np : Nat), db = dbI (if k = 0 then hd0 else imHdF body) f a p ∧ LF f nf ∧ LF a na ∧ LF p np ∧ (k < 2 → nf = 0) ∧ (k < 3 → na = 0) ∧ (k < 4 → np = 0) ∧ L.map (·.2.2.2) = ([1, nf, na, np] : List Nat).take k
def rdRes (bs : List UInt8) : Int × ImHd × List Sec :=
 if bs.length < 4 then (4, hd0, []) else if opOk bs = false then (12, hd0, []) else match rdF (bs.take (bs.length - 4)) with
  | none => (4, hd0, [])
  | some (h, l) => (0, h, l)
def ImReadPost (bs : List UInt8) (w : World) (e : Ending) (w' : World) : Prop :=
 ∃ (f a p sv : Value) (nf na np : Nat), e = .returned (.tuple #[.agg (dbI (rdRes bs).2.1 f a p), sv, .int .i64 (rdRes bs).1]) ∧ Rd w' 4 sv (rdRes bs).2.2.length (seccells (rdRes bs).2.2) ∧ LF f nf ∧ LF a na ∧ LF p np ∧ ((rdRes bs).1 = 0 → (rdRes bs).2.2.map (·.2.2.2) = [1, nf, na, np]) ∧ Below w.heap.size w w'
theorem ImReadPost.err {bs : List UInt8} {w w' : World} {x : Int} (h : rdRes bs = (x, hd0, [])) (hx : x ≠ 0) (hb : Below w.heap.size w w') : ImReadPost bs w (.returned (.tuple #[.agg dbZ9, .slice none 0 0, .int .i64 x])) w' := by
 refine ⟨.slice none 0 0, .slice none 0 0, .slice none 0 0, .slice none 0 0, 0, 0, 0, ?_, ?_, LF.nil, LF.nil, LF.nil, fun h0 => ?_, hb⟩
 ·rw [h]; rfl
 ·rw [h]; exact Rd.nil _ _
 ·rw [h] at h0; exact absurd h0 hx
theorem rdRes_some {bs : List UInt8} (h4 : 4 ≤ bs.length) (ho : opOk bs = true) {h : ImHd} {l : List Sec} (hr : rdF (bs.take (bs.length - 4)) = some (h, l)) : rdRes bs = (0, h, l) := by
 unfold rdRes; rw [if_neg (by omega), if_neg (by rw [ho]; simp), hr]
theorem rdRes_none {bs : List UInt8} (h4 : 4 ≤ bs.length) (ho : opOk bs = true) (hr : rdF (bs.take (bs.length - 4)) = none) : rdRes bs = (4, hd0, []) := by
 unfold rdRes; rw [if_neg (by omega), if_neg (by rw [ho]; simp), hr]
theorem rdRes_sum {bs : List UInt8} (h4 : 4 ≤ bs.length) (ho : opOk bs = false) : rdRes bs = (12, hd0, []) := by
 unfold rdRes; rw [if_neg (by omega), if_pos ho]
theorem rdRes_short {bs : List UInt8} (h4 : bs.length < 4) : rdRes bs = (4, hd0, []) := by
 unfold rdRes; rw [if_pos h4]
structure RdI (w : World) (q1 q2 gb ob c B : Nat) (body : List UInt8) (db : Array Value) (s : RS) (sv : Value) (L : List Sec) (wr : World) : Prop where
 res : Bx w.heap.size dbZ9 30 wr
 rd : RdP q1 gb ob c body.length body s wr
 dbx : Bx q2 db 30 wr
 own : wr.ownsRow B 121 4 sv L.length (seccells L)
 be : Below w.heap.size w wr
 o1 : w.heap.size < gb
 o2 : gb < q1
 o3 : q1 < q2
 o4 : q2 < B
 hi : B ≤ wr.heap.size
section
variable {w wr wr' : World} {q1 q2 gb ob c B : Nat} {body : List UInt8} {db db' : Array Value} {s s' : RS} {sv : Value} {L : List Sec}
theorem own_keep {S : Nat → Prop} {base : Nat} {w w' : World} {e : TypeId} {size n : Nat} {v : Value} {xs : List Value} (h : w.ownsRow base e size v n xs) (hf : Frm S w w') (hS : ∀ b, base ≤ b → b < w.heap.size → ¬ S b) : w'.ownsRow base e size v n xs := by
 obtain ⟨hl, h2 | ⟨b, cap, cur, hv, hb, hh, r⟩⟩ := h
 ·exact ⟨hl, .inl h2⟩
 ·exact ⟨hl, .inr ⟨b, cap, cur, hv, hb, (hf.block b (heap_lt hh) (hS b hb (heap_lt hh))).trans hh, r⟩⟩
theorem RdI.frm (h : RdI w q1 q2 gb ob c B body db s sv L wr) {S : Nat → Prop} (hf : Frm S wr wr') (hS : ∀ k, S k → k = q2 ∨ wr.heap.size ≤ k) (hdb : Bx q2 db' 30 wr') : RdI w q1 q2 gb ob c B body db' s sv L wr' := by
 have o1 := h.o1; have o2 := h.o2; have o3 := h.o3; have o4 := h.o4; have hi := h.hi
 have hn : ∀ b, b < wr.heap.size → b ≠ q2 → ¬ S b := fun b hb hne hs => by rcases hS b hs with h1 | h1 <;> omega
 refine ⟨(hf.block _ (by omega) (hn _ (by omega) (by omega))).trans h.res, h.rd.keep hf (hn _ (by omega) (by omega)) (hn _ (by omega) (by omega)), hdb, own_keep h.own hf (fun b hb hl => hn b hl (by omega)), h.be.trans (hf.below (by omega) (fun k hk => by rcases hS k hk with h1 | h1 <;> omega)), o1, o2, o3, o4, Nat.le_trans hi hf.size⟩
theorem RdI.below (h : RdI w q1 q2 gb ob c B body db s sv L wr) (hb : Below wr.heap.size wr wr') : RdI w q1 q2 gb ob c B body db s sv L wr' :=
 h.frm (S := fun _ => False) (Frm.of_below hb) (fun _ hk => hk.elim) (h.dbx.via hb)
theorem RdI.call (h : RdI w q1 q2 gb ob c B body db s sv L wr) (k : RdPTo q1 gb ob c body.length body s' wr wr') : RdI w q1 q2 gb ob c B body db s' sv L wr' := by
 have o1 := h.o1; have o2 := h.o2; have o3 := h.o3; have o4 := h.o4; have hi := h.hi
 have hf := k.f
 refine ⟨(hf.block _ (by omega) (by omega)).trans h.res, k.r, (hf.block _ (by omega) (by omega)).trans h.dbx, own_keep h.own hf (fun b hb hl => by omega), h.be.trans (hf.below (by omega) (fun k hk => by omega)), o1, o2, o3, o4, Nat.le_trans hi hf.size⟩
theorem RdP.seek {g gb ob c st : Nat} {bs : List UInt8} {a n : Nat} {w : World} (h : RdP g gb ob c st bs (a, false) w) (hn : n ≤ st) : RdPTo g gb ob c st bs (n, false) w (w.setCell ⟨g, 1, none⟩ (.int .i64 (n : Int))) :=
 ⟨h.to (frm_set w g 1 _) (h.bx.set 1 _) hn, frm_set w g 1 _⟩
theorem RdI.push (h : RdI w q1 q2 gb ob c B body db s sv L wr) {v' : Value} {x : Sec} {o : Obj} (hown : wr'.ownsRow B 121 4 v' (L.length + 1) (seccells L ++ secC x)) (hg : (wr.alloc o).grownBy wr' sv.ownBlock) : RdI w q1 q2 gb ob c B body db s v' (L ++ [x]) wr' := by
 have o1 := h.o1; have o2 := h.o2; have o3 := h.o3; have o4 := h.o4; have hi := h.hi
 have hlo := h.own.lt
 have hF : Frm (fun b => B ≤ b) wr wr' := by
  refine ⟨hg.os, hg.tape, hg.output, ?_, fun b hb hn => ?_⟩
  ·have := hg.size
   rw [World.size_alloc] at this; omega
  ·have h1 := hg.block b (by rw [World.size_alloc]; omega) (by intro e; have := (hlo b e.symm).1; omega)
   rw [h1]
   exact ((Below.refl wr.heap.size wr).alloc (Nat.le_refl _) o).block b hb
 refine ⟨(hF.block _ (by omega) (by omega)).trans h.res, h.rd.keep hF (by omega) (by omega), (hF.block _ (by omega) (by omega)).trans h.dbx, ?_, h.be.trans (hF.below (by omega) (fun k hk => by omega)), o1, o2, o3, o4, Nat.le_trans hi hF.size⟩
 rw [List.length_append, seccells_snoc]; exact hown
end
theorem infoDB9 : (Tryz.prog.info? 30).map (·.size) = some 9 := by kernel_rfl
theorem aggDB9 (w : World) : (isAgg 30).run Tryz.prog w = .ok true w := by kernel_rfl
theorem sizeDB9 (w : World) : (Go.sizeOf 30).run Tryz.prog w = .ok 9 w := by kernel_rfl
theorem infoSecI : (Tryz.prog.info? 121).map (fun i => (i.zero, i.size, i.bytes)) = some (some (.agg #[.int .u8 0, .int .i64 0, .int .i64 0, .int .i64 0]), 4, 32) := by kernel_rfl
theorem row_below {w W : World} {q : Nat} {cs : Array Value} (h : Below w.heap.size w W) (hq : w.heap.size = q) : Below w.heap.size w (W.setRow q cs) :=
 ⟨h.os, h.tape, h.output, by have := h.size; simp [World.setRow]; omega, fun k hk => (setRow_other W q k cs (by omega)).trans (h.block k hk)⟩
theorem dbZ9_one : dbZ9.all (·.oneCell') = true := by simp [dbZ9, Value.oneCell']
theorem magic_of {body : List UInt8} (h : tkV body body.length 4 (0, false) = magicL) : body.take 4 = magicL ∧ tkS body.length 4 (0, false) = (4, false) := by
 unfold tkV at h
 split at h
 ·cases h
 ·rename_i hn
  simp only [not_or] at hn
  refine ⟨by simpa using h, tkS_yes (by simpa using hn.2)⟩
theorem byV_good {bs : List UInt8} {st a : Nat} (h : (byV bs st (a, false)).toNat ≠ 0) : tkS st 1 (a, false) = (a + 1, false) ∧ ¬ st - a < 1 := by
 by_cases hn : st - a < 1
 ·rw [byV_no (.inr hn)] at h; exact absurd rfl h
 ·exact ⟨tkS_yes hn, hn⟩
theorem loN_lt4 (l : List UInt8) (h : l.length ≤ 4) : loN l < 4294967296 := by
 have h1 := loN_lt l
 have h2 : 256 ^ l.length ≤ 256 ^ 4 := Nat.pow_le_pow_right (by omega) h
 omega
def dbL (h : ImHd) (f a p : Value) : List Value := [.string (sb h.nm), .int .i64 h.cy, .int .i64 h.fr, .int .i64 h.tu, .int .i64 h.la, .int .i64 h.lo, f, a, p]
theorem dbL_one (h : ImHd) {f a p : Value} {nf na np : Nat} (hf : LF f nf) (ha : LF a na) (hp : LF p np) : ∀ u ∈ dbL h f a p, u.oneCell' = true := by
 obtain ⟨_, _, rfl, _⟩ := hf
 obtain ⟨_, _, rfl, _⟩ := ha
 obtain ⟨_, _, rfl, _⟩ := hp
 intro u hu
 unfold dbL at hu
 simp only [List.mem_cons, List.not_mem_nil, or_false] at hu
 rcases hu with rfl | rfl | rfl | rfl | rfl | rfl | rfl | rfl | rfl <;> rfl
theorem len9 {l : List Value} (h : l.length = 9) : ∃ v0 v1 v2 v3 v4 v5 v6 v7 v8, l = [v0, v1, v2, v3, v4, v5, v6, v7, v8] := by
 match l, h with
 | [v0, v1, v2, v3, v4, v5, v6, v7, v8], _ => exact ⟨_, _, _, _, _, _, _, _, _, rfl⟩
theorem RdP.failS {g gb ob c st : Nat} {bs : List UInt8} {s : RS} {w : World} (h : RdP g gb ob c st bs s w) : RdPTo g gb ob c st bs (s.1, true) w (w.setCell ⟨g, 3, none⟩ (.bool true)) := by
 obtain ⟨a, b⟩ := s
 exact h.fail
theorem Bx.d6 {q : Nat} {hd : ImHd} {f a p : Value} {t : TypeId} {w : World} (h : Bx q (dbI hd f a p) t w) (u : Value) : Bx q (dbI hd u a p) t (w.setCell ⟨q, 6, none⟩ u) := h.set 6 u
theorem Bx.d7 {q : Nat} {hd : ImHd} {f a p : Value} {t : TypeId} {w : World} (h : Bx q (dbI hd f a p) t w) (u : Value) : Bx q (dbI hd f u p) t (w.setCell ⟨q, 7, none⟩ u) := h.set 7 u
theorem Bx.d8 {q : Nat} {hd : ImHd} {f a p : Value} {t : TypeId} {w : World} (h : Bx q (dbI hd f a p) t w) (u : Value) : Bx q (dbI hd f a u) t (w.setCell ⟨q, 8, none⟩ u) := h.set 8 u
theorem Bx.s43 {q : Nat} {x0 x1 x2 x3 : Value} {t : TypeId} {w : World} (h : Bx q #[x0, x1, x2, x3] t w) (u : Value) : Bx q #[x0, x1, x2, u] t (w.setCell ⟨q, 3, none⟩ u) := h.set 3 u
theorem secS_1 (bs : List UInt8) (st : Nat) (s : RS) : secS bs st 1 s = hdS bs st s := by unfold secS; rw [if_pos rfl]
theorem secS_2 (bs : List UInt8) (st : Nat) (s : RS) : secS bs st 2 s = lsS bs st (fiS bs st) s := by unfold secS; rw [if_neg (by decide), if_pos rfl]
theorem secS_3 (bs : List UInt8) (st : Nat) (s : RS) : secS bs st 3 s = lsS bs st (awS bs st) s := by unfold secS; rw [if_neg (by decide), if_neg (by decide), if_pos rfl]
theorem secS_4 (bs : List UInt8) (st : Nat) (s : RS) : secS bs st 4 s = lsS bs st (prS bs st) s := by unfold secS; rw [if_neg (by decide), if_neg (by decide), if_neg (by decide)]
theorem secN_1 (bs : List UInt8) (st : Nat) (s : RS) : secN bs st 1 s = 1 := by unfold secN; rw [if_pos rfl]
theorem secN_2 (bs : List UInt8) (st : Nat) (s : RS) : secN bs st 2 s = lsN bs st s := by unfold secN; rw [if_neg (by decide)]
theorem secN_3 (bs : List UInt8) (st : Nat) (s : RS) : secN bs st 3 s = lsN bs st s := by unfold secN; rw [if_neg (by decide)]
theorem secN_4 (bs : List UInt8) (st : Nat) (s : RS) : secN bs st 4 s = lsN bs st s := by unfold secN; rw [if_neg (by decide)]
theorem Bx.h9 {b : Nat} {x0 x1 x2 x3 x4 x5 x6 x7 x8 : Value} {t : TypeId} {w : World} (h : Bx b #[x0, x1, x2, x3, x4, x5, x6, x7, x8] t w) (y0 y1 y2 y3 y4 y5 : Value) :
  Bx b #[y0, y1, y2, y3, y4, y5, x6, x7, x8] t ((((((w.setCell ⟨b, 0, none⟩ y0).setCell ⟨b, 1, none⟩ y1).setCell ⟨b, 2, none⟩ y2).setCell ⟨b, 3, none⟩ y3).setCell ⟨b, 4, none⟩ y4).setCell ⟨b, 5, none⟩ y5) := by
 have h0 : Bx b #[y0, x1, x2, x3, x4, x5, x6, x7, x8] t _ := h.set 0 y0
 have h1 : Bx b #[y0, y1, x2, x3, x4, x5, x6, x7, x8] t _ := h0.set 1 y1
 have h2 : Bx b #[y0, y1, y2, x3, x4, x5, x6, x7, x8] t _ := h1.set 2 y2
 have h3 : Bx b #[y0, y1, y2, y3, x4, x5, x6, x7, x8] t _ := h2.set 3 y3
 have h4 : Bx b #[y0, y1, y2, y3, y4, x5, x6, x7, x8] t _ := h3.set 4 y4
 have h5 : Bx b #[y0, y1, y2, y3, y4, y5, x6, x7, x8] t _ := h4.set 5 y5
 exact h5
theorem Bx.h6 {q : Nat} {hd : ImHd} {f a p : Value} {t : TypeId} {w : World} (h : Bx q (dbI hd f a p) t w) (y0 y1 y2 y3 y4 y5 : Value) :
  Bx q #[y0, y1, y2, y3, y4, y5, f, a, p] t ((((((w.setCell ⟨q, 0, none⟩ y0).setCell ⟨q, 1, none⟩ y1).setCell ⟨q, 2, none⟩ y2).setCell ⟨q, 3, none⟩ y3).setCell ⟨q, 4, none⟩ y4).setCell ⟨q, 5, none⟩ y5) := Bx.h9 h y0 y1 y2 y3 y4 y5
theorem own_len {base : Nat} {w : World} {e : TypeId} {size n m c : Nat} {A : Option Addr} {xs : List Value} (h : w.ownsRow base e size (.slice A n c) m xs) : n = m := by
 obtain ⟨_, ⟨h1, h2⟩ | ⟨b, cap, cur, hv, _⟩⟩ := h
 ·injection h1 with _ e1 _; omega
 ·injection hv
theorem DbK.s0 {body : List UInt8} {L : List Sec} {f a p : Value} {nf na np o n : Nat} (hf : LF f nf) (ha : LF a na) (hp : LF p np) (h1 : nf = 0) (h2 : na = 0) (h3 : np = 0) (hm : L.map (·.2.2.2) = ([1, nf, na, np] : List Nat).take 0) : DbK body 1 (dbI (imHdF body) f a p) (L ++ [(1, o, n, 1)]) :=
 ⟨f, a, p, nf, na, np, rfl, hf, ha, hp, fun _ => h1, fun _ => h2, fun _ => h3, by rw [List.map_append, hm]; rfl⟩
theorem DbK.s1 {body : List UInt8} {L : List Sec} {v a p : Value} {nv nf na np o n : Nat} (hv : LF v nv) (ha : LF a na) (hp : LF p np) (h2 : na = 0) (h3 : np = 0) (hm : L.map (·.2.2.2) = ([1, nf, na, np] : List Nat).take 1) : DbK body 2 (dbI (imHdF body) v a p) (L ++ [(2, o, n, nv)]) :=
 ⟨v, a, p, nv, na, np, rfl, hv, ha, hp, fun h => absurd h (by decide), fun _ => h2, fun _ => h3, by rw [List.map_append, hm]; rfl⟩
theorem DbK.s2 {body : List UInt8} {L : List Sec} {v f p : Value} {nv nf na np o n : Nat} (hf : LF f nf) (hv : LF v nv) (hp : LF p np) (h3 : np = 0) (hm : L.map (·.2.2.2) = ([1, nf, na, np] : List Nat).take 2) : DbK body 3 (dbI (imHdF body) f v p) (L ++ [(3, o, n, nv)]) :=
 ⟨f, v, p, nf, nv, np, rfl, hf, hv, hp, fun h => absurd h (by decide), fun h => absurd h (by decide), fun _ => h3, by rw [List.map_append, hm]; rfl⟩
theorem DbK.s3 {body : List UInt8} {L : List Sec} {v f a : Value} {nv nf na np o n : Nat} (hf : LF f nf) (ha : LF a na) (hv : LF v nv) (hm : L.map (·.2.2.2) = ([1, nf, na, np] : List Nat).take 3) : DbK body 4 (dbI (imHdF body) f a v) (L ++ [(4, o, n, nv)]) :=
 ⟨f, a, v, nf, na, nv, rfl, hf, ha, hv, fun h => absurd h (by decide), fun h => absurd h (by decide), fun h => absurd h (by decide), by rw [List.map_append, hm]; rfl⟩
theorem RdI.step {w wr wr' : World} {q1 q2 gb ob c B : Nat} {body : List UInt8} {db db' : Array Value} {s : RS} {sv : Value} {L : List Sec} (h : RdI w q1 q2 gb ob c B body db s sv L wr) {S : Nat → Prop} (hf : Frm S wr wr') (hS : ∀ k, S k → k = q2 ∨ (B ≤ k ∧ sv.ownBlock ≠ some k)) (hdb : Bx q2 db' 30 wr') : RdI w q1 q2 gb ob c B body db' s sv L wr' := by
 have o1 := h.o1; have o2 := h.o2; have o3 := h.o3; have o4 := h.o4; have hi := h.hi
 have hn : ∀ b, b < B → b ≠ q2 → ¬ S b := fun b hb hne hs => by rcases hS b hs with h1 | h1 <;> omega
 refine ⟨(hf.block _ (by omega) (hn _ (by omega) (by omega))).trans h.res, h.rd.keep hf (hn _ (by omega) (by omega)) (hn _ (by omega) (by omega)), hdb, ?_, h.be.trans (hf.below (by omega) (fun k hk => by rcases hS k hk with h1 | h1 <;> omega)), o1, o2, o3, o4, Nat.le_trans hi hf.size⟩
 obtain ⟨hl, h2 | ⟨b, cap, cur, hv, hb, hh, r⟩⟩ := h.own
 ·exact ⟨hl, .inl h2⟩
 ·refine ⟨hl, .inr ⟨b, cap, cur, hv, hb, (hf.block b (heap_lt hh) (fun hs => ?_)).trans hh, r⟩⟩
  rcases hS b hs with h1 | ⟨_, h1⟩
  ·omega
  ·exact h1 (by rw [hv]; rfl)
theorem magic_no {body : List UInt8} (h : tkV body body.length 4 (0, false) ≠ magicL) : rdF body = none := by
 unfold rdF
 rw [if_neg]
 intro e
 apply h
 have hl : 4 ≤ body.length := by
  have := congrArg List.length e
  rw [List.length_take] at this
  have h4 : magicL.length = 4 := rfl
  omega
 rw [tkV_yes (by omega)]
 simpa using e
section
variable (bs : List UInt8) (st : Nat)
def fxV (s : RS) : Fx := ⟨txV bs st s, txV bs st (txS bs st s), (byV bs st (txS bs st (txS bs st s))).toNat, n8V bs st (tkS st 1 (txS bs st (txS bs st s))), n8V bs st (n8S st (tkS st 1 (txS bs st (txS bs st s)))), n8V bs st (n8S st (n8S st (tkS st 1 (txS bs st (txS bs st s))))), n8V bs st (n8S st (n8S st (n8S st (tkS st 1 (txS bs st (txS bs st s))))))⟩
def ptV (s : RS) : Pt := ⟨txV bs st s, n8V bs st (txS bs st s), n8V bs st (n8S st (txS bs st s)), (byV bs st (n8S st (n8S st (txS bs st s)))).toNat⟩
def lgV (s : RS) : Lg := ⟨(byV bs st s).toNat, txV bs st (tkS st 1 s), txV bs st (txS bs st (tkS st 1 s)), (byV bs st (txS bs st (txS bs st (tkS st 1 s)))).toNat, ((byV bs st (legA bs st s)).toNat : Int) == 1, legN bs st s 0, legN bs st s 1, legN bs st s 2, legN bs st s 3, legN bs st s 4, legN bs st s 5, legN bs st s 6, legN bs st s 7⟩
end
def lsV {α : Type} (val : RS → α) (one : RS → RS) : Nat → RS → List α
 | 0, _ => []
 | n + 1, s => val s :: lsV val one n (one s)
def itO (one : RS → RS) : Nat → RS → RS
 | 0, s => s
 | n + 1, s => itO one n (one s)
theorem itO_snoc (one : RS → RS) : ∀ (n : Nat) (s : RS), itO one (n + 1) s = one (itO one n s)
 | 0, _ => rfl
 | n + 1, s => itO_snoc one n (one s)
theorem lsV_snoc {α : Type} (val : RS → α) (one : RS → RS) : ∀ (n : Nat) (s : RS), lsV val one (n + 1) s = lsV val one n s ++ [val (itO one n s)]
 | 0, _ => rfl
 | n + 1, s => by
  show val s :: lsV val one (n + 1) (one s) = _
  rw [lsV_snoc val one n (one s)]; rfl
theorem lsV_len {α : Type} (val : RS → α) (one : RS → RS) : ∀ (n : Nat) (s : RS), (lsV val one n s).length = n
 | 0, _ => rfl
 | n + 1, s => by show (lsV val one n (one s)).length + 1 = _; rw [lsV_len val one n]
theorem lsV_all {α : Type} {P : α → Prop} {val : RS → α} {one : RS → RS} (h : ∀ s, P (val s)) : ∀ (n : Nat) (s : RS), ∀ x ∈ lsV val one n s, P x
 | 0, _, x, hx => by cases hx
 | n + 1, s, x, hx => by
  rcases List.mem_cons.1 hx with rfl | hx
  ·exact h s
  ·exact lsV_all h n (one s) x hx
theorem chn_val {α : Type} {R : RS → List Value → Prop} {one : RS → RS} {val : RS → α} {cf : α → List Value} (hR : ∀ s c, R s c → c = cf (val s)) (s0 : RS) :
  ∀ (L : List (List Value)) (s : RS), Chn R one s0 L s → s = itO one L.length s0 ∧ L.reverse = (lsV val one L.length s0).map cf
 | [], s, h => ⟨h, rfl⟩
 | c :: t, s, h => by
  obtain ⟨s', h1, _, h2, rfl⟩ := h
  obtain ⟨h3, h4⟩ := chn_val hR s0 t s' h1
  rw [List.length_cons, itO_snoc, lsV_snoc, List.reverse_cons, h4, hR _ _ h2, h3, List.map_append]
  exact ⟨rfl, rfl⟩
section
variable (bs : List UInt8) (st : Nat)
def ptsV (s : RS) : List Pt := lsV (ptV bs st) (ptS bs st) (lsN bs st s) (tkS st 2 s)
def lgsV (s : RS) : List Lg := lsV (lgV bs st) (leS bs st) (lsN bs st s) (tkS st 2 s)
def fxsV (s : RS) : List Fx := lsV (fxV bs st) (fiS bs st) (lsN bs st s) (tkS st 2 s)
def awV (s : RS) : AwD := ⟨txV bs st s, ptsV bs st (txS bs st s)⟩
def awsV (s : RS) : List AwD := lsV (awV bs st) (awS bs st) (lsN bs st s) (tkS st 2 s)
def paV (s : RS) : Pa := ⟨(byV bs st s).toNat, txV bs st (tkS st 1 s), lgsV bs st (txS bs st (tkS st 1 s))⟩
def pasV (s : RS) : List Pa := lsV (paV bs st) (imPaS bs st) (lsN bs st s) (tkS st 2 s)
def prV (s : RS) : Prc := ⟨txV bs st s, txV bs st (txS bs st s), (byV bs st (txS bs st (txS bs st s))).toNat, pasV bs st (tkS st 1 (txS bs st (txS bs st s)))⟩
def prsV (s : RS) : List Prc := lsV (prV bs st) (prS bs st) (lsN bs st s) (tkS st 2 s)
end
structure TFrm (B : Nat) (Ts : List TypeId) (w w' : World) : Prop where
 size : w.heap.size ≤ w'.heap.size
 block : ∀ b cs t fr, B ≤ b → w.heap[b]? = some (.cells cs t fr) → t ∉ Ts → w'.heap[b]? = some (.cells cs t fr)
theorem TFrm.refl (B : Nat) (Ts : List TypeId) (w : World) : TFrm B Ts w w := ⟨Nat.le_refl _, fun _ _ _ _ _ h _ => h⟩
theorem TFrm.trans {B : Nat} {Ts : List TypeId} {a b c : World} (h : TFrm B Ts a b) (k : TFrm B Ts b c) : TFrm B Ts a c := ⟨Nat.le_trans h.size k.size, fun i cs t fr hi hc ht => k.block i cs t fr hi (h.block i cs t fr hi hc ht) ht⟩
theorem TFrm.mono {B B' : Nat} {Ts Ts' : List TypeId} {w w' : World} (h : TFrm B Ts w w') (hB : B ≤ B') (hT : ∀ t ∈ Ts, t ∈ Ts') : TFrm B' Ts' w w' := ⟨h.size, fun i cs t fr hi hc ht => h.block i cs t fr (by omega) hc (fun hh => ht (hT t hh))⟩
theorem TFrm.of_below {B : Nat} {Ts : List TypeId} {w w' : World} (h : Below w.heap.size w w') : TFrm B Ts w w' := ⟨h.size, fun i cs t fr _ hc _ => (h.block i (heap_lt hc)).trans hc⟩
theorem TFrm.of_frm {B g : Nat} {Ts : List TypeId} {w w' : World} (h : Frm (· = g) w w') (hg : g < B) : TFrm B Ts w w' := ⟨h.size, fun i cs t fr hi hc _ => (h.block i (heap_lt hc) (by omega)).trans hc⟩
theorem TFrm.of_frmT {B g : Nat} {Ts : List TypeId} {cs : Array Value} {t : TypeId} {w w' : World} (h : Frm (· = g) w w') (hg : Bx g cs t w) (ht : t ∈ Ts) : TFrm B Ts w w' := ⟨h.size, fun i cs' t' fr hi hc ht' => by
 refine (h.block i (heap_lt hc) (fun e => ?_)).trans hc
 subst e
 unfold Bx at hg
 rw [hg] at hc
 injection hc with hc
 injection hc with _ e2 _
 exact ht' (e2 ▸ ht)⟩
theorem TFrm.grown {B base size n : Nat} {Ts : List TypeId} {T : TypeId} {v : Value} {xs : List Value} {w w' : World} (h : w.grownBy w' v.ownBlock) (ho : w.ownsRow base T size v n xs) (hT : T ∈ Ts) : TFrm B Ts w w' := ⟨h.size, fun i cs t fr hi hc ht => by
 refine (h.block i (heap_lt hc) (fun e => ?_)).trans hc
 obtain ⟨_, ⟨rfl, _⟩ | ⟨g, cap, cur, rfl, _, hh, _⟩⟩ := ho
 ·cases e
 ·have e1 : i = g := by simpa [Value.ownBlock] using e
  subst e1
  rw [hh] at hc
  injection hc with hc
  injection hc with _ e2 _
  exact ht (e2 ▸ hT)⟩
theorem own_tf {B base size n : Nat} {Ts : List TypeId} {T : TypeId} {v : Value} {xs : List Value} {w w' : World} (h : w.ownsRow base T size v n xs) (hf : TFrm B Ts w w') (hB : B ≤ base) (hT : T ∉ Ts) : w'.ownsRow base T size v n xs := by
 obtain ⟨hl, h2 | ⟨b, cap, cur, hv, hb, hh, r⟩⟩ := h
 ·exact ⟨hl, .inl h2⟩
 ·exact ⟨hl, .inr ⟨b, cap, cur, hv, hb, hf.block b _ _ _ (by omega) hh hT, r⟩⟩
theorem own_base {base base' size n : Nat} {T : TypeId} {v : Value} {xs : List Value} {w : World} (h : w.ownsRow base T size v n xs) (hb : base' ≤ base) : w.ownsRow base' T size v n xs := by
 obtain ⟨hl, h2 | ⟨b, cap, cur, hv, hb2, r⟩⟩ := h
 ·exact ⟨hl, .inl h2⟩
 ·exact ⟨hl, .inr ⟨b, cap, cur, hv, by omega, r⟩⟩
def OwnAw (B : Nat) (w : World) (x : Value × AwD) : Prop := w.ownsRow B 53 4 x.1 x.2.ps.length (x.2.ps.flatMap ptc)
def OwnPa (B : Nat) (w : World) (x : Value × Pa) : Prop := w.ownsRow B 65 13 x.1 x.2.lg.length (x.2.lg.flatMap lgc)
def OwnPr (B : Nat) (w : World) (x : Value × Prc) : Prop := ∃ L : List (Value × Pa), L.map (·.2) = x.2.pa ∧ w.ownsRow B 62 3 x.1 L.length (L.flatMap pac) ∧ ∀ y ∈ L, OwnPa B w y
section
variable {B B' : Nat} {Ts : List TypeId} {w w' : World}
theorem OwnAw.tf {x : Value × AwD} (h : OwnAw B w x) (hf : TFrm B Ts w w') (hT : 53 ∉ Ts) : OwnAw B w' x := own_tf h hf (Nat.le_refl _) hT
theorem OwnPa.tf {x : Value × Pa} (h : OwnPa B w x) (hf : TFrm B Ts w w') (hT : 65 ∉ Ts) : OwnPa B w' x := own_tf h hf (Nat.le_refl _) hT
theorem OwnPr.tf {x : Value × Prc} (h : OwnPr B w x) (hf : TFrm B Ts w w') (hT : 65 ∉ Ts) (hT2 : 62 ∉ Ts) : OwnPr B w' x := by
 obtain ⟨L, h1, h2, h3⟩ := h
 exact ⟨L, h1, own_tf h2 hf (Nat.le_refl _) hT2, fun y hy => (h3 y hy).tf hf hT⟩
theorem OwnAw.base {x : Value × AwD} (h : OwnAw B w x) (hb : B' ≤ B) : OwnAw B' w x := own_base h hb
theorem OwnPa.base {x : Value × Pa} (h : OwnPa B w x) (hb : B' ≤ B) : OwnPa B' w x := own_base h hb
theorem OwnPr.base {x : Value × Prc} (h : OwnPr B w x) (hb : B' ≤ B) : OwnPr B' w x := by
 obtain ⟨L, h1, h2, h3⟩ := h
 exact ⟨L, h1, own_base h2 hb, fun y hy => (h3 y hy).base hb⟩
end
def ImLPostS {α : Type} (val : RS → α) (cf : Value × α → List Value) (Own : Nat → World → Value × α → Prop) (one : RS → RS) (T : TypeId) (K : Nat) (g gb ob c st : Nat) (bs : List UInt8) (s : RS) (w : World) (e : Ending) (w' : World) : Prop :=
 ∃ v, e = .returned v ∧ (∃ A n c', v = .slice A n c') ∧ (lsN bs st s = 0 → v = .slice none 0 0) ∧ ((lsS bs st one s).2 = false → ∃ L : List (Value × α), L.map (·.2) = lsV val one (lsN bs st s) (tkS st 2 s) ∧ w'.ownsRow w.heap.size T K v L.length (L.flatMap cf) ∧ ∀ x ∈ L, Own w.heap.size w' x) ∧ RdPTo g gb ob c st bs (lsS bs st one s) w w'
def LsInv {α : Type} (val : RS → α) (cf : Value × α → List Value) (Own : Nat → World → Value × α → Prop) (one : RS → RS) (T : TypeId) (K B k : Nat) (s1 : RS) (v : Value) (sk : RS) (w : World) : Prop :=
 (∃ A n c', v = .slice A n c') ∧ (sk.2 = false → sk = itO one k s1 ∧ ∃ L : List (Value × α), L.length = k ∧ L.map (·.2) = lsV val one k s1 ∧ w.ownsRow B T K v L.length (L.flatMap cf) ∧ ∀ x ∈ L, Own B w x)
end Go.Proofs.YtlhniiakacbbeaaGreatDoor
