/-
  DERIVED: THE SHELF's CONTRACTS AT THIS DUMP, IN PLAIN WORDS (tools/lay-plain.mjs out of 'TrydShelf.lean', which tools/lay-shelf.mjs wrote): THE SAME DECLARATIONS UNDER THE SAME NAMES: 'import', 'namespace', 'open', 'def', 'theorem' AND NOTHING ELSE: no command of the shelf's: FOR A HAND-IN. Each laying: the table of numbers ('.._ren') and one theorem, a field a fact of the dump's own or the kernel's comparison; each contract: ONE APPLICATION.
-/
import Derived.Shelf.Strings.Builder1
import Derived.Shelf.Small.Bits
import Derived.Shelf.Strings.BuilderF
import Derived.Shelf.Strings.BuilderK
import Derived.Shelf.Strconv.Itoa0
import Derived.Shelf.Strconv.Itoa1
import Derived.Shelf.LaysM
import Derived.Shelf.Strconv.Itoa2
import Derived.Shelf.Strconv.Itoa3
import Derived.Shelf.Strconv.Itoa4
import Derived.Shelf.Strings.Search1
import Derived.Shelf.Strings.Search2
import Derived.Shelf.Strings.Cut
import Derived.Shelf.Strings.Shaped
import Derived.Shelf.Sort.Plain
import Derived.Shelf.Strings.BuilderCap
import Derived.Shelf.Slices.In.SortNone
import Derived.Test.YtkopjbjkfeopfaaDoorProg
namespace Go.Proofs
open Go.Shelf
def Tryd.lays190_ren : Go.Shelf.Ren := ⟨fun | 190 => 45 | 125 => 53 | 258 => 52 | 128 => 67 | 129 => 68 | 302 => 58 | 303 => 59 | 304 => 60 | 305 => 61 | 306 => 62 | 307 => 63 | 308 => 64 | 309 => 65 | 310 => 66 | 333 => 71 | 329 => 72 | 330 => 73 | 334 => 74 | 335 => 75 | 336 => 76 | 344 => 82 | n => n, fun | 31 => 40 | 9 => 9 | 3 => 3 | 46 => 85 | 0 => 0 | 51 => 100 | 53 => 102 | 4 => 4 | 183 => 93 | 182 => 92 | 131 => 78 | 5 => 5 | 218 => 103 | 222 => 107 | 228 => 115 | 229 => 116 | n => n, fun | n => n⟩
theorem Tryd.lays190 : Go.Proofs.Lays.n190 Tryd.prog Tryd.lays190_ren := {
  mixed := by kernel_rfl
  f125 := Tryd.func53.trans (congrArg some (by kernel_rfl))
  f128 := Tryd.func67.trans (congrArg some (by kernel_rfl))
  f129 := Tryd.func68.trans (congrArg some (by kernel_rfl))
  f190 := Tryd.func45.trans (congrArg some (by kernel_rfl))
  f258 := Tryd.func52.trans (congrArg some (by kernel_rfl))
  f302 := Tryd.func58.trans (congrArg some (by kernel_rfl))
  f303 := Tryd.func59.trans (congrArg some (by kernel_rfl))
  f304 := Tryd.func60.trans (congrArg some (by kernel_rfl))
  f305 := Tryd.func61.trans (congrArg some (by kernel_rfl))
  f306 := Tryd.func62.trans (congrArg some (by kernel_rfl))
  f307 := Tryd.func63.trans (congrArg some (by kernel_rfl))
  f308 := Tryd.func64.trans (congrArg some (by kernel_rfl))
  f309 := Tryd.func65.trans (congrArg some (by kernel_rfl))
  f310 := Tryd.func66.trans (congrArg some (by kernel_rfl))
  f329 := Tryd.func72.trans (congrArg some (by kernel_rfl))
  f330 := Tryd.func73.trans (congrArg some (by kernel_rfl))
  f333 := Tryd.func71.trans (congrArg some (by kernel_rfl))
  f334 := Tryd.func74.trans (congrArg some (by kernel_rfl))
  f335 := Tryd.func75.trans (congrArg some (by kernel_rfl))
  f336 := Tryd.func76.trans (congrArg some (by kernel_rfl))
  f344 := Tryd.func82.trans (congrArg some (by kernel_rfl))
  t0 := Tryd.underlying0
  a0 := Tryd.isAgg0
  z0 := Tryd.sizeOf0
  v0 := Tryd.zeroValue0
  t3 := Tryd.underlying3
  a3 := Tryd.isAgg3
  z3 := Tryd.sizeOf3
  v3 := Tryd.zeroValue3
  t4 := Tryd.underlying4
  a4 := Tryd.isAgg4
  z4 := Tryd.sizeOf4
  v4 := Tryd.zeroValue4
  t5 := Tryd.underlying5
  a5 := Tryd.isAgg5
  z5 := Tryd.sizeOf5
  v5 := Tryd.zeroValue5
  t9 := Tryd.underlying9
  a9 := Tryd.isAgg9
  z9 := Tryd.sizeOf9
  v9 := Tryd.zeroValue9
  t31 := Tryd.underlying40
  a31 := Tryd.isAgg40
  z31 := Tryd.sizeOf40
  v31 := Tryd.zeroValue40
  t46 := Tryd.underlying85
  a46 := Tryd.isAgg85
  z46 := Tryd.sizeOf85
  v46 := Tryd.zeroValue85
  t51 := Tryd.underlying100
  a51 := Tryd.isAgg100
  z51 := Tryd.sizeOf100
  v51 := Tryd.zeroValue100
  t53 := Tryd.underlying102
  a53 := Tryd.isAgg102
  z53 := Tryd.sizeOf102
  v53 := Tryd.zeroValue102
  t131 := Tryd.underlying78
  a131 := Tryd.isAgg78
  z131 := Tryd.sizeOf78
  v131 := Tryd.zeroValue78
  t182 := Tryd.underlying92
  a182 := Tryd.isAgg92
  z182 := Tryd.sizeOf92
  v182 := Tryd.zeroValue92
  t183 := Tryd.underlying93
  a183 := Tryd.isAgg93
  z183 := Tryd.sizeOf93
  v183 := Tryd.zeroValue93
  t218 := Tryd.underlying103
  a218 := Tryd.isAgg103
  z218 := Tryd.sizeOf103
  v218 := Tryd.zeroValue103
  t222 := Tryd.underlying107
  a222 := Tryd.isAgg107
  z222 := Tryd.sizeOf107
  v222 := Tryd.zeroValue107
  t228 := Tryd.underlying115
  a228 := Tryd.isAgg115
  z228 := Tryd.sizeOf115
  v228 := Tryd.zeroValue115
  t229 := Tryd.underlying116
  a229 := Tryd.isAgg116
  z229 := Tryd.sizeOf116
  v229 := Tryd.zeroValue116 }
open Go.Sort Go.RowKit in
theorem Tryd.slices_Sort_string (blk off cap : Nat) (ss : List (List UInt8)) (w : World) (hH : Holds encStr w blk off ss.toArray) (hblk : blk < w.heap.size) (hsz : ss.length < 4611686018427387904) :
    Calls Tryd.prog 45 #[.slice (some ⟨blk, off, none⟩) ss.length cap] w fun e w' =>
      e = .returned (.tuple #[]) ∧ ∃ n os, w' = grow (putRow encStr (Sort.ahead w n) blk off (ss.mergeSort fun x y => decide (x ≤ y)).toArray) os := Any.slices_Sort_string Tryd.lays190 blk off cap ss w hH hblk hsz
open Go.RowKit Go.Sort in
/-- .. and plain. (LAID: no walk: one application.) -/
theorem Tryd.slices_Sort_string_none (p : Option Addr) (cap : Nat) (w : World) :
    Calls Tryd.prog 45 #[.slice p 0 cap] w fun e w' => e = .returned (.tuple #[]) ∧ w' = w := Any.slices_Sort_string_none Tryd.lays190 p cap w
end Go.Proofs
