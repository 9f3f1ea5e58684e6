/-
  DERIVED: THE SHELF's CONTRACTS AT THIS DUMP, IN PLAIN WORDS (tools/lay-plain.mjs out of 'TryzShelf.lean', which tools/lay-shelf.mjs wrote): THE SAME DECLARATIONS UNDER THE SAME NAMES: 'import', 'namespace', 'open', 'def', 'theorem' AND NOTHING ELSE: no command of the shelf's: FOR A HAND-IN. Each laying: the table of numbers ('.._ren') and one theorem, a field a fact of the dump's own or the kernel's comparison; each contract: ONE APPLICATION.
-/
import Derived.Shelf.Strings.Builder1
import Derived.Shelf.Strings.Builder2
import Derived.Shelf.Strings.OnBuilder
import Derived.Shelf.Small.Bits
import Derived.Shelf.Small.Strs
import Derived.Shelf.Small.Wraps
import Derived.Shelf.Strings.BuilderF
import Derived.Shelf.Strings.BuilderK
import Derived.Shelf.Utf8.RuneCount
import Derived.Shelf.Strings.Builder2Cap
import Derived.Shelf.Strconv.Itoa0
import Derived.Shelf.Strconv.Itoa1
import Derived.Shelf.LaysM
import Derived.Shelf.Strconv.Itoa2
import Derived.Shelf.Strconv.Itoa3
import Derived.Shelf.Strconv.Itoa4
import Derived.Shelf.Strconv.ParseIntEmpty
import Derived.Shelf.Strconv.Clone
import Derived.Shelf.Strconv.SyntaxError
import Derived.Shelf.LaysC
import Derived.Shelf.Strconv.ToError
import Derived.Shelf.Strconv.Lower
import Derived.Shelf.Strconv.ParseUint10
import Derived.Shelf.Strconv.ParseUint10Empty
import Derived.Shelf.Strconv.ParseUint10Any
import Derived.Shelf.Strconv.ParseInt10
import Derived.Shelf.Strconv.RangeError
import Derived.Shelf.Strconv.ToErrorRange
import Derived.Shelf.Strconv.ParseUintEmpty
import Derived.Shelf.Strconv.ParseUint10b64
import Derived.Shelf.Strconv.ParseUint10b32
import Derived.Shelf.Strconv.ParseUint10b16
import Derived.Shelf.Strconv.ParseUint10b8
import Derived.Shelf.Strconv.ParseUint10At
import Derived.Shelf.Strconv.ParseInt10At64
import Derived.Shelf.Strconv.ParseInt10At32
import Derived.Shelf.Strconv.ParseInt10At16
import Derived.Shelf.Strconv.ParseInt10At8
import Derived.Shelf.Strconv.ParseInt10All
import Derived.Shelf.Strconv.ParseIntPublic10
import Derived.Shelf.Strconv.ErrVarParseInt
import Derived.Shelf.Strings.Search1
import Derived.Shelf.Strings.Search2
import Derived.Shelf.Strings.Search3
import Derived.Shelf.Strings.Cut
import Derived.Shelf.Strings.Count
import Derived.Shelf.Strings.Shaped
import Derived.Shelf.Strings.Prefix
import Derived.Shelf.Strings.Split
import Derived.Shelf.Strings.SplitShaped
import Derived.Shelf.Unicode.Decode
import Derived.Shelf.Strings.RuneCount
import Derived.Shelf.Strings.Explode
import Derived.Shelf.Bits.Mul64
import Derived.Shelf.Unicode.DecodeSlow
import Derived.Shelf.Unicode.DecodeAny
import Derived.Shelf.Strings.BuilderCap
import Derived.Test.YtgmehlgfilpleaaGreatDoorProg
namespace Go.Proofs
open Go.Shelf
def Tryz.lays219_ren : Go.Shelf.Ren := ⟨fun | 219 => 348 | 217 => 385 | 225 => 386 | 224 => 387 | 267 => 388 | 266 => 405 | 314 => 406 | n => n, fun | 9 => 9 | 3 => 3 | 4 => 4 | 5 => 5 | 46 => 218 | 146 => 410 | 51 => 219 | n => n, fun | 1 => 2 | n => n⟩
theorem Tryz.lays219 : Go.Proofs.Lays.n219 Tryz.prog Tryz.lays219_ren := {
  mixed := by kernel_rfl
  f217 := Tryz.func385.trans (congrArg some (by kernel_rfl))
  f219 := Tryz.func348.trans (congrArg some (by kernel_rfl))
  f224 := Tryz.func387.trans (congrArg some (by kernel_rfl))
  f225 := Tryz.func386.trans (congrArg some (by kernel_rfl))
  f266 := Tryz.func405.trans (congrArg some (by kernel_rfl))
  f267 := Tryz.func388.trans (congrArg some (by kernel_rfl))
  f314 := Tryz.func406.trans (congrArg some (by kernel_rfl))
  t3 := Tryz.underlying3
  a3 := Tryz.isAgg3
  z3 := Tryz.sizeOf3
  v3 := Tryz.zeroValue3
  t4 := Tryz.underlying4
  a4 := Tryz.isAgg4
  z4 := Tryz.sizeOf4
  v4 := Tryz.zeroValue4
  t5 := Tryz.underlying5
  a5 := Tryz.isAgg5
  z5 := Tryz.sizeOf5
  v5 := Tryz.zeroValue5
  t9 := Tryz.underlying9
  a9 := Tryz.isAgg9
  z9 := Tryz.sizeOf9
  v9 := Tryz.zeroValue9
  t46 := Tryz.underlying218
  a46 := Tryz.isAgg218
  z46 := Tryz.sizeOf218
  v46 := Tryz.zeroValue218
  t51 := Tryz.underlying219
  a51 := Tryz.isAgg219
  z51 := Tryz.sizeOf219
  v51 := Tryz.zeroValue219
  t146 := Tryz.underlying410
  a146 := Tryz.isAgg410
  z146 := Tryz.sizeOf410
  v146 := Tryz.zeroValue410
  g1 := by kernel_rfl }
open Go.RowKit Go.Lib in
/-- internal/stringslite.Index (what strings.Index calls) AT A substr OF ONE BYTE c: IT RETURNS 'Lib.indexByte s c'; the world is as it was. (LAID: no walk: one application.) -/
theorem Tryz.stringslite_Index_one (s : ByteArray) (c : UInt8) (w : World) :
    Calls Tryz.prog 348 #[.string s, .string ⟨#[c]⟩] w fun e w' => e = .returned (.int .i64 (Lib.indexByte s.data.toList c)) ∧ w' = w := Any.stringslite_Index_one Tryz.lays219 s c w
def Tryz.lays146_ren : Go.Shelf.Ren := ⟨fun | 146 => 180 | 221 => 254 | 268 => 306 | 138 => 307 | 143 => 308 | 195 => 356 | 197 => 357 | 218 => 358 | 219 => 348 | 260 => 393 | 217 => 385 | 225 => 386 | 224 => 387 | 267 => 388 | 266 => 405 | 314 => 406 | n => n, fun | 9 => 9 | 31 => 78 | 3 => 3 | 4 => 4 | 0 => 0 | 105 => 386 | 21 => 21 | 5 => 5 | 46 => 218 | 119 => 413 | 139 => 416 | 138 => 415 | 146 => 410 | 51 => 219 | n => n, fun | 1 => 2 | 3 => 6 | 4 => 7 | n => n⟩
theorem Tryz.lays146 : Go.Proofs.Lays.n146 Tryz.prog Tryz.lays146_ren := {
  mixed := by kernel_rfl
  f138 := Tryz.func307.trans (congrArg some (by kernel_rfl))
  f143 := Tryz.func308.trans (congrArg some (by kernel_rfl))
  f146 := Tryz.func180.trans (congrArg some (by kernel_rfl))
  f195 := Tryz.func356.trans (congrArg some (by kernel_rfl))
  f197 := Tryz.func357.trans (congrArg some (by kernel_rfl))
  f217 := Tryz.func385.trans (congrArg some (by kernel_rfl))
  f218 := Tryz.func358.trans (congrArg some (by kernel_rfl))
  f219 := Tryz.func348.trans (congrArg some (by kernel_rfl))
  f221 := Tryz.func254.trans (congrArg some (by kernel_rfl))
  f224 := Tryz.func387.trans (congrArg some (by kernel_rfl))
  f225 := Tryz.func386.trans (congrArg some (by kernel_rfl))
  f260 := Tryz.func393.trans (congrArg some (by kernel_rfl))
  f266 := Tryz.func405.trans (congrArg some (by kernel_rfl))
  f267 := Tryz.func388.trans (congrArg some (by kernel_rfl))
  f268 := Tryz.func306.trans (congrArg some (by kernel_rfl))
  f314 := Tryz.func406.trans (congrArg some (by kernel_rfl))
  t0 := Tryz.underlying0
  a0 := Tryz.isAgg0
  z0 := Tryz.sizeOf0
  v0 := Tryz.zeroValue0
  t3 := Tryz.underlying3
  a3 := Tryz.isAgg3
  z3 := Tryz.sizeOf3
  v3 := Tryz.zeroValue3
  t4 := Tryz.underlying4
  a4 := Tryz.isAgg4
  z4 := Tryz.sizeOf4
  v4 := Tryz.zeroValue4
  t5 := Tryz.underlying5
  a5 := Tryz.isAgg5
  z5 := Tryz.sizeOf5
  v5 := Tryz.zeroValue5
  t9 := Tryz.underlying9
  a9 := Tryz.isAgg9
  z9 := Tryz.sizeOf9
  v9 := Tryz.zeroValue9
  t21 := Tryz.underlying21
  a21 := Tryz.isAgg21
  z21 := Tryz.sizeOf21
  v21 := Tryz.zeroValue21
  t31 := Tryz.underlying78
  a31 := Tryz.isAgg78
  z31 := Tryz.sizeOf78
  v31 := Tryz.zeroValue78
  t46 := Tryz.underlying218
  a46 := Tryz.isAgg218
  z46 := Tryz.sizeOf218
  v46 := Tryz.zeroValue218
  t51 := Tryz.underlying219
  a51 := Tryz.isAgg219
  z51 := Tryz.sizeOf219
  v51 := Tryz.zeroValue219
  t105 := Tryz.underlying386
  a105 := Tryz.isAgg386
  z105 := Tryz.sizeOf386
  v105 := Tryz.zeroValue386
  t119 := Tryz.underlying413
  a119 := Tryz.isAgg413
  z119 := Tryz.sizeOf413
  t138 := Tryz.underlying415
  a138 := Tryz.isAgg415
  z138 := Tryz.sizeOf415
  v138 := Tryz.zeroValue415
  t139 := Tryz.underlying416
  a139 := Tryz.isAgg416
  z139 := Tryz.sizeOf416
  v139 := Tryz.zeroValue416
  t146 := Tryz.underlying410
  a146 := Tryz.isAgg410
  z146 := Tryz.sizeOf410
  v146 := Tryz.zeroValue410
  g1 := by kernel_rfl
  g3 := by kernel_rfl
  g4 := by kernel_rfl }
open Go.RowKit Go.Lib in
/-- strings.Split. (LAID: no walk: one application.) -/
theorem Tryz.strings_Split (s sep : ByteArray) (m : Int) (w : World) (hs : s.size < 4294967281) (hm : w.cell? ⟨2, 0, none⟩ = some (.int .i64 m)) (h1 : 1 ≤ sep.size) :
    Calls Tryz.prog 180 #[.string s, .string sep] w fun e w' =>
      e = .returned (.slice (some ⟨w.heap.size, 0, none⟩) (Lib.countB s sep + 1) (Lib.countB s sep + 1)) ∧ w' = w.alloc (.cells ((Lib.splitB sep 0 (Lib.countB s sep) s).map Value.string).toArray 9) := Any.strings_Split Tryz.lays146 (by kernel_rfl) s sep m w hs hm h1
end Go.Proofs
