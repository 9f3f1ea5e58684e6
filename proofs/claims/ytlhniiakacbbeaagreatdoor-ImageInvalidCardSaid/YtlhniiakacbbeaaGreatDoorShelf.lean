/-
  DERIVED: THE SHELF's CONTRACTS AT THIS DUMP, IN PLAIN WORDS (tools/lay-plain.mjs out of 'TryzShelf.lean', which tools/lay-shelf.mjs wrote): THE SAME DECLARATIONS UNDER THE SAME NAMES: 'import', 'namespace', 'open', 'def', 'theorem' AND NOTHING ELSE: no command of the shelf's: FOR A HAND-IN. Each laying: the table of numbers ('.._ren') and one theorem, a field a fact of the dump's own or the kernel's comparison; each contract: ONE APPLICATION.
-/
import Derived.Shelf.Strings.Builder1
import Derived.Shelf.Strings.Builder2
import Derived.Shelf.Strings.OnBuilder
import Derived.Shelf.Small.Bits
import Derived.Shelf.Small.Strs
import Derived.Shelf.Small.Wraps
import Derived.Shelf.Strings.BuilderF
import Derived.Shelf.Strings.BuilderK
import Derived.Shelf.Utf8.RuneCount
import Derived.Shelf.Strings.Builder2Cap
import Derived.Shelf.Strconv.Itoa0
import Derived.Shelf.Strconv.Itoa1
import Derived.Shelf.LaysM
import Derived.Shelf.Strconv.Itoa2
import Derived.Shelf.Strconv.Itoa3
import Derived.Shelf.Strconv.Itoa4
import Derived.Shelf.Strconv.ParseIntEmpty
import Derived.Shelf.Strconv.Clone
import Derived.Shelf.Strconv.SyntaxError
import Derived.Shelf.LaysC
import Derived.Shelf.Strconv.ToError
import Derived.Shelf.Strconv.Lower
import Derived.Shelf.Strconv.ParseUint10
import Derived.Shelf.Strconv.ParseUint10Empty
import Derived.Shelf.Strconv.ParseUint10Any
import Derived.Shelf.Strconv.ParseInt10
import Derived.Shelf.Strconv.RangeError
import Derived.Shelf.Strconv.ToErrorRange
import Derived.Shelf.Strconv.ParseUintEmpty
import Derived.Shelf.Strconv.ParseUint10b64
import Derived.Shelf.Strconv.ParseUint10b32
import Derived.Shelf.Strconv.ParseUint10b16
import Derived.Shelf.Strconv.ParseUint10b8
import Derived.Shelf.Strconv.ParseUint10At
import Derived.Shelf.Strconv.ParseInt10At64
import Derived.Shelf.Strconv.ParseInt10At32
import Derived.Shelf.Strconv.ParseInt10At16
import Derived.Shelf.Strconv.ParseInt10At8
import Derived.Shelf.Strconv.ParseInt10All
import Derived.Shelf.Strconv.ParseIntPublic10
import Derived.Shelf.Strconv.ErrVarParseInt
import Derived.Shelf.Strings.Search1
import Derived.Shelf.Strings.Search2
import Derived.Shelf.Strings.Search3
import Derived.Shelf.Strings.Cut
import Derived.Shelf.Strings.Count
import Derived.Shelf.Strings.Shaped
import Derived.Shelf.Strings.Prefix
import Derived.Shelf.Strings.Split
import Derived.Shelf.Strings.SplitShaped
import Derived.Shelf.Unicode.Decode
import Derived.Shelf.Strings.RuneCount
import Derived.Shelf.Strings.Explode
import Derived.Shelf.Bits.Mul64
import Derived.Shelf.Unicode.DecodeSlow
import Derived.Shelf.Unicode.DecodeAny
import Derived.Shelf.Strings.BuilderCap
import Derived.Test.YtlhniiakacbbeaaGreatDoorProg
namespace Go.Proofs
open Go.Shelf
def Tryz.lays169_ren : Go.Shelf.Ren := ⟨fun | 169 => 96 | n => n, fun | 70 => 160 | 9 => 9 | 0 => 0 | 72 => 162 | 37 => 68 | 127 => 259 | 3 => 3 | 5 => 5 | n => n, fun | n => n⟩
theorem Tryz.lays169 : Go.Proofs.Lays.n169 Tryz.prog Tryz.lays169_ren := {
  mixed := by kernel_rfl
  f169 := Tryz.func96.trans (congrArg some (by kernel_rfl))
  t0 := Tryz.underlying0
  a0 := Tryz.isAgg0
  z0 := Tryz.sizeOf0
  v0 := Tryz.zeroValue0
  t3 := Tryz.underlying3
  a3 := Tryz.isAgg3
  z3 := Tryz.sizeOf3
  v3 := Tryz.zeroValue3
  t9 := Tryz.underlying9
  a9 := Tryz.isAgg9
  z9 := Tryz.sizeOf9
  v9 := Tryz.zeroValue9
  t37 := Tryz.underlying68
  a37 := Tryz.isAgg68
  z37 := Tryz.sizeOf68
  v37 := Tryz.zeroValue68
  t70 := Tryz.underlying160
  a70 := Tryz.isAgg160
  z70 := Tryz.sizeOf160
  v70 := Tryz.zeroValue160
  t72 := Tryz.underlying162
  a72 := Tryz.isAgg162
  z72 := Tryz.sizeOf162
  v72 := Tryz.zeroValue162
  t127 := Tryz.underlying259
  a127 := Tryz.isAgg259
  z127 := Tryz.sizeOf259
  v127 := Tryz.zeroValue259 }
theorem Tryz.Builder_Extra_169 : Builder.Extra Tryz.prog Tryz.lays169_ren := {
  sizeBuilder := by kernel_rfl
  liesBuilder := by kernel_rfl
  t5 := Tryz.underlying5
  a5 := Tryz.isAgg5
  z5 := Tryz.sizeOf5
  v5 := Tryz.zeroValue5
  infoByte := by kernel_rfl
  cellsByte := by kernel_rfl
  sizeByte := by kernel_rfl
  neB5 := by decide }
open Go.RowKit in
/-- (*strings.Builder).String: "String returns the accumulated string.": WHATEVER THE BUILDER HOLDS. (LAID: no walk: one application.) -/
theorem Tryz.Builder_String_any (B b : Nat) (l : List UInt8) (w : World) (h : Lib.IsBuilder 162 5 B b (Lib.byteCells l) w) (hBw : B ≤ w.heap.size) :
    Calls Tryz.prog 96 #[.pointer (some ⟨b, 0, none⟩)] w fun e w' => e = .returned (.string ⟨l.toArray⟩) ∧ Below B w w' := Any.Builder_String_any Tryz.lays169 Tryz.Builder_Extra_169 B b l w h hBw
def Tryz.lays156_ren : Go.Shelf.Ren := ⟨fun | 156 => 87 | 165 => 176 | 166 => 86 | 169 => 96 | 240 => 175 | 241 => 251 | 276 => 250 | 277 => 323 | n => n, fun | 31 => 163 | 9 => 9 | 3 => 3 | 4 => 4 | 0 => 0 | 20 => 20 | 72 => 162 | 76 => 166 | 70 => 160 | 37 => 68 | 75 => 165 | 127 => 259 | 164 => 325 | 5 => 5 | 80 => 177 | n => n, fun | n => n⟩
theorem Tryz.lays156 : Go.Proofs.Lays.n156 Tryz.prog Tryz.lays156_ren := {
  mixed := by kernel_rfl
  f156 := Tryz.func87.trans (congrArg some (by kernel_rfl))
  f165 := Tryz.func176.trans (congrArg some (by kernel_rfl))
  f166 := Tryz.func86.trans (congrArg some (by kernel_rfl))
  f169 := Tryz.func96.trans (congrArg some (by kernel_rfl))
  f240 := Tryz.func175.trans (congrArg some (by kernel_rfl))
  f241 := Tryz.func251.trans (congrArg some (by kernel_rfl))
  f276 := Tryz.func250.trans (congrArg some (by kernel_rfl))
  f277 := Tryz.func323.trans (congrArg some (by kernel_rfl))
  t0 := Tryz.underlying0
  a0 := Tryz.isAgg0
  z0 := Tryz.sizeOf0
  v0 := Tryz.zeroValue0
  t3 := Tryz.underlying3
  a3 := Tryz.isAgg3
  z3 := Tryz.sizeOf3
  v3 := Tryz.zeroValue3
  t4 := Tryz.underlying4
  a4 := Tryz.isAgg4
  z4 := Tryz.sizeOf4
  v4 := Tryz.zeroValue4
  t9 := Tryz.underlying9
  a9 := Tryz.isAgg9
  z9 := Tryz.sizeOf9
  v9 := Tryz.zeroValue9
  t20 := Tryz.underlying20
  a20 := Tryz.isAgg20
  z20 := Tryz.sizeOf20
  v20 := Tryz.zeroValue20
  t31 := Tryz.underlying163
  a31 := Tryz.isAgg163
  z31 := Tryz.sizeOf163
  v31 := Tryz.zeroValue163
  t37 := Tryz.underlying68
  a37 := Tryz.isAgg68
  z37 := Tryz.sizeOf68
  v37 := Tryz.zeroValue68
  t70 := Tryz.underlying160
  a70 := Tryz.isAgg160
  z70 := Tryz.sizeOf160
  v70 := Tryz.zeroValue160
  t72 := Tryz.underlying162
  a72 := Tryz.isAgg162
  z72 := Tryz.sizeOf162
  v72 := Tryz.zeroValue162
  t75 := Tryz.underlying165
  a75 := Tryz.isAgg165
  z75 := Tryz.sizeOf165
  v75 := Tryz.zeroValue165
  t76 := Tryz.underlying166
  a76 := Tryz.isAgg166
  z76 := Tryz.sizeOf166
  v76 := Tryz.zeroValue166
  t127 := Tryz.underlying259
  a127 := Tryz.isAgg259
  z127 := Tryz.sizeOf259
  v127 := Tryz.zeroValue259
  t164 := Tryz.underlying325
  a164 := Tryz.isAgg325
  z164 := Tryz.sizeOf325
  v164 := Tryz.zeroValue325 }
theorem Tryz.Builder_Extra_156 : Builder.Extra Tryz.prog Tryz.lays156_ren := {
  sizeBuilder := by kernel_rfl
  liesBuilder := by kernel_rfl
  t5 := Tryz.underlying5
  a5 := Tryz.isAgg5
  z5 := Tryz.sizeOf5
  v5 := Tryz.zeroValue5
  infoByte := by kernel_rfl
  cellsByte := by kernel_rfl
  sizeByte := by kernel_rfl
  neB5 := by decide }
open Go.RowKit in
/-- No element: the empty string; the world is as it was. (Whatever the slice's address and capacity: a nil slice too.) (LAID: no walk: one application.) -/
theorem Tryz.strings_Join_none (a : Option Addr) (c : Nat) (sep : ByteArray) (w : World) :
    Calls Tryz.prog 87 #[.slice a 0 c, .string sep] w fun e w' => e = .returned (.string ⟨#[]⟩) ∧ w' = w := Any.strings_Join_none Tryz.lays156 Tryz.Builder_Extra_156 a c sep w
open Go.RowKit in
/-- strings.Join: "Join concatenates the elements of its first argument to create a single string. The separator string sep is placed between elements in the resulting string.": HOWEVER MANY ELEMENTS. Below the heap's end the world is as it was. (LAID: no walk: one application.) -/
theorem Tryz.strings_Join (bk o c : Nat) (xs : List ByteArray) (sep : ByteArray) (w : World) (hcells : ∀ (j : Nat) x, xs[j]? = some x → w.cell? ⟨bk, o + j, none⟩ = some (.string x)) (hbk : bk < w.heap.size) (hN : xs.length ≤ 140737488355328) (hcap : xs.length ≤ c) (hlen : (Lib.join (xs.map (·.data.toList)) sep.data.toList).length ≤ 140737488355328) :
    Calls Tryz.prog 87 #[.slice (some ⟨bk, o, none⟩) xs.length c, .string sep] w fun e w' => e = .returned (.string ⟨(Lib.join (xs.map (·.data.toList)) sep.data.toList).toArray⟩) ∧ Below w.heap.size w w' := Any.strings_Join Tryz.lays156 Tryz.Builder_Extra_156 bk o c xs sep w hcells hbk hN hcap hlen
def Tryz.lays103_ren : Go.Shelf.Ren := ⟨fun | 103 => 372 | 210 => 388 | 206 => 376 | n => n, fun | 9 => 9 | 4 => 4 | 24 => 347 | 3 => 3 | n => n, fun | n => n⟩
theorem Tryz.lays103 : Go.Proofs.Lays.n103 Tryz.prog Tryz.lays103_ren := {
  mixed := by kernel_rfl
  f103 := Tryz.func372.trans (congrArg some (by kernel_rfl))
  f206 := Tryz.func376.trans (congrArg some (by kernel_rfl))
  f210 := Tryz.func388.trans (congrArg some (by kernel_rfl))
  t3 := Tryz.underlying3
  a3 := Tryz.isAgg3
  z3 := Tryz.sizeOf3
  v3 := Tryz.zeroValue3
  t4 := Tryz.underlying4
  a4 := Tryz.isAgg4
  z4 := Tryz.sizeOf4
  v4 := Tryz.zeroValue4
  t9 := Tryz.underlying9
  a9 := Tryz.isAgg9
  z9 := Tryz.sizeOf9
  v9 := Tryz.zeroValue9
  t24 := Tryz.underlying347
  a24 := Tryz.isAgg347
  z24 := Tryz.sizeOf347
  v24 := Tryz.zeroValue347 }
open Go.RowKit in
/-- strings.CutPrefix: "CutPrefix returns s without the provided leading prefix string and reports whether it found the prefix. If s doesn't start with prefix, CutPrefix returns s, false. If prefix is the empty string, CutPrefix returns s, true.": IT RETURNS '(Lib.trimPrefix s p, Lib.hasPrefix s p)'; the world is as it was. (LAID: no walk: one application.) -/
theorem Tryz.strings_CutPrefix (s p : ByteArray) (w : World) :
    Calls Tryz.prog 372 #[.string s, .string p] w fun e w' => e = .returned (.tuple #[.string ⟨(Lib.trimPrefix s.data.toList p.data.toList).toArray⟩, .bool (Lib.hasPrefix s.data.toList p.data.toList)]) ∧ w' = w := Any.strings_CutPrefix Tryz.lays103 s p w
def Tryz.lays104_ren : Go.Shelf.Ren := ⟨fun | 104 => 395 | 211 => 403 | 207 => 405 | n => n, fun | 9 => 9 | 4 => 4 | 24 => 347 | 3 => 3 | n => n, fun | n => n⟩
theorem Tryz.lays104 : Go.Proofs.Lays.n104 Tryz.prog Tryz.lays104_ren := {
  mixed := by kernel_rfl
  f104 := Tryz.func395.trans (congrArg some (by kernel_rfl))
  f207 := Tryz.func405.trans (congrArg some (by kernel_rfl))
  f211 := Tryz.func403.trans (congrArg some (by kernel_rfl))
  t3 := Tryz.underlying3
  a3 := Tryz.isAgg3
  z3 := Tryz.sizeOf3
  v3 := Tryz.zeroValue3
  t4 := Tryz.underlying4
  a4 := Tryz.isAgg4
  z4 := Tryz.sizeOf4
  v4 := Tryz.zeroValue4
  t9 := Tryz.underlying9
  a9 := Tryz.isAgg9
  z9 := Tryz.sizeOf9
  v9 := Tryz.zeroValue9
  t24 := Tryz.underlying347
  a24 := Tryz.isAgg347
  z24 := Tryz.sizeOf347
  v24 := Tryz.zeroValue347 }
open Go.RowKit in
/-- strings.CutSuffix: "CutSuffix returns s without the provided ending suffix string and reports whether it found the suffix. If s doesn't end with suffix, CutSuffix returns s, false. If suffix is the empty string, CutSuffix returns s, true.": IT RETURNS '(Lib.trimSuffix s p, Lib.hasSuffix s p)'; the world is as it was. (LAID: no walk: one application.) -/
theorem Tryz.strings_CutSuffix (s p : ByteArray) (w : World) (hs : s.size ≤ 9223372036854775807) :
    Calls Tryz.prog 395 #[.string s, .string p] w fun e w' => e = .returned (.tuple #[.string ⟨(Lib.trimSuffix s.data.toList p.data.toList).toArray⟩, .bool (Lib.hasSuffix s.data.toList p.data.toList)]) ∧ w' = w := Any.strings_CutSuffix Tryz.lays104 s p w hs
def Tryz.laysM173_ren : Go.Shelf.Ren := ⟨fun | 173 => 255 | 246 => 324 | 283 => 356 | 284 => 357 | 285 => 358 | 286 => 359 | 129 => 331 | 317 => 380 | 318 => 381 | 319 => 382 | 320 => 383 | 337 => 396 | 338 => 397 | n => n, fun | 2 => 2 | 3 => 3 | 9 => 9 | 4 => 4 | 171 => 380 | 0 => 0 | 53 => 226 | 37 => 68 | 5 => 5 | 173 => 382 | 212 => 396 | 51 => 205 | 20 => 20 | 213 => 397 | 46 => 204 | 232 => 418 | 233 => 419 | n => n, fun | 17 => 5 | 18 => 10 | 19 => 11 | n => n⟩
theorem Tryz.laysM173 : Go.Proofs.LaysM.n173 Tryz.prog Tryz.laysM173_ren := {
  mixed := by kernel_rfl
  f129 := Tryz.func331.trans (congrArg some (by kernel_rfl))
  f173 := Tryz.func255.trans (congrArg some (by kernel_rfl))
  f246 := Tryz.func324.trans (congrArg some (by kernel_rfl))
  f283 := Tryz.func356.trans (congrArg some (by kernel_rfl))
  f284 := Tryz.func357.trans (congrArg some (by kernel_rfl))
  f285 := Tryz.func358.trans (congrArg some (by kernel_rfl))
  f286 := Tryz.func359.trans (congrArg some (by kernel_rfl))
  f317 := Tryz.func380.trans (congrArg some (by kernel_rfl))
  f318 := Tryz.func381.trans (congrArg some (by kernel_rfl))
  f319 := Tryz.func382.trans (congrArg some (by kernel_rfl))
  f320 := Tryz.func383.trans (congrArg some (by kernel_rfl))
  f337 := Tryz.func396.trans (congrArg some (by kernel_rfl))
  f338 := Tryz.func397.trans (congrArg some (by kernel_rfl))
  t0 := Tryz.underlying0
  a0 := Tryz.isAgg0
  z0 := Tryz.sizeOf0
  v0 := Tryz.zeroValue0
  t2 := Tryz.underlying2
  a2 := Tryz.isAgg2
  z2 := Tryz.sizeOf2
  v2 := Tryz.zeroValue2
  t3 := Tryz.underlying3
  a3 := Tryz.isAgg3
  z3 := Tryz.sizeOf3
  v3 := Tryz.zeroValue3
  t4 := Tryz.underlying4
  a4 := Tryz.isAgg4
  z4 := Tryz.sizeOf4
  v4 := Tryz.zeroValue4
  t5 := Tryz.underlying5
  a5 := Tryz.isAgg5
  z5 := Tryz.sizeOf5
  v5 := Tryz.zeroValue5
  t9 := Tryz.underlying9
  a9 := Tryz.isAgg9
  z9 := Tryz.sizeOf9
  v9 := Tryz.zeroValue9
  t20 := Tryz.underlying20
  a20 := Tryz.isAgg20
  z20 := Tryz.sizeOf20
  v20 := Tryz.zeroValue20
  t37 := Tryz.underlying68
  a37 := Tryz.isAgg68
  z37 := Tryz.sizeOf68
  v37 := Tryz.zeroValue68
  t46 := Tryz.underlying204
  a46 := Tryz.isAgg204
  z46 := Tryz.sizeOf204
  v46 := Tryz.zeroValue204
  t51 := Tryz.underlying205
  a51 := Tryz.isAgg205
  z51 := Tryz.sizeOf205
  v51 := Tryz.zeroValue205
  t53 := Tryz.underlying226
  a53 := Tryz.isAgg226
  z53 := Tryz.sizeOf226
  v53 := Tryz.zeroValue226
  t171 := Tryz.underlying380
  a171 := Tryz.isAgg380
  z171 := Tryz.sizeOf380
  v171 := Tryz.zeroValue380
  t173 := Tryz.underlying382
  a173 := Tryz.isAgg382
  z173 := Tryz.sizeOf382
  v173 := Tryz.zeroValue382
  t212 := Tryz.underlying396
  a212 := Tryz.isAgg396
  z212 := Tryz.sizeOf396
  v212 := Tryz.zeroValue396
  t213 := Tryz.underlying397
  a213 := Tryz.isAgg397
  z213 := Tryz.sizeOf397
  t232 := Tryz.underlying418
  a232 := Tryz.isAgg418
  z232 := Tryz.sizeOf418
  v232 := Tryz.zeroValue418
  t233 := Tryz.underlying419
  a233 := Tryz.isAgg419
  z233 := Tryz.sizeOf419
  v233 := Tryz.zeroValue419
  g17 := by kernel_rfl
  g18 := by kernel_rfl
  g19 := by kernel_rfl
  i0 := by kernel_rfl
  i2 := by kernel_rfl
  i3 := by kernel_rfl
  i4 := by kernel_rfl
  i5 := by kernel_rfl
  i9 := by kernel_rfl
  i20 := by kernel_rfl
  i37 := by kernel_rfl
  i46 := by kernel_rfl
  i51 := by kernel_rfl
  i53 := by kernel_rfl
  i171 := by kernel_rfl
  i173 := by kernel_rfl
  i212 := by kernel_rfl
  i232 := by kernel_rfl
  i233 := by kernel_rfl
  m17 := by kernel_rfl
  m18 := by kernel_rfl
  m19 := by kernel_rfl }
open Go.RowKit Go.Sort Go.Lib in
/-- strconv.FormatInt: "FormatInt returns the string representation of i in the given base": AT BASE 10: i's decimal numeral, for every int64. (LAID: no walk: one application.) -/
theorem Tryz.strconv_FormatInt_10 (n : Int) (h0 : -9223372036854775808 ≤ n) (h1 : n ≤ 9223372036854775807) (w : World) (htab : Lib.TabIs Tryz.prog w "internal/strconv.uint64pow10" .u64 Lib.pow10Tab) :
    Calls Tryz.prog 255 #[.int .i64 n, .int .i64 10] w fun e w' => e = .returned (.string ⟨(Lib.itoa n).toArray⟩) ∧ ∃ k os, w' = grow (w.drewN k) os := Any.strconv_FormatInt_10 Tryz.laysM173 n h0 h1 w htab
def Tryz.laysC174_ren : Go.Shelf.Ren := ⟨fun | 174 => 341 | 247 => 373 | 245 => 374 | 287 => 389 | 279 => 390 | 280 => 391 | 281 => 392 | 282 => 393 | 321 => 398 | 322 => 399 | 316 => 400 | 171 => 402 | 205 => 401 | 243 => 404 | 246 => 324 | 283 => 356 | 284 => 357 | 285 => 358 | 286 => 359 | 129 => 331 | 317 => 380 | 318 => 381 | 319 => 382 | 320 => 383 | 337 => 396 | 338 => 397 | n => n, fun | 9 => 9 | 3 => 3 | 2 => 2 | 75 => 165 | 85 => 376 | 4 => 4 | 167 => 406 | 5 => 5 | 53 => 226 | 175 => 407 | 46 => 204 | 168 => 409 | 37 => 68 | 0 => 0 | 210 => 416 | 21 => 21 | 127 => 259 | 145 => 422 | 143 => 420 | 171 => 380 | 173 => 382 | 212 => 396 | 51 => 205 | 20 => 20 | 213 => 397 | 232 => 418 | 233 => 419 | 80 => 177 | n => n, fun | 15 => 8 | 16 => 9 | 17 => 5 | 18 => 10 | 19 => 11 | n => n⟩
theorem Tryz.laysC174 : Go.Proofs.LaysC.n174 Tryz.prog Tryz.laysC174_ren := {
  mixed := by kernel_rfl
  f129 := Tryz.func331.trans (congrArg some (by kernel_rfl))
  f171 := Tryz.func402.trans (congrArg some (by kernel_rfl))
  f174 := Tryz.func341.trans (congrArg some (by kernel_rfl))
  f205 := Tryz.func401.trans (congrArg some (by kernel_rfl))
  f243 := Tryz.func404.trans (congrArg some (by kernel_rfl))
  f245 := Tryz.func374.trans (congrArg some (by kernel_rfl))
  f246 := Tryz.func324.trans (congrArg some (by kernel_rfl))
  f247 := Tryz.func373.trans (congrArg some (by kernel_rfl))
  f279 := Tryz.func390.trans (congrArg some (by kernel_rfl))
  f280 := Tryz.func391.trans (congrArg some (by kernel_rfl))
  f281 := Tryz.func392.trans (congrArg some (by kernel_rfl))
  f282 := Tryz.func393.trans (congrArg some (by kernel_rfl))
  f283 := Tryz.func356.trans (congrArg some (by kernel_rfl))
  f284 := Tryz.func357.trans (congrArg some (by kernel_rfl))
  f285 := Tryz.func358.trans (congrArg some (by kernel_rfl))
  f286 := Tryz.func359.trans (congrArg some (by kernel_rfl))
  f287 := Tryz.func389.trans (congrArg some (by kernel_rfl))
  f316 := Tryz.func400.trans (congrArg some (by kernel_rfl))
  f317 := Tryz.func380.trans (congrArg some (by kernel_rfl))
  f318 := Tryz.func381.trans (congrArg some (by kernel_rfl))
  f319 := Tryz.func382.trans (congrArg some (by kernel_rfl))
  f320 := Tryz.func383.trans (congrArg some (by kernel_rfl))
  f321 := Tryz.func398.trans (congrArg some (by kernel_rfl))
  f322 := Tryz.func399.trans (congrArg some (by kernel_rfl))
  f337 := Tryz.func396.trans (congrArg some (by kernel_rfl))
  f338 := Tryz.func397.trans (congrArg some (by kernel_rfl))
  t0 := Tryz.underlying0
  a0 := Tryz.isAgg0
  z0 := Tryz.sizeOf0
  v0 := Tryz.zeroValue0
  t2 := Tryz.underlying2
  a2 := Tryz.isAgg2
  z2 := Tryz.sizeOf2
  v2 := Tryz.zeroValue2
  t3 := Tryz.underlying3
  a3 := Tryz.isAgg3
  z3 := Tryz.sizeOf3
  v3 := Tryz.zeroValue3
  t4 := Tryz.underlying4
  a4 := Tryz.isAgg4
  z4 := Tryz.sizeOf4
  v4 := Tryz.zeroValue4
  t5 := Tryz.underlying5
  a5 := Tryz.isAgg5
  z5 := Tryz.sizeOf5
  v5 := Tryz.zeroValue5
  t9 := Tryz.underlying9
  a9 := Tryz.isAgg9
  z9 := Tryz.sizeOf9
  v9 := Tryz.zeroValue9
  t20 := Tryz.underlying20
  a20 := Tryz.isAgg20
  z20 := Tryz.sizeOf20
  v20 := Tryz.zeroValue20
  t21 := Tryz.underlying21
  a21 := Tryz.isAgg21
  z21 := Tryz.sizeOf21
  v21 := Tryz.zeroValue21
  t37 := Tryz.underlying68
  a37 := Tryz.isAgg68
  z37 := Tryz.sizeOf68
  v37 := Tryz.zeroValue68
  t46 := Tryz.underlying204
  a46 := Tryz.isAgg204
  z46 := Tryz.sizeOf204
  v46 := Tryz.zeroValue204
  t51 := Tryz.underlying205
  a51 := Tryz.isAgg205
  z51 := Tryz.sizeOf205
  v51 := Tryz.zeroValue205
  t53 := Tryz.underlying226
  a53 := Tryz.isAgg226
  z53 := Tryz.sizeOf226
  v53 := Tryz.zeroValue226
  t75 := Tryz.underlying165
  a75 := Tryz.isAgg165
  z75 := Tryz.sizeOf165
  v75 := Tryz.zeroValue165
  t85 := Tryz.underlying376
  a85 := Tryz.isAgg376
  z85 := Tryz.sizeOf376
  v85 := Tryz.zeroValue376
  t127 := Tryz.underlying259
  a127 := Tryz.isAgg259
  z127 := Tryz.sizeOf259
  v127 := Tryz.zeroValue259
  t143 := Tryz.underlying420
  a143 := Tryz.isAgg420
  z143 := Tryz.sizeOf420
  v143 := Tryz.zeroValue420
  t145 := Tryz.underlying422
  a145 := Tryz.isAgg422
  z145 := Tryz.sizeOf422
  v145 := Tryz.zeroValue422
  t167 := Tryz.underlying406
  a167 := Tryz.isAgg406
  z167 := Tryz.sizeOf406
  v167 := Tryz.zeroValue406
  t168 := Tryz.underlying409
  a168 := Tryz.isAgg409
  z168 := Tryz.sizeOf409
  v168 := Tryz.zeroValue409
  t171 := Tryz.underlying380
  a171 := Tryz.isAgg380
  z171 := Tryz.sizeOf380
  v171 := Tryz.zeroValue380
  t173 := Tryz.underlying382
  a173 := Tryz.isAgg382
  z173 := Tryz.sizeOf382
  v173 := Tryz.zeroValue382
  t175 := Tryz.underlying407
  a175 := Tryz.isAgg407
  z175 := Tryz.sizeOf407
  v175 := Tryz.zeroValue407
  t210 := Tryz.underlying416
  a210 := Tryz.isAgg416
  z210 := Tryz.sizeOf416
  v210 := Tryz.zeroValue416
  t212 := Tryz.underlying396
  a212 := Tryz.isAgg396
  z212 := Tryz.sizeOf396
  v212 := Tryz.zeroValue396
  t213 := Tryz.underlying397
  a213 := Tryz.isAgg397
  z213 := Tryz.sizeOf397
  t232 := Tryz.underlying418
  a232 := Tryz.isAgg418
  z232 := Tryz.sizeOf418
  v232 := Tryz.zeroValue418
  t233 := Tryz.underlying419
  a233 := Tryz.isAgg419
  z233 := Tryz.sizeOf419
  v233 := Tryz.zeroValue419
  g15 := by kernel_rfl
  g16 := by kernel_rfl
  g17 := by kernel_rfl
  g18 := by kernel_rfl
  g19 := by kernel_rfl
  t80 := Tryz.underlying177
  a80 := Tryz.isAgg177
  z80 := Tryz.sizeOf177
  v80 := Tryz.zeroValue177
  i0 := by kernel_rfl
  i2 := by kernel_rfl
  i3 := by kernel_rfl
  i4 := by kernel_rfl
  i5 := by kernel_rfl
  i9 := by kernel_rfl
  i20 := by kernel_rfl
  i21 := by kernel_rfl
  i37 := by kernel_rfl
  i46 := by kernel_rfl
  i51 := by kernel_rfl
  i53 := by kernel_rfl
  i75 := by kernel_rfl
  i80 := by kernel_rfl
  i85 := by kernel_rfl
  i127 := by kernel_rfl
  i143 := by kernel_rfl
  i145 := by kernel_rfl
  i167 := by kernel_rfl
  i168 := by kernel_rfl
  i171 := by kernel_rfl
  i173 := by kernel_rfl
  i175 := by kernel_rfl
  i210 := by kernel_rfl
  i212 := by kernel_rfl
  i232 := by kernel_rfl
  i233 := by kernel_rfl
  m15 := by kernel_rfl
  m16 := by kernel_rfl
  m17 := by kernel_rfl
  m18 := by kernel_rfl
  m19 := by kernel_rfl
  c0 := by kernel_rfl
  c2 := by kernel_rfl
  c3 := by kernel_rfl
  c4 := by kernel_rfl
  c5 := by kernel_rfl
  c9 := by kernel_rfl
  c20 := by kernel_rfl
  c21 := by kernel_rfl
  c37 := by kernel_rfl
  c46 := by kernel_rfl
  c51 := by kernel_rfl
  c53 := by kernel_rfl
  c75 := by kernel_rfl
  c80 := by kernel_rfl
  c85 := by kernel_rfl
  c127 := by kernel_rfl
  c143 := by kernel_rfl
  c145 := by kernel_rfl
  c167 := by kernel_rfl
  c168 := by kernel_rfl
  c171 := by kernel_rfl
  c173 := by kernel_rfl
  c175 := by kernel_rfl
  c210 := by kernel_rfl
  c212 := by kernel_rfl
  c213 := by kernel_rfl
  c232 := by kernel_rfl
  c233 := by kernel_rfl }
open Go.RowKit in
/-- strconv.ParseInt(s, 10, 64), AT EVERY STRING THAT SPELLS AN int64 ('Lib.parseIntB 64 s.data.toList = .ok v'): v, AND NO ERROR. (LAID: no walk: one application.) -/
theorem Tryz.strconv_ParseInt_10_at64_ok (s : ByteArray) (hmax : s.size ≤ 9223372036854775806) (v : Int) (h : Lib.parseIntB 64 s.data.toList = .ok v) (w : World) :
    Calls Tryz.prog 341 #[.string s, .int .i64 10, .int .i64 64] w fun e w' => e = .returned (.tuple #[.int .i64 v, .nilIface]) ∧ (w' = w ∨ ∃ t, w' = Lib.bytesWorld w 5 t) := Any.strconv_ParseInt_10_at64_ok Tryz.laysC174 s hmax v h w
open Go.RowKit in
/-- strconv.ParseInt(s, 10, 64), AT EVERY NUMERAL THAT NO int64 HOLDS: THE GREATEST OR THE LEAST int64, BY THE SIGN ('Lib.intSat 64'), AND AN ERROR THAT IS NOT nil: a *NumError in a new block N: {Func: "ParseInt", Num: s's bytes, Err: what the variable ErrRange holds}. Of what was there nothing has turned. (LAID: no walk: one application.) -/
theorem Tryz.strconv_ParseInt_10_at64_range (s : ByteArray) (hlim : s.size ≤ 281474976710656) (h : Lib.parseIntB 64 s.data.toList = .range) (ev : Value) (w : World) (hv : w.cell? ⟨9, 0, none⟩ = some ev) (hev : ev = .nilIface ∨ ∃ te pe, ev = .iface te pe) :
    Calls Tryz.prog 341 #[.string s, .int .i64 10, .int .i64 64] w fun e w' => ∃ N, e = .returned (.tuple #[.int .i64 (Lib.intSat 64 s.data.toList), .iface 409 (.pointer (some ⟨N, 0, none⟩))]) ∧ w.heap.size ≤ N ∧ w'.heap[N]? = some (.cells #[.string ⟨#[80, 97, 114, 115, 101, 73, 110, 116]⟩, .string s, ev] 416 (0, 0)) ∧ Below w.heap.size w w' := Any.strconv_ParseInt_10_at64_range Tryz.laysC174 s hlim h ev w hv hev
def Tryz.lays219_ren : Go.Shelf.Ren := ⟨fun | 219 => 332 | 217 => 366 | 225 => 367 | 224 => 368 | 267 => 369 | 266 => 386 | 314 => 387 | n => n, fun | 9 => 9 | 3 => 3 | 4 => 4 | 5 => 5 | 46 => 204 | 146 => 400 | 51 => 205 | n => n, fun | 1 => 2 | n => n⟩
theorem Tryz.lays219 : Go.Proofs.Lays.n219 Tryz.prog Tryz.lays219_ren := {
  mixed := by kernel_rfl
  f217 := Tryz.func366.trans (congrArg some (by kernel_rfl))
  f219 := Tryz.func332.trans (congrArg some (by kernel_rfl))
  f224 := Tryz.func368.trans (congrArg some (by kernel_rfl))
  f225 := Tryz.func367.trans (congrArg some (by kernel_rfl))
  f266 := Tryz.func386.trans (congrArg some (by kernel_rfl))
  f267 := Tryz.func369.trans (congrArg some (by kernel_rfl))
  f314 := Tryz.func387.trans (congrArg some (by kernel_rfl))
  t3 := Tryz.underlying3
  a3 := Tryz.isAgg3
  z3 := Tryz.sizeOf3
  v3 := Tryz.zeroValue3
  t4 := Tryz.underlying4
  a4 := Tryz.isAgg4
  z4 := Tryz.sizeOf4
  v4 := Tryz.zeroValue4
  t5 := Tryz.underlying5
  a5 := Tryz.isAgg5
  z5 := Tryz.sizeOf5
  v5 := Tryz.zeroValue5
  t9 := Tryz.underlying9
  a9 := Tryz.isAgg9
  z9 := Tryz.sizeOf9
  v9 := Tryz.zeroValue9
  t46 := Tryz.underlying204
  a46 := Tryz.isAgg204
  z46 := Tryz.sizeOf204
  v46 := Tryz.zeroValue204
  t51 := Tryz.underlying205
  a51 := Tryz.isAgg205
  z51 := Tryz.sizeOf205
  v51 := Tryz.zeroValue205
  t146 := Tryz.underlying400
  a146 := Tryz.isAgg400
  z146 := Tryz.sizeOf400
  v146 := Tryz.zeroValue400
  g1 := by kernel_rfl }
open Go.RowKit Go.Lib in
/-- internal/stringslite.Index (what strings.Index calls) AT A substr OF ONE BYTE c: IT RETURNS 'Lib.indexByte s c'; the world is as it was. (LAID: no walk: one application.) -/
theorem Tryz.stringslite_Index_one (s : ByteArray) (c : UInt8) (w : World) :
    Calls Tryz.prog 332 #[.string s, .string ⟨#[c]⟩] w fun e w' => e = .returned (.int .i64 (Lib.indexByte s.data.toList c)) ∧ w' = w := Any.stringslite_Index_one Tryz.lays219 s c w
def Tryz.lays145_ren : Go.Shelf.Ren := ⟨fun | 145 => 213 | 220 => 279 | 219 => 332 | 217 => 366 | 225 => 367 | 224 => 368 | 267 => 369 | 266 => 386 | 314 => 387 | n => n, fun | 9 => 9 | 4 => 4 | 59 => 282 | 3 => 3 | 5 => 5 | 46 => 204 | 146 => 400 | 51 => 205 | n => n, fun | 1 => 2 | n => n⟩
theorem Tryz.lays145 : Go.Proofs.Lays.n145 Tryz.prog Tryz.lays145_ren := {
  mixed := by kernel_rfl
  f145 := Tryz.func213.trans (congrArg some (by kernel_rfl))
  f217 := Tryz.func366.trans (congrArg some (by kernel_rfl))
  f219 := Tryz.func332.trans (congrArg some (by kernel_rfl))
  f220 := Tryz.func279.trans (congrArg some (by kernel_rfl))
  f224 := Tryz.func368.trans (congrArg some (by kernel_rfl))
  f225 := Tryz.func367.trans (congrArg some (by kernel_rfl))
  f266 := Tryz.func386.trans (congrArg some (by kernel_rfl))
  f267 := Tryz.func369.trans (congrArg some (by kernel_rfl))
  f314 := Tryz.func387.trans (congrArg some (by kernel_rfl))
  t3 := Tryz.underlying3
  a3 := Tryz.isAgg3
  z3 := Tryz.sizeOf3
  v3 := Tryz.zeroValue3
  t4 := Tryz.underlying4
  a4 := Tryz.isAgg4
  z4 := Tryz.sizeOf4
  v4 := Tryz.zeroValue4
  t5 := Tryz.underlying5
  a5 := Tryz.isAgg5
  z5 := Tryz.sizeOf5
  v5 := Tryz.zeroValue5
  t9 := Tryz.underlying9
  a9 := Tryz.isAgg9
  z9 := Tryz.sizeOf9
  v9 := Tryz.zeroValue9
  t46 := Tryz.underlying204
  a46 := Tryz.isAgg204
  z46 := Tryz.sizeOf204
  v46 := Tryz.zeroValue204
  t51 := Tryz.underlying205
  a51 := Tryz.isAgg205
  z51 := Tryz.sizeOf205
  v51 := Tryz.zeroValue205
  t59 := Tryz.underlying282
  a59 := Tryz.isAgg282
  z59 := Tryz.sizeOf282
  v59 := Tryz.zeroValue282
  t146 := Tryz.underlying400
  a146 := Tryz.isAgg400
  z146 := Tryz.sizeOf400
  v146 := Tryz.zeroValue400
  g1 := by kernel_rfl }
open Go.RowKit Go.Lib in
/-- strings.Cut: "Cut slices s around the first instance of sep, returning the text before and after sep. The found result reports whether sep appears in s. If sep does not appear in s, cut returns s, "", false.": IT RETURNS 'Lib.cut s sep'; the world is as it was but for the count of draws. (LAID: no walk: one application.) -/
theorem Tryz.strings_Cut (s sep : ByteArray) (m : Int) (w : World) (hs : s.size < 4294967281) (hm : w.cell? ⟨2, 0, none⟩ = some (.int .i64 m)) :
    Calls Tryz.prog 213 #[.string s, .string sep] w fun e w' => e = .returned (.tuple #[.string ⟨(Lib.cut s.data.toList sep.data.toList).1.toArray⟩, .string ⟨(Lib.cut s.data.toList sep.data.toList).2.1.toArray⟩, .bool (Lib.cut s.data.toList sep.data.toList).2.2]) ∧ ∃ n, w' = w.drewN n := Any.strings_Cut Tryz.lays145 s sep m w hs hm
def Tryz.lays146_ren : Go.Shelf.Ren := ⟨fun | 146 => 158 | 221 => 229 | 268 => 287 | 138 => 288 | 143 => 289 | 195 => 333 | 197 => 334 | 218 => 335 | 219 => 332 | 260 => 370 | 217 => 366 | 225 => 367 | 224 => 368 | 267 => 369 | 266 => 386 | 314 => 387 | n => n, fun | 9 => 9 | 31 => 163 | 3 => 3 | 4 => 4 | 0 => 0 | 105 => 372 | 21 => 21 | 5 => 5 | 46 => 204 | 119 => 402 | 139 => 405 | 138 => 404 | 146 => 400 | 51 => 205 | n => n, fun | 1 => 2 | 3 => 6 | 4 => 7 | n => n⟩
theorem Tryz.lays146 : Go.Proofs.Lays.n146 Tryz.prog Tryz.lays146_ren := {
  mixed := by kernel_rfl
  f138 := Tryz.func288.trans (congrArg some (by kernel_rfl))
  f143 := Tryz.func289.trans (congrArg some (by kernel_rfl))
  f146 := Tryz.func158.trans (congrArg some (by kernel_rfl))
  f195 := Tryz.func333.trans (congrArg some (by kernel_rfl))
  f197 := Tryz.func334.trans (congrArg some (by kernel_rfl))
  f217 := Tryz.func366.trans (congrArg some (by kernel_rfl))
  f218 := Tryz.func335.trans (congrArg some (by kernel_rfl))
  f219 := Tryz.func332.trans (congrArg some (by kernel_rfl))
  f221 := Tryz.func229.trans (congrArg some (by kernel_rfl))
  f224 := Tryz.func368.trans (congrArg some (by kernel_rfl))
  f225 := Tryz.func367.trans (congrArg some (by kernel_rfl))
  f260 := Tryz.func370.trans (congrArg some (by kernel_rfl))
  f266 := Tryz.func386.trans (congrArg some (by kernel_rfl))
  f267 := Tryz.func369.trans (congrArg some (by kernel_rfl))
  f268 := Tryz.func287.trans (congrArg some (by kernel_rfl))
  f314 := Tryz.func387.trans (congrArg some (by kernel_rfl))
  t0 := Tryz.underlying0
  a0 := Tryz.isAgg0
  z0 := Tryz.sizeOf0
  v0 := Tryz.zeroValue0
  t3 := Tryz.underlying3
  a3 := Tryz.isAgg3
  z3 := Tryz.sizeOf3
  v3 := Tryz.zeroValue3
  t4 := Tryz.underlying4
  a4 := Tryz.isAgg4
  z4 := Tryz.sizeOf4
  v4 := Tryz.zeroValue4
  t5 := Tryz.underlying5
  a5 := Tryz.isAgg5
  z5 := Tryz.sizeOf5
  v5 := Tryz.zeroValue5
  t9 := Tryz.underlying9
  a9 := Tryz.isAgg9
  z9 := Tryz.sizeOf9
  v9 := Tryz.zeroValue9
  t21 := Tryz.underlying21
  a21 := Tryz.isAgg21
  z21 := Tryz.sizeOf21
  v21 := Tryz.zeroValue21
  t31 := Tryz.underlying163
  a31 := Tryz.isAgg163
  z31 := Tryz.sizeOf163
  v31 := Tryz.zeroValue163
  t46 := Tryz.underlying204
  a46 := Tryz.isAgg204
  z46 := Tryz.sizeOf204
  v46 := Tryz.zeroValue204
  t51 := Tryz.underlying205
  a51 := Tryz.isAgg205
  z51 := Tryz.sizeOf205
  v51 := Tryz.zeroValue205
  t105 := Tryz.underlying372
  a105 := Tryz.isAgg372
  z105 := Tryz.sizeOf372
  v105 := Tryz.zeroValue372
  t119 := Tryz.underlying402
  a119 := Tryz.isAgg402
  z119 := Tryz.sizeOf402
  t138 := Tryz.underlying404
  a138 := Tryz.isAgg404
  z138 := Tryz.sizeOf404
  v138 := Tryz.zeroValue404
  t139 := Tryz.underlying405
  a139 := Tryz.isAgg405
  z139 := Tryz.sizeOf405
  v139 := Tryz.zeroValue405
  t146 := Tryz.underlying400
  a146 := Tryz.isAgg400
  z146 := Tryz.sizeOf400
  v146 := Tryz.zeroValue400
  g1 := by kernel_rfl
  g3 := by kernel_rfl
  g4 := by kernel_rfl }
open Go.RowKit Go.Lib in
/-- strings.Split. (LAID: no walk: one application.) -/
theorem Tryz.strings_Split (s sep : ByteArray) (m : Int) (w : World) (hs : s.size < 4294967281) (hm : w.cell? ⟨2, 0, none⟩ = some (.int .i64 m)) (h1 : 1 ≤ sep.size) :
    Calls Tryz.prog 158 #[.string s, .string sep] w fun e w' =>
      e = .returned (.slice (some ⟨w.heap.size, 0, none⟩) (Lib.countB s sep + 1) (Lib.countB s sep + 1)) ∧ w' = w.alloc (.cells ((Lib.splitB sep 0 (Lib.countB s sep) s).map Value.string).toArray 9) := Any.strings_Split Tryz.lays146 (by kernel_rfl) s sep m w hs hm h1
def Tryz.lays240_ren : Go.Shelf.Ren := ⟨fun | 240 => 175 | 166 => 86 | 167 => 88 | 276 => 250 | n => n, fun | 0 => 0 | 3 => 3 | 4 => 4 | 5 => 5 | 9 => 9 | 20 => 20 | 37 => 68 | 70 => 160 | 72 => 162 | 75 => 165 | 80 => 177 | 164 => 325 | n => n, fun | n => n⟩
theorem Tryz.lays240 : Go.Proofs.Lays.n240 Tryz.prog Tryz.lays240_ren := {
  mixed := by kernel_rfl
  f240 := Tryz.func175.trans (congrArg some (by kernel_rfl))
  f276 := Tryz.func250.trans (congrArg some (by kernel_rfl))
  t0 := Tryz.underlying0
  a0 := Tryz.isAgg0
  z0 := Tryz.sizeOf0
  v0 := Tryz.zeroValue0
  t4 := Tryz.underlying4
  a4 := Tryz.isAgg4
  z4 := Tryz.sizeOf4
  v4 := Tryz.zeroValue4
  t9 := Tryz.underlying9
  a9 := Tryz.isAgg9
  z9 := Tryz.sizeOf9
  v9 := Tryz.zeroValue9
  t20 := Tryz.underlying20
  a20 := Tryz.isAgg20
  z20 := Tryz.sizeOf20
  v20 := Tryz.zeroValue20
  t70 := Tryz.underlying160
  a70 := Tryz.isAgg160
  z70 := Tryz.sizeOf160
  v70 := Tryz.zeroValue160
  t72 := Tryz.underlying162
  a72 := Tryz.isAgg162
  z72 := Tryz.sizeOf162
  v72 := Tryz.zeroValue162
  t164 := Tryz.underlying325
  a164 := Tryz.isAgg325
  z164 := Tryz.sizeOf325
  v164 := Tryz.zeroValue325 }
open Go.RowKit Go.Lib in
theorem Tryz.Builder_X72_240 : Builder.X72 Tryz.prog Tryz.lays240_ren := {
  sizeBuilder := by kernel_rfl
  liesBuilder := by kernel_rfl }
def Tryz.lays166_ren : Go.Shelf.Ren := ⟨fun | 240 => 175 | 166 => 86 | 167 => 88 | 276 => 250 | n => n, fun | 0 => 0 | 3 => 3 | 4 => 4 | 5 => 5 | 9 => 9 | 20 => 20 | 37 => 68 | 70 => 160 | 72 => 162 | 75 => 165 | 80 => 177 | 164 => 325 | n => n, fun | n => n⟩
theorem Tryz.lays166 : Go.Proofs.Lays.n166 Tryz.prog Tryz.lays166_ren := {
  mixed := by kernel_rfl
  f166 := Tryz.func86.trans (congrArg some (by kernel_rfl))
  f240 := Tryz.func175.trans (congrArg some (by kernel_rfl))
  f276 := Tryz.func250.trans (congrArg some (by kernel_rfl))
  t0 := Tryz.underlying0
  a0 := Tryz.isAgg0
  z0 := Tryz.sizeOf0
  v0 := Tryz.zeroValue0
  t3 := Tryz.underlying3
  a3 := Tryz.isAgg3
  z3 := Tryz.sizeOf3
  v3 := Tryz.zeroValue3
  t4 := Tryz.underlying4
  a4 := Tryz.isAgg4
  z4 := Tryz.sizeOf4
  v4 := Tryz.zeroValue4
  t9 := Tryz.underlying9
  a9 := Tryz.isAgg9
  z9 := Tryz.sizeOf9
  v9 := Tryz.zeroValue9
  t20 := Tryz.underlying20
  a20 := Tryz.isAgg20
  z20 := Tryz.sizeOf20
  v20 := Tryz.zeroValue20
  t37 := Tryz.underlying68
  a37 := Tryz.isAgg68
  z37 := Tryz.sizeOf68
  v37 := Tryz.zeroValue68
  t70 := Tryz.underlying160
  a70 := Tryz.isAgg160
  z70 := Tryz.sizeOf160
  v70 := Tryz.zeroValue160
  t72 := Tryz.underlying162
  a72 := Tryz.isAgg162
  z72 := Tryz.sizeOf162
  v72 := Tryz.zeroValue162
  t75 := Tryz.underlying165
  a75 := Tryz.isAgg165
  z75 := Tryz.sizeOf165
  v75 := Tryz.zeroValue165
  t164 := Tryz.underlying325
  a164 := Tryz.isAgg325
  z164 := Tryz.sizeOf325
  v164 := Tryz.zeroValue325 }
open Go.RowKit Go.Lib in
theorem Tryz.Builder_Extra_166 : Builder.Extra Tryz.prog Tryz.lays166_ren := {
  sizeBuilder := by kernel_rfl
  liesBuilder := by kernel_rfl
  t5 := Tryz.underlying5
  a5 := Tryz.isAgg5
  z5 := Tryz.sizeOf5
  v5 := Tryz.zeroValue5
  infoByte := by kernel_rfl
  cellsByte := by kernel_rfl
  sizeByte := by kernel_rfl
  neB5 := by decide }
open Go.RowKit Go.Lib in
theorem Tryz.Builder_copyCheck (B b : Nat) (bs : List Value) (w : World) (h : Lib.IsBuilder 162 5 B b bs w) :
    Calls Tryz.prog 175 #[.pointer (some ⟨b, 0, none⟩)] w fun e w' => e = .returned (.tuple #[]) ∧ (Lib.BuilderAt 162 5 B b (.pointer (some ⟨b, 0, none⟩)) bs w' ∧ Below B w w') := Any.Builder_copyCheck Tryz.lays240 Tryz.Builder_X72_240 B b bs w h
open Go.RowKit Go.Lib in
theorem Tryz.Builder_WriteString (B b : Nat) (bs : List Value) (s : ByteArray) (w : World) (h : Lib.IsBuilder 162 5 B b bs w) (hlen : bs.length + s.size ≤ 140737488355328) (hBw : B ≤ w.heap.size) :
    Calls Tryz.prog 86 #[.pointer (some ⟨b, 0, none⟩), .string s] w fun e w' => e = .returned (.tuple #[.int .i64 s.size, .nilIface]) ∧ (Lib.BuilderAt 162 5 B b (.pointer (some ⟨b, 0, none⟩)) (bs ++ Lib.strCells s) w' ∧ Below B w w') := Any.Builder_WriteString Tryz.lays166 Tryz.Builder_Extra_166 B b bs s w h hlen hBw
end Go.Proofs
