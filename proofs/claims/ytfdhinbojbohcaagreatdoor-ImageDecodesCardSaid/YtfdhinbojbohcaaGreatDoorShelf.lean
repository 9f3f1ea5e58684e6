/-
  DERIVED: THE SHELF's CONTRACTS AT THIS DUMP, IN PLAIN WORDS (tools/lay-plain.mjs out of 'TryzShelf.lean', which tools/lay-shelf.mjs wrote): THE SAME DECLARATIONS UNDER THE SAME NAMES: 'import', 'namespace', 'open', 'def', 'theorem' AND NOTHING ELSE: no command of the shelf's: FOR A HAND-IN. Each laying: the table of numbers ('.._ren') and one theorem, a field a fact of the dump's own or the kernel's comparison; each contract: ONE APPLICATION.
-/
import Derived.Shelf.Strings.Builder1
import Derived.Shelf.Strings.Builder2
import Derived.Shelf.Strings.OnBuilder
import Derived.Shelf.Small.Bits
import Derived.Shelf.Small.Strs
import Derived.Shelf.Small.Wraps
import Derived.Shelf.Strings.BuilderF
import Derived.Shelf.Strings.BuilderK
import Derived.Shelf.Utf8.RuneCount
import Derived.Shelf.Strings.Builder2Cap
import Derived.Shelf.Strconv.Itoa0
import Derived.Shelf.Strconv.Itoa1
import Derived.Shelf.LaysM
import Derived.Shelf.Strconv.Itoa2
import Derived.Shelf.Strconv.Itoa3
import Derived.Shelf.Strconv.Itoa4
import Derived.Shelf.Strconv.ParseIntEmpty
import Derived.Shelf.Strconv.Clone
import Derived.Shelf.Strconv.SyntaxError
import Derived.Shelf.LaysC
import Derived.Shelf.Strconv.ToError
import Derived.Shelf.Strconv.Lower
import Derived.Shelf.Strconv.ParseUint10
import Derived.Shelf.Strconv.ParseUint10Empty
import Derived.Shelf.Strconv.ParseUint10Any
import Derived.Shelf.Strconv.ParseInt10
import Derived.Shelf.Strconv.RangeError
import Derived.Shelf.Strconv.ToErrorRange
import Derived.Shelf.Strconv.ParseUintEmpty
import Derived.Shelf.Strconv.ParseUint10b64
import Derived.Shelf.Strconv.ParseUint10b32
import Derived.Shelf.Strconv.ParseUint10b16
import Derived.Shelf.Strconv.ParseUint10b8
import Derived.Shelf.Strconv.ParseUint10At
import Derived.Shelf.Strconv.ParseInt10At64
import Derived.Shelf.Strconv.ParseInt10At32
import Derived.Shelf.Strconv.ParseInt10At16
import Derived.Shelf.Strconv.ParseInt10At8
import Derived.Shelf.Strconv.ParseInt10All
import Derived.Shelf.Strconv.ParseIntPublic10
import Derived.Shelf.Strconv.ErrVarParseInt
import Derived.Shelf.Strings.Search1
import Derived.Shelf.Strings.Search2
import Derived.Shelf.Strings.Search3
import Derived.Shelf.Strings.Cut
import Derived.Shelf.Strings.Count
import Derived.Shelf.Strings.Shaped
import Derived.Shelf.Strings.Prefix
import Derived.Shelf.Strings.Split
import Derived.Shelf.Strings.SplitShaped
import Derived.Shelf.Unicode.Decode
import Derived.Shelf.Strings.RuneCount
import Derived.Shelf.Strings.Explode
import Derived.Shelf.Bits.Mul64
import Derived.Shelf.Unicode.DecodeSlow
import Derived.Shelf.Unicode.DecodeAny
import Derived.Shelf.Strings.BuilderCap
import Derived.Test.YtfdhinbojbohcaaGreatDoorProg
namespace Go.Proofs
open Go.Shelf
def Tryz.lays169_ren : Go.Shelf.Ren := ⟨fun | 169 => 256 | n => n, fun | 70 => 322 | 9 => 9 | 0 => 0 | 72 => 324 | 37 => 57 | 127 => 347 | 3 => 3 | 5 => 5 | n => n, fun | n => n⟩
theorem Tryz.lays169 : Go.Proofs.Lays.n169 Tryz.prog Tryz.lays169_ren := {
  mixed := by kernel_rfl
  f169 := Tryz.func256.trans (congrArg some (by kernel_rfl))
  t0 := Tryz.underlying0
  a0 := Tryz.isAgg0
  z0 := Tryz.sizeOf0
  v0 := Tryz.zeroValue0
  t3 := Tryz.underlying3
  a3 := Tryz.isAgg3
  z3 := Tryz.sizeOf3
  v3 := Tryz.zeroValue3
  t9 := Tryz.underlying9
  a9 := Tryz.isAgg9
  z9 := Tryz.sizeOf9
  v9 := Tryz.zeroValue9
  t37 := Tryz.underlying57
  a37 := Tryz.isAgg57
  z37 := Tryz.sizeOf57
  v37 := Tryz.zeroValue57
  t70 := Tryz.underlying322
  a70 := Tryz.isAgg322
  z70 := Tryz.sizeOf322
  v70 := Tryz.zeroValue322
  t72 := Tryz.underlying324
  a72 := Tryz.isAgg324
  z72 := Tryz.sizeOf324
  v72 := Tryz.zeroValue324
  t127 := Tryz.underlying347
  a127 := Tryz.isAgg347
  z127 := Tryz.sizeOf347
  v127 := Tryz.zeroValue347 }
theorem Tryz.Builder_Extra_169 : Builder.Extra Tryz.prog Tryz.lays169_ren := {
  sizeBuilder := by kernel_rfl
  liesBuilder := by kernel_rfl
  t5 := Tryz.underlying5
  a5 := Tryz.isAgg5
  z5 := Tryz.sizeOf5
  v5 := Tryz.zeroValue5
  infoByte := by kernel_rfl
  cellsByte := by kernel_rfl
  sizeByte := by kernel_rfl
  neB5 := by decide }
open Go.RowKit in
/-- (*strings.Builder).String: "String returns the accumulated string.": WHATEVER THE BUILDER HOLDS. (LAID: no walk: one application.) -/
theorem Tryz.Builder_String_any (B b : Nat) (l : List UInt8) (w : World) (h : Lib.IsBuilder 324 5 B b (Lib.byteCells l) w) (hBw : B ≤ w.heap.size) :
    Calls Tryz.prog 256 #[.pointer (some ⟨b, 0, none⟩)] w fun e w' => e = .returned (.string ⟨l.toArray⟩) ∧ Below B w w' := Any.Builder_String_any Tryz.lays169 Tryz.Builder_Extra_169 B b l w h hBw
def Tryz.lays156_ren : Go.Shelf.Ren := ⟨fun | 156 => 222 | 165 => 254 | 166 => 255 | 169 => 256 | 240 => 275 | 241 => 276 | 276 => 288 | 277 => 289 | n => n, fun | 31 => 170 | 9 => 9 | 3 => 3 | 4 => 4 | 0 => 0 | 20 => 20 | 72 => 324 | 76 => 326 | 70 => 322 | 37 => 57 | 75 => 307 | 127 => 347 | 164 => 353 | 5 => 5 | 80 => 133 | n => n, fun | n => n⟩
theorem Tryz.lays156 : Go.Proofs.Lays.n156 Tryz.prog Tryz.lays156_ren := {
  mixed := by kernel_rfl
  f156 := Tryz.func222.trans (congrArg some (by kernel_rfl))
  f165 := Tryz.func254.trans (congrArg some (by kernel_rfl))
  f166 := Tryz.func255.trans (congrArg some (by kernel_rfl))
  f169 := Tryz.func256.trans (congrArg some (by kernel_rfl))
  f240 := Tryz.func275.trans (congrArg some (by kernel_rfl))
  f241 := Tryz.func276.trans (congrArg some (by kernel_rfl))
  f276 := Tryz.func288.trans (congrArg some (by kernel_rfl))
  f277 := Tryz.func289.trans (congrArg some (by kernel_rfl))
  t0 := Tryz.underlying0
  a0 := Tryz.isAgg0
  z0 := Tryz.sizeOf0
  v0 := Tryz.zeroValue0
  t3 := Tryz.underlying3
  a3 := Tryz.isAgg3
  z3 := Tryz.sizeOf3
  v3 := Tryz.zeroValue3
  t4 := Tryz.underlying4
  a4 := Tryz.isAgg4
  z4 := Tryz.sizeOf4
  v4 := Tryz.zeroValue4
  t9 := Tryz.underlying9
  a9 := Tryz.isAgg9
  z9 := Tryz.sizeOf9
  v9 := Tryz.zeroValue9
  t20 := Tryz.underlying20
  a20 := Tryz.isAgg20
  z20 := Tryz.sizeOf20
  v20 := Tryz.zeroValue20
  t31 := Tryz.underlying170
  a31 := Tryz.isAgg170
  z31 := Tryz.sizeOf170
  v31 := Tryz.zeroValue170
  t37 := Tryz.underlying57
  a37 := Tryz.isAgg57
  z37 := Tryz.sizeOf57
  v37 := Tryz.zeroValue57
  t70 := Tryz.underlying322
  a70 := Tryz.isAgg322
  z70 := Tryz.sizeOf322
  v70 := Tryz.zeroValue322
  t72 := Tryz.underlying324
  a72 := Tryz.isAgg324
  z72 := Tryz.sizeOf324
  v72 := Tryz.zeroValue324
  t75 := Tryz.underlying307
  a75 := Tryz.isAgg307
  z75 := Tryz.sizeOf307
  v75 := Tryz.zeroValue307
  t76 := Tryz.underlying326
  a76 := Tryz.isAgg326
  z76 := Tryz.sizeOf326
  v76 := Tryz.zeroValue326
  t127 := Tryz.underlying347
  a127 := Tryz.isAgg347
  z127 := Tryz.sizeOf347
  v127 := Tryz.zeroValue347
  t164 := Tryz.underlying353
  a164 := Tryz.isAgg353
  z164 := Tryz.sizeOf353
  v164 := Tryz.zeroValue353 }
theorem Tryz.Builder_Extra_156 : Builder.Extra Tryz.prog Tryz.lays156_ren := {
  sizeBuilder := by kernel_rfl
  liesBuilder := by kernel_rfl
  t5 := Tryz.underlying5
  a5 := Tryz.isAgg5
  z5 := Tryz.sizeOf5
  v5 := Tryz.zeroValue5
  infoByte := by kernel_rfl
  cellsByte := by kernel_rfl
  sizeByte := by kernel_rfl
  neB5 := by decide }
open Go.RowKit in
/-- No element: the empty string; the world is as it was. (Whatever the slice's address and capacity: a nil slice too.) (LAID: no walk: one application.) -/
theorem Tryz.strings_Join_none (a : Option Addr) (c : Nat) (sep : ByteArray) (w : World) :
    Calls Tryz.prog 222 #[.slice a 0 c, .string sep] w fun e w' => e = .returned (.string ⟨#[]⟩) ∧ w' = w := Any.strings_Join_none Tryz.lays156 Tryz.Builder_Extra_156 a c sep w
open Go.RowKit in
/-- strings.Join: "Join concatenates the elements of its first argument to create a single string. The separator string sep is placed between elements in the resulting string.": HOWEVER MANY ELEMENTS. Below the heap's end the world is as it was. (LAID: no walk: one application.) -/
theorem Tryz.strings_Join (bk o c : Nat) (xs : List ByteArray) (sep : ByteArray) (w : World) (hcells : ∀ (j : Nat) x, xs[j]? = some x → w.cell? ⟨bk, o + j, none⟩ = some (.string x)) (hbk : bk < w.heap.size) (hN : xs.length ≤ 140737488355328) (hcap : xs.length ≤ c) (hlen : (Lib.join (xs.map (·.data.toList)) sep.data.toList).length ≤ 140737488355328) :
    Calls Tryz.prog 222 #[.slice (some ⟨bk, o, none⟩) xs.length c, .string sep] w fun e w' => e = .returned (.string ⟨(Lib.join (xs.map (·.data.toList)) sep.data.toList).toArray⟩) ∧ Below w.heap.size w w' := Any.strings_Join Tryz.lays156 Tryz.Builder_Extra_156 bk o c xs sep w hcells hbk hN hcap hlen
def Tryz.lays103_ren : Go.Shelf.Ren := ⟨fun | 103 => 250 | 210 => 269 | 206 => 257 | n => n, fun | 9 => 9 | 4 => 4 | 24 => 263 | 3 => 3 | n => n, fun | n => n⟩
theorem Tryz.lays103 : Go.Proofs.Lays.n103 Tryz.prog Tryz.lays103_ren := {
  mixed := by kernel_rfl
  f103 := Tryz.func250.trans (congrArg some (by kernel_rfl))
  f206 := Tryz.func257.trans (congrArg some (by kernel_rfl))
  f210 := Tryz.func269.trans (congrArg some (by kernel_rfl))
  t3 := Tryz.underlying3
  a3 := Tryz.isAgg3
  z3 := Tryz.sizeOf3
  v3 := Tryz.zeroValue3
  t4 := Tryz.underlying4
  a4 := Tryz.isAgg4
  z4 := Tryz.sizeOf4
  v4 := Tryz.zeroValue4
  t9 := Tryz.underlying9
  a9 := Tryz.isAgg9
  z9 := Tryz.sizeOf9
  v9 := Tryz.zeroValue9
  t24 := Tryz.underlying263
  a24 := Tryz.isAgg263
  z24 := Tryz.sizeOf263
  v24 := Tryz.zeroValue263 }
open Go.RowKit in
/-- strings.CutPrefix: "CutPrefix returns s without the provided leading prefix string and reports whether it found the prefix. If s doesn't start with prefix, CutPrefix returns s, false. If prefix is the empty string, CutPrefix returns s, true.": IT RETURNS '(Lib.trimPrefix s p, Lib.hasPrefix s p)'; the world is as it was. (LAID: no walk: one application.) -/
theorem Tryz.strings_CutPrefix (s p : ByteArray) (w : World) :
    Calls Tryz.prog 250 #[.string s, .string p] w fun e w' => e = .returned (.tuple #[.string ⟨(Lib.trimPrefix s.data.toList p.data.toList).toArray⟩, .bool (Lib.hasPrefix s.data.toList p.data.toList)]) ∧ w' = w := Any.strings_CutPrefix Tryz.lays103 s p w
def Tryz.lays104_ren : Go.Shelf.Ren := ⟨fun | 104 => 279 | 211 => 294 | 207 => 302 | n => n, fun | 9 => 9 | 4 => 4 | 24 => 263 | 3 => 3 | n => n, fun | n => n⟩
theorem Tryz.lays104 : Go.Proofs.Lays.n104 Tryz.prog Tryz.lays104_ren := {
  mixed := by kernel_rfl
  f104 := Tryz.func279.trans (congrArg some (by kernel_rfl))
  f207 := Tryz.func302.trans (congrArg some (by kernel_rfl))
  f211 := Tryz.func294.trans (congrArg some (by kernel_rfl))
  t3 := Tryz.underlying3
  a3 := Tryz.isAgg3
  z3 := Tryz.sizeOf3
  v3 := Tryz.zeroValue3
  t4 := Tryz.underlying4
  a4 := Tryz.isAgg4
  z4 := Tryz.sizeOf4
  v4 := Tryz.zeroValue4
  t9 := Tryz.underlying9
  a9 := Tryz.isAgg9
  z9 := Tryz.sizeOf9
  v9 := Tryz.zeroValue9
  t24 := Tryz.underlying263
  a24 := Tryz.isAgg263
  z24 := Tryz.sizeOf263
  v24 := Tryz.zeroValue263 }
open Go.RowKit in
/-- strings.CutSuffix: "CutSuffix returns s without the provided ending suffix string and reports whether it found the suffix. If s doesn't end with suffix, CutSuffix returns s, false. If suffix is the empty string, CutSuffix returns s, true.": IT RETURNS '(Lib.trimSuffix s p, Lib.hasSuffix s p)'; the world is as it was. (LAID: no walk: one application.) -/
theorem Tryz.strings_CutSuffix (s p : ByteArray) (w : World) (hs : s.size ≤ 9223372036854775807) :
    Calls Tryz.prog 279 #[.string s, .string p] w fun e w' => e = .returned (.tuple #[.string ⟨(Lib.trimSuffix s.data.toList p.data.toList).toArray⟩, .bool (Lib.hasSuffix s.data.toList p.data.toList)]) ∧ w' = w := Any.strings_CutSuffix Tryz.lays104 s p w hs
def Tryz.laysM173_ren : Go.Shelf.Ren := ⟨fun | 173 => 259 | 246 => 278 | 283 => 290 | 284 => 291 | 285 => 292 | 286 => 293 | 129 => 266 | 317 => 298 | 318 => 299 | 319 => 300 | 320 => 301 | 337 => 303 | 338 => 304 | n => n, fun | 2 => 2 | 3 => 3 | 9 => 9 | 4 => 4 | 171 => 355 | 0 => 0 | 53 => 147 | 37 => 57 | 5 => 5 | 173 => 357 | 212 => 364 | 51 => 149 | 20 => 20 | 213 => 365 | 46 => 171 | 232 => 368 | 233 => 369 | n => n, fun | 17 => 9 | 18 => 10 | 19 => 11 | n => n⟩
theorem Tryz.laysM173 : Go.Proofs.LaysM.n173 Tryz.prog Tryz.laysM173_ren := {
  mixed := by kernel_rfl
  f129 := Tryz.func266.trans (congrArg some (by kernel_rfl))
  f173 := Tryz.func259.trans (congrArg some (by kernel_rfl))
  f246 := Tryz.func278.trans (congrArg some (by kernel_rfl))
  f283 := Tryz.func290.trans (congrArg some (by kernel_rfl))
  f284 := Tryz.func291.trans (congrArg some (by kernel_rfl))
  f285 := Tryz.func292.trans (congrArg some (by kernel_rfl))
  f286 := Tryz.func293.trans (congrArg some (by kernel_rfl))
  f317 := Tryz.func298.trans (congrArg some (by kernel_rfl))
  f318 := Tryz.func299.trans (congrArg some (by kernel_rfl))
  f319 := Tryz.func300.trans (congrArg some (by kernel_rfl))
  f320 := Tryz.func301.trans (congrArg some (by kernel_rfl))
  f337 := Tryz.func303.trans (congrArg some (by kernel_rfl))
  f338 := Tryz.func304.trans (congrArg some (by kernel_rfl))
  t0 := Tryz.underlying0
  a0 := Tryz.isAgg0
  z0 := Tryz.sizeOf0
  v0 := Tryz.zeroValue0
  t2 := Tryz.underlying2
  a2 := Tryz.isAgg2
  z2 := Tryz.sizeOf2
  v2 := Tryz.zeroValue2
  t3 := Tryz.underlying3
  a3 := Tryz.isAgg3
  z3 := Tryz.sizeOf3
  v3 := Tryz.zeroValue3
  t4 := Tryz.underlying4
  a4 := Tryz.isAgg4
  z4 := Tryz.sizeOf4
  v4 := Tryz.zeroValue4
  t5 := Tryz.underlying5
  a5 := Tryz.isAgg5
  z5 := Tryz.sizeOf5
  v5 := Tryz.zeroValue5
  t9 := Tryz.underlying9
  a9 := Tryz.isAgg9
  z9 := Tryz.sizeOf9
  v9 := Tryz.zeroValue9
  t20 := Tryz.underlying20
  a20 := Tryz.isAgg20
  z20 := Tryz.sizeOf20
  v20 := Tryz.zeroValue20
  t37 := Tryz.underlying57
  a37 := Tryz.isAgg57
  z37 := Tryz.sizeOf57
  v37 := Tryz.zeroValue57
  t46 := Tryz.underlying171
  a46 := Tryz.isAgg171
  z46 := Tryz.sizeOf171
  v46 := Tryz.zeroValue171
  t51 := Tryz.underlying149
  a51 := Tryz.isAgg149
  z51 := Tryz.sizeOf149
  v51 := Tryz.zeroValue149
  t53 := Tryz.underlying147
  a53 := Tryz.isAgg147
  z53 := Tryz.sizeOf147
  v53 := Tryz.zeroValue147
  t171 := Tryz.underlying355
  a171 := Tryz.isAgg355
  z171 := Tryz.sizeOf355
  v171 := Tryz.zeroValue355
  t173 := Tryz.underlying357
  a173 := Tryz.isAgg357
  z173 := Tryz.sizeOf357
  v173 := Tryz.zeroValue357
  t212 := Tryz.underlying364
  a212 := Tryz.isAgg364
  z212 := Tryz.sizeOf364
  v212 := Tryz.zeroValue364
  t213 := Tryz.underlying365
  a213 := Tryz.isAgg365
  z213 := Tryz.sizeOf365
  t232 := Tryz.underlying368
  a232 := Tryz.isAgg368
  z232 := Tryz.sizeOf368
  v232 := Tryz.zeroValue368
  t233 := Tryz.underlying369
  a233 := Tryz.isAgg369
  z233 := Tryz.sizeOf369
  v233 := Tryz.zeroValue369
  g17 := by kernel_rfl
  g18 := by kernel_rfl
  g19 := by kernel_rfl
  i0 := by kernel_rfl
  i2 := by kernel_rfl
  i3 := by kernel_rfl
  i4 := by kernel_rfl
  i5 := by kernel_rfl
  i9 := by kernel_rfl
  i20 := by kernel_rfl
  i37 := by kernel_rfl
  i46 := by kernel_rfl
  i51 := by kernel_rfl
  i53 := by kernel_rfl
  i171 := by kernel_rfl
  i173 := by kernel_rfl
  i212 := by kernel_rfl
  i232 := by kernel_rfl
  i233 := by kernel_rfl
  m17 := by kernel_rfl
  m18 := by kernel_rfl
  m19 := by kernel_rfl }
open Go.RowKit Go.Sort Go.Lib in
/-- strconv.FormatInt: "FormatInt returns the string representation of i in the given base": AT BASE 10: i's decimal numeral, for every int64. (LAID: no walk: one application.) -/
theorem Tryz.strconv_FormatInt_10 (n : Int) (h0 : -9223372036854775808 ≤ n) (h1 : n ≤ 9223372036854775807) (w : World) (htab : Lib.TabIs Tryz.prog w "internal/strconv.uint64pow10" .u64 Lib.pow10Tab) :
    Calls Tryz.prog 259 #[.int .i64 n, .int .i64 10] w fun e w' => e = .returned (.string ⟨(Lib.itoa n).toArray⟩) ∧ ∃ k os, w' = grow (w.drewN k) os := Any.strconv_FormatInt_10 Tryz.laysM173 n h0 h1 w htab
def Tryz.laysC174_ren : Go.Shelf.Ren := ⟨fun | 174 => 219 | 247 => 251 | 245 => 252 | 287 => 270 | 279 => 271 | 280 => 272 | 281 => 273 | 282 => 274 | 321 => 283 | 322 => 284 | 316 => 285 | 171 => 287 | 205 => 286 | 243 => 297 | 246 => 278 | 283 => 290 | 284 => 291 | 285 => 292 | 286 => 293 | 129 => 266 | 317 => 298 | 318 => 299 | 319 => 300 | 320 => 301 | 337 => 303 | 338 => 304 | n => n, fun | 9 => 9 | 3 => 3 | 2 => 2 | 75 => 307 | 85 => 308 | 4 => 4 | 167 => 341 | 5 => 5 | 53 => 147 | 175 => 342 | 46 => 171 | 168 => 344 | 37 => 57 | 0 => 0 | 210 => 351 | 21 => 21 | 127 => 347 | 145 => 362 | 143 => 360 | 171 => 355 | 173 => 357 | 212 => 364 | 51 => 149 | 20 => 20 | 213 => 365 | 232 => 368 | 233 => 369 | 80 => 133 | n => n, fun | 15 => 7 | 16 => 8 | 17 => 9 | 18 => 10 | 19 => 11 | n => n⟩
theorem Tryz.laysC174 : Go.Proofs.LaysC.n174 Tryz.prog Tryz.laysC174_ren := {
  mixed := by kernel_rfl
  f129 := Tryz.func266.trans (congrArg some (by kernel_rfl))
  f171 := Tryz.func287.trans (congrArg some (by kernel_rfl))
  f174 := Tryz.func219.trans (congrArg some (by kernel_rfl))
  f205 := Tryz.func286.trans (congrArg some (by kernel_rfl))
  f243 := Tryz.func297.trans (congrArg some (by kernel_rfl))
  f245 := Tryz.func252.trans (congrArg some (by kernel_rfl))
  f246 := Tryz.func278.trans (congrArg some (by kernel_rfl))
  f247 := Tryz.func251.trans (congrArg some (by kernel_rfl))
  f279 := Tryz.func271.trans (congrArg some (by kernel_rfl))
  f280 := Tryz.func272.trans (congrArg some (by kernel_rfl))
  f281 := Tryz.func273.trans (congrArg some (by kernel_rfl))
  f282 := Tryz.func274.trans (congrArg some (by kernel_rfl))
  f283 := Tryz.func290.trans (congrArg some (by kernel_rfl))
  f284 := Tryz.func291.trans (congrArg some (by kernel_rfl))
  f285 := Tryz.func292.trans (congrArg some (by kernel_rfl))
  f286 := Tryz.func293.trans (congrArg some (by kernel_rfl))
  f287 := Tryz.func270.trans (congrArg some (by kernel_rfl))
  f316 := Tryz.func285.trans (congrArg some (by kernel_rfl))
  f317 := Tryz.func298.trans (congrArg some (by kernel_rfl))
  f318 := Tryz.func299.trans (congrArg some (by kernel_rfl))
  f319 := Tryz.func300.trans (congrArg some (by kernel_rfl))
  f320 := Tryz.func301.trans (congrArg some (by kernel_rfl))
  f321 := Tryz.func283.trans (congrArg some (by kernel_rfl))
  f322 := Tryz.func284.trans (congrArg some (by kernel_rfl))
  f337 := Tryz.func303.trans (congrArg some (by kernel_rfl))
  f338 := Tryz.func304.trans (congrArg some (by kernel_rfl))
  t0 := Tryz.underlying0
  a0 := Tryz.isAgg0
  z0 := Tryz.sizeOf0
  v0 := Tryz.zeroValue0
  t2 := Tryz.underlying2
  a2 := Tryz.isAgg2
  z2 := Tryz.sizeOf2
  v2 := Tryz.zeroValue2
  t3 := Tryz.underlying3
  a3 := Tryz.isAgg3
  z3 := Tryz.sizeOf3
  v3 := Tryz.zeroValue3
  t4 := Tryz.underlying4
  a4 := Tryz.isAgg4
  z4 := Tryz.sizeOf4
  v4 := Tryz.zeroValue4
  t5 := Tryz.underlying5
  a5 := Tryz.isAgg5
  z5 := Tryz.sizeOf5
  v5 := Tryz.zeroValue5
  t9 := Tryz.underlying9
  a9 := Tryz.isAgg9
  z9 := Tryz.sizeOf9
  v9 := Tryz.zeroValue9
  t20 := Tryz.underlying20
  a20 := Tryz.isAgg20
  z20 := Tryz.sizeOf20
  v20 := Tryz.zeroValue20
  t21 := Tryz.underlying21
  a21 := Tryz.isAgg21
  z21 := Tryz.sizeOf21
  v21 := Tryz.zeroValue21
  t37 := Tryz.underlying57
  a37 := Tryz.isAgg57
  z37 := Tryz.sizeOf57
  v37 := Tryz.zeroValue57
  t46 := Tryz.underlying171
  a46 := Tryz.isAgg171
  z46 := Tryz.sizeOf171
  v46 := Tryz.zeroValue171
  t51 := Tryz.underlying149
  a51 := Tryz.isAgg149
  z51 := Tryz.sizeOf149
  v51 := Tryz.zeroValue149
  t53 := Tryz.underlying147
  a53 := Tryz.isAgg147
  z53 := Tryz.sizeOf147
  v53 := Tryz.zeroValue147
  t75 := Tryz.underlying307
  a75 := Tryz.isAgg307
  z75 := Tryz.sizeOf307
  v75 := Tryz.zeroValue307
  t85 := Tryz.underlying308
  a85 := Tryz.isAgg308
  z85 := Tryz.sizeOf308
  v85 := Tryz.zeroValue308
  t127 := Tryz.underlying347
  a127 := Tryz.isAgg347
  z127 := Tryz.sizeOf347
  v127 := Tryz.zeroValue347
  t143 := Tryz.underlying360
  a143 := Tryz.isAgg360
  z143 := Tryz.sizeOf360
  v143 := Tryz.zeroValue360
  t145 := Tryz.underlying362
  a145 := Tryz.isAgg362
  z145 := Tryz.sizeOf362
  v145 := Tryz.zeroValue362
  t167 := Tryz.underlying341
  a167 := Tryz.isAgg341
  z167 := Tryz.sizeOf341
  v167 := Tryz.zeroValue341
  t168 := Tryz.underlying344
  a168 := Tryz.isAgg344
  z168 := Tryz.sizeOf344
  v168 := Tryz.zeroValue344
  t171 := Tryz.underlying355
  a171 := Tryz.isAgg355
  z171 := Tryz.sizeOf355
  v171 := Tryz.zeroValue355
  t173 := Tryz.underlying357
  a173 := Tryz.isAgg357
  z173 := Tryz.sizeOf357
  v173 := Tryz.zeroValue357
  t175 := Tryz.underlying342
  a175 := Tryz.isAgg342
  z175 := Tryz.sizeOf342
  v175 := Tryz.zeroValue342
  t210 := Tryz.underlying351
  a210 := Tryz.isAgg351
  z210 := Tryz.sizeOf351
  v210 := Tryz.zeroValue351
  t212 := Tryz.underlying364
  a212 := Tryz.isAgg364
  z212 := Tryz.sizeOf364
  v212 := Tryz.zeroValue364
  t213 := Tryz.underlying365
  a213 := Tryz.isAgg365
  z213 := Tryz.sizeOf365
  t232 := Tryz.underlying368
  a232 := Tryz.isAgg368
  z232 := Tryz.sizeOf368
  v232 := Tryz.zeroValue368
  t233 := Tryz.underlying369
  a233 := Tryz.isAgg369
  z233 := Tryz.sizeOf369
  v233 := Tryz.zeroValue369
  g15 := by kernel_rfl
  g16 := by kernel_rfl
  g17 := by kernel_rfl
  g18 := by kernel_rfl
  g19 := by kernel_rfl
  t80 := Tryz.underlying133
  a80 := Tryz.isAgg133
  z80 := Tryz.sizeOf133
  v80 := Tryz.zeroValue133
  i0 := by kernel_rfl
  i2 := by kernel_rfl
  i3 := by kernel_rfl
  i4 := by kernel_rfl
  i5 := by kernel_rfl
  i9 := by kernel_rfl
  i20 := by kernel_rfl
  i21 := by kernel_rfl
  i37 := by kernel_rfl
  i46 := by kernel_rfl
  i51 := by kernel_rfl
  i53 := by kernel_rfl
  i75 := by kernel_rfl
  i80 := by kernel_rfl
  i85 := by kernel_rfl
  i127 := by kernel_rfl
  i143 := by kernel_rfl
  i145 := by kernel_rfl
  i167 := by kernel_rfl
  i168 := by kernel_rfl
  i171 := by kernel_rfl
  i173 := by kernel_rfl
  i175 := by kernel_rfl
  i210 := by kernel_rfl
  i212 := by kernel_rfl
  i232 := by kernel_rfl
  i233 := by kernel_rfl
  m15 := by kernel_rfl
  m16 := by kernel_rfl
  m17 := by kernel_rfl
  m18 := by kernel_rfl
  m19 := by kernel_rfl
  c0 := by kernel_rfl
  c2 := by kernel_rfl
  c3 := by kernel_rfl
  c4 := by kernel_rfl
  c5 := by kernel_rfl
  c9 := by kernel_rfl
  c20 := by kernel_rfl
  c21 := by kernel_rfl
  c37 := by kernel_rfl
  c46 := by kernel_rfl
  c51 := by kernel_rfl
  c53 := by kernel_rfl
  c75 := by kernel_rfl
  c80 := by kernel_rfl
  c85 := by kernel_rfl
  c127 := by kernel_rfl
  c143 := by kernel_rfl
  c145 := by kernel_rfl
  c167 := by kernel_rfl
  c168 := by kernel_rfl
  c171 := by kernel_rfl
  c173 := by kernel_rfl
  c175 := by kernel_rfl
  c210 := by kernel_rfl
  c212 := by kernel_rfl
  c213 := by kernel_rfl
  c232 := by kernel_rfl
  c233 := by kernel_rfl }
open Go.RowKit in
/-- strconv.ParseInt(s, 10, 64), AT EVERY STRING THAT SPELLS AN int64 ('Lib.parseIntB 64 s.data.toList = .ok v'): v, AND NO ERROR. (LAID: no walk: one application.) -/
theorem Tryz.strconv_ParseInt_10_at64_ok (s : ByteArray) (hmax : s.size ≤ 9223372036854775806) (v : Int) (h : Lib.parseIntB 64 s.data.toList = .ok v) (w : World) :
    Calls Tryz.prog 219 #[.string s, .int .i64 10, .int .i64 64] w fun e w' => e = .returned (.tuple #[.int .i64 v, .nilIface]) ∧ (w' = w ∨ ∃ t, w' = Lib.bytesWorld w 5 t) := Any.strconv_ParseInt_10_at64_ok Tryz.laysC174 s hmax v h w
open Go.RowKit in
/-- strconv.ParseInt(s, 10, 64), AT EVERY NUMERAL THAT NO int64 HOLDS: THE GREATEST OR THE LEAST int64, BY THE SIGN ('Lib.intSat 64'), AND AN ERROR THAT IS NOT nil: a *NumError in a new block N: {Func: "ParseInt", Num: s's bytes, Err: what the variable ErrRange holds}. Of what was there nothing has turned. (LAID: no walk: one application.) -/
theorem Tryz.strconv_ParseInt_10_at64_range (s : ByteArray) (hlim : s.size ≤ 281474976710656) (h : Lib.parseIntB 64 s.data.toList = .range) (ev : Value) (w : World) (hv : w.cell? ⟨8, 0, none⟩ = some ev) (hev : ev = .nilIface ∨ ∃ te pe, ev = .iface te pe) :
    Calls Tryz.prog 219 #[.string s, .int .i64 10, .int .i64 64] w fun e w' => ∃ N, e = .returned (.tuple #[.int .i64 (Lib.intSat 64 s.data.toList), .iface 344 (.pointer (some ⟨N, 0, none⟩))]) ∧ w.heap.size ≤ N ∧ w'.heap[N]? = some (.cells #[.string ⟨#[80, 97, 114, 115, 101, 73, 110, 116]⟩, .string s, ev] 351 (0, 0)) ∧ Below w.heap.size w w' := Any.strconv_ParseInt_10_at64_range Tryz.laysC174 s hlim h ev w hv hev
def Tryz.lays219_ren : Go.Shelf.Ren := ⟨fun | 219 => 213 | 217 => 243 | 225 => 244 | 224 => 245 | 267 => 246 | 266 => 267 | 314 => 268 | n => n, fun | 9 => 9 | 3 => 3 | 4 => 4 | 5 => 5 | 46 => 171 | 146 => 339 | 51 => 149 | n => n, fun | 1 => 1 | n => n⟩
theorem Tryz.lays219 : Go.Proofs.Lays.n219 Tryz.prog Tryz.lays219_ren := {
  mixed := by kernel_rfl
  f217 := Tryz.func243.trans (congrArg some (by kernel_rfl))
  f219 := Tryz.func213.trans (congrArg some (by kernel_rfl))
  f224 := Tryz.func245.trans (congrArg some (by kernel_rfl))
  f225 := Tryz.func244.trans (congrArg some (by kernel_rfl))
  f266 := Tryz.func267.trans (congrArg some (by kernel_rfl))
  f267 := Tryz.func246.trans (congrArg some (by kernel_rfl))
  f314 := Tryz.func268.trans (congrArg some (by kernel_rfl))
  t3 := Tryz.underlying3
  a3 := Tryz.isAgg3
  z3 := Tryz.sizeOf3
  v3 := Tryz.zeroValue3
  t4 := Tryz.underlying4
  a4 := Tryz.isAgg4
  z4 := Tryz.sizeOf4
  v4 := Tryz.zeroValue4
  t5 := Tryz.underlying5
  a5 := Tryz.isAgg5
  z5 := Tryz.sizeOf5
  v5 := Tryz.zeroValue5
  t9 := Tryz.underlying9
  a9 := Tryz.isAgg9
  z9 := Tryz.sizeOf9
  v9 := Tryz.zeroValue9
  t46 := Tryz.underlying171
  a46 := Tryz.isAgg171
  z46 := Tryz.sizeOf171
  v46 := Tryz.zeroValue171
  t51 := Tryz.underlying149
  a51 := Tryz.isAgg149
  z51 := Tryz.sizeOf149
  v51 := Tryz.zeroValue149
  t146 := Tryz.underlying339
  a146 := Tryz.isAgg339
  z146 := Tryz.sizeOf339
  v146 := Tryz.zeroValue339
  g1 := by kernel_rfl }
open Go.RowKit Go.Lib in
/-- internal/stringslite.Index (what strings.Index calls) AT A substr OF ONE BYTE c: IT RETURNS 'Lib.indexByte s c'; the world is as it was. (LAID: no walk: one application.) -/
theorem Tryz.stringslite_Index_one (s : ByteArray) (c : UInt8) (w : World) :
    Calls Tryz.prog 213 #[.string s, .string ⟨#[c]⟩] w fun e w' => e = .returned (.int .i64 (Lib.indexByte s.data.toList c)) ∧ w' = w := Any.stringslite_Index_one Tryz.lays219 s c w
def Tryz.lays145_ren : Go.Shelf.Ren := ⟨fun | 145 => 126 | 220 => 168 | 219 => 213 | 217 => 243 | 225 => 244 | 224 => 245 | 267 => 246 | 266 => 267 | 314 => 268 | n => n, fun | 9 => 9 | 4 => 4 | 59 => 218 | 3 => 3 | 5 => 5 | 46 => 171 | 146 => 339 | 51 => 149 | n => n, fun | 1 => 1 | n => n⟩
theorem Tryz.lays145 : Go.Proofs.Lays.n145 Tryz.prog Tryz.lays145_ren := {
  mixed := by kernel_rfl
  f145 := Tryz.func126.trans (congrArg some (by kernel_rfl))
  f217 := Tryz.func243.trans (congrArg some (by kernel_rfl))
  f219 := Tryz.func213.trans (congrArg some (by kernel_rfl))
  f220 := Tryz.func168.trans (congrArg some (by kernel_rfl))
  f224 := Tryz.func245.trans (congrArg some (by kernel_rfl))
  f225 := Tryz.func244.trans (congrArg some (by kernel_rfl))
  f266 := Tryz.func267.trans (congrArg some (by kernel_rfl))
  f267 := Tryz.func246.trans (congrArg some (by kernel_rfl))
  f314 := Tryz.func268.trans (congrArg some (by kernel_rfl))
  t3 := Tryz.underlying3
  a3 := Tryz.isAgg3
  z3 := Tryz.sizeOf3
  v3 := Tryz.zeroValue3
  t4 := Tryz.underlying4
  a4 := Tryz.isAgg4
  z4 := Tryz.sizeOf4
  v4 := Tryz.zeroValue4
  t5 := Tryz.underlying5
  a5 := Tryz.isAgg5
  z5 := Tryz.sizeOf5
  v5 := Tryz.zeroValue5
  t9 := Tryz.underlying9
  a9 := Tryz.isAgg9
  z9 := Tryz.sizeOf9
  v9 := Tryz.zeroValue9
  t46 := Tryz.underlying171
  a46 := Tryz.isAgg171
  z46 := Tryz.sizeOf171
  v46 := Tryz.zeroValue171
  t51 := Tryz.underlying149
  a51 := Tryz.isAgg149
  z51 := Tryz.sizeOf149
  v51 := Tryz.zeroValue149
  t59 := Tryz.underlying218
  a59 := Tryz.isAgg218
  z59 := Tryz.sizeOf218
  v59 := Tryz.zeroValue218
  t146 := Tryz.underlying339
  a146 := Tryz.isAgg339
  z146 := Tryz.sizeOf339
  v146 := Tryz.zeroValue339
  g1 := by kernel_rfl }
open Go.RowKit Go.Lib in
/-- strings.Cut: "Cut slices s around the first instance of sep, returning the text before and after sep. The found result reports whether sep appears in s. If sep does not appear in s, cut returns s, "", false.": IT RETURNS 'Lib.cut s sep'; the world is as it was but for the count of draws. (LAID: no walk: one application.) -/
theorem Tryz.strings_Cut (s sep : ByteArray) (m : Int) (w : World) (hs : s.size < 4294967281) (hm : w.cell? ⟨1, 0, none⟩ = some (.int .i64 m)) :
    Calls Tryz.prog 126 #[.string s, .string sep] w fun e w' => e = .returned (.tuple #[.string ⟨(Lib.cut s.data.toList sep.data.toList).1.toArray⟩, .string ⟨(Lib.cut s.data.toList sep.data.toList).2.1.toArray⟩, .bool (Lib.cut s.data.toList sep.data.toList).2.2]) ∧ ∃ n, w' = w.drewN n := Any.strings_Cut Tryz.lays145 s sep m w hs hm
def Tryz.lays146_ren : Go.Shelf.Ren := ⟨fun | 146 => 84 | 221 => 125 | 268 => 165 | 138 => 166 | 143 => 167 | 195 => 210 | 197 => 211 | 218 => 212 | 219 => 213 | 260 => 242 | 217 => 243 | 225 => 244 | 224 => 245 | 267 => 246 | 266 => 267 | 314 => 268 | n => n, fun | 9 => 9 | 31 => 170 | 3 => 3 | 4 => 4 | 0 => 0 | 105 => 300 | 21 => 21 | 5 => 5 | 46 => 171 | 119 => 335 | 139 => 338 | 138 => 337 | 146 => 339 | 51 => 149 | n => n, fun | 1 => 1 | 3 => 5 | 4 => 6 | n => n⟩
theorem Tryz.lays146 : Go.Proofs.Lays.n146 Tryz.prog Tryz.lays146_ren := {
  mixed := by kernel_rfl
  f138 := Tryz.func166.trans (congrArg some (by kernel_rfl))
  f143 := Tryz.func167.trans (congrArg some (by kernel_rfl))
  f146 := Tryz.func84.trans (congrArg some (by kernel_rfl))
  f195 := Tryz.func210.trans (congrArg some (by kernel_rfl))
  f197 := Tryz.func211.trans (congrArg some (by kernel_rfl))
  f217 := Tryz.func243.trans (congrArg some (by kernel_rfl))
  f218 := Tryz.func212.trans (congrArg some (by kernel_rfl))
  f219 := Tryz.func213.trans (congrArg some (by kernel_rfl))
  f221 := Tryz.func125.trans (congrArg some (by kernel_rfl))
  f224 := Tryz.func245.trans (congrArg some (by kernel_rfl))
  f225 := Tryz.func244.trans (congrArg some (by kernel_rfl))
  f260 := Tryz.func242.trans (congrArg some (by kernel_rfl))
  f266 := Tryz.func267.trans (congrArg some (by kernel_rfl))
  f267 := Tryz.func246.trans (congrArg some (by kernel_rfl))
  f268 := Tryz.func165.trans (congrArg some (by kernel_rfl))
  f314 := Tryz.func268.trans (congrArg some (by kernel_rfl))
  t0 := Tryz.underlying0
  a0 := Tryz.isAgg0
  z0 := Tryz.sizeOf0
  v0 := Tryz.zeroValue0
  t3 := Tryz.underlying3
  a3 := Tryz.isAgg3
  z3 := Tryz.sizeOf3
  v3 := Tryz.zeroValue3
  t4 := Tryz.underlying4
  a4 := Tryz.isAgg4
  z4 := Tryz.sizeOf4
  v4 := Tryz.zeroValue4
  t5 := Tryz.underlying5
  a5 := Tryz.isAgg5
  z5 := Tryz.sizeOf5
  v5 := Tryz.zeroValue5
  t9 := Tryz.underlying9
  a9 := Tryz.isAgg9
  z9 := Tryz.sizeOf9
  v9 := Tryz.zeroValue9
  t21 := Tryz.underlying21
  a21 := Tryz.isAgg21
  z21 := Tryz.sizeOf21
  v21 := Tryz.zeroValue21
  t31 := Tryz.underlying170
  a31 := Tryz.isAgg170
  z31 := Tryz.sizeOf170
  v31 := Tryz.zeroValue170
  t46 := Tryz.underlying171
  a46 := Tryz.isAgg171
  z46 := Tryz.sizeOf171
  v46 := Tryz.zeroValue171
  t51 := Tryz.underlying149
  a51 := Tryz.isAgg149
  z51 := Tryz.sizeOf149
  v51 := Tryz.zeroValue149
  t105 := Tryz.underlying300
  a105 := Tryz.isAgg300
  z105 := Tryz.sizeOf300
  v105 := Tryz.zeroValue300
  t119 := Tryz.underlying335
  a119 := Tryz.isAgg335
  z119 := Tryz.sizeOf335
  t138 := Tryz.underlying337
  a138 := Tryz.isAgg337
  z138 := Tryz.sizeOf337
  v138 := Tryz.zeroValue337
  t139 := Tryz.underlying338
  a139 := Tryz.isAgg338
  z139 := Tryz.sizeOf338
  v139 := Tryz.zeroValue338
  t146 := Tryz.underlying339
  a146 := Tryz.isAgg339
  z146 := Tryz.sizeOf339
  v146 := Tryz.zeroValue339
  g1 := by kernel_rfl
  g3 := by kernel_rfl
  g4 := by kernel_rfl }
open Go.RowKit Go.Lib in
/-- strings.Split. (LAID: no walk: one application.) -/
theorem Tryz.strings_Split (s sep : ByteArray) (m : Int) (w : World) (hs : s.size < 4294967281) (hm : w.cell? ⟨1, 0, none⟩ = some (.int .i64 m)) (h1 : 1 ≤ sep.size) :
    Calls Tryz.prog 84 #[.string s, .string sep] w fun e w' =>
      e = .returned (.slice (some ⟨w.heap.size, 0, none⟩) (Lib.countB s sep + 1) (Lib.countB s sep + 1)) ∧ w' = w.alloc (.cells ((Lib.splitB sep 0 (Lib.countB s sep) s).map Value.string).toArray 9) := Any.strings_Split Tryz.lays146 (by kernel_rfl) s sep m w hs hm h1
def Tryz.lays240_ren : Go.Shelf.Ren := ⟨fun | 240 => 275 | 166 => 255 | 276 => 288 | n => n, fun | 0 => 0 | 3 => 3 | 4 => 4 | 5 => 5 | 9 => 9 | 20 => 20 | 37 => 57 | 70 => 322 | 72 => 324 | 75 => 307 | 80 => 133 | 164 => 353 | n => n, fun | n => n⟩
theorem Tryz.lays240 : Go.Proofs.Lays.n240 Tryz.prog Tryz.lays240_ren := {
  mixed := by kernel_rfl
  f240 := Tryz.func275.trans (congrArg some (by kernel_rfl))
  f276 := Tryz.func288.trans (congrArg some (by kernel_rfl))
  t0 := Tryz.underlying0
  a0 := Tryz.isAgg0
  z0 := Tryz.sizeOf0
  v0 := Tryz.zeroValue0
  t4 := Tryz.underlying4
  a4 := Tryz.isAgg4
  z4 := Tryz.sizeOf4
  v4 := Tryz.zeroValue4
  t9 := Tryz.underlying9
  a9 := Tryz.isAgg9
  z9 := Tryz.sizeOf9
  v9 := Tryz.zeroValue9
  t20 := Tryz.underlying20
  a20 := Tryz.isAgg20
  z20 := Tryz.sizeOf20
  v20 := Tryz.zeroValue20
  t70 := Tryz.underlying322
  a70 := Tryz.isAgg322
  z70 := Tryz.sizeOf322
  v70 := Tryz.zeroValue322
  t72 := Tryz.underlying324
  a72 := Tryz.isAgg324
  z72 := Tryz.sizeOf324
  v72 := Tryz.zeroValue324
  t164 := Tryz.underlying353
  a164 := Tryz.isAgg353
  z164 := Tryz.sizeOf353
  v164 := Tryz.zeroValue353 }
open Go.RowKit Go.Lib in
theorem Tryz.Builder_X72_240 : Builder.X72 Tryz.prog Tryz.lays240_ren := {
  sizeBuilder := by kernel_rfl
  liesBuilder := by kernel_rfl }
def Tryz.lays166_ren : Go.Shelf.Ren := ⟨fun | 240 => 275 | 166 => 255 | 276 => 288 | n => n, fun | 0 => 0 | 3 => 3 | 4 => 4 | 5 => 5 | 9 => 9 | 20 => 20 | 37 => 57 | 70 => 322 | 72 => 324 | 75 => 307 | 80 => 133 | 164 => 353 | n => n, fun | n => n⟩
theorem Tryz.lays166 : Go.Proofs.Lays.n166 Tryz.prog Tryz.lays166_ren := {
  mixed := by kernel_rfl
  f166 := Tryz.func255.trans (congrArg some (by kernel_rfl))
  f240 := Tryz.func275.trans (congrArg some (by kernel_rfl))
  f276 := Tryz.func288.trans (congrArg some (by kernel_rfl))
  t0 := Tryz.underlying0
  a0 := Tryz.isAgg0
  z0 := Tryz.sizeOf0
  v0 := Tryz.zeroValue0
  t3 := Tryz.underlying3
  a3 := Tryz.isAgg3
  z3 := Tryz.sizeOf3
  v3 := Tryz.zeroValue3
  t4 := Tryz.underlying4
  a4 := Tryz.isAgg4
  z4 := Tryz.sizeOf4
  v4 := Tryz.zeroValue4
  t9 := Tryz.underlying9
  a9 := Tryz.isAgg9
  z9 := Tryz.sizeOf9
  v9 := Tryz.zeroValue9
  t20 := Tryz.underlying20
  a20 := Tryz.isAgg20
  z20 := Tryz.sizeOf20
  v20 := Tryz.zeroValue20
  t37 := Tryz.underlying57
  a37 := Tryz.isAgg57
  z37 := Tryz.sizeOf57
  v37 := Tryz.zeroValue57
  t70 := Tryz.underlying322
  a70 := Tryz.isAgg322
  z70 := Tryz.sizeOf322
  v70 := Tryz.zeroValue322
  t72 := Tryz.underlying324
  a72 := Tryz.isAgg324
  z72 := Tryz.sizeOf324
  v72 := Tryz.zeroValue324
  t75 := Tryz.underlying307
  a75 := Tryz.isAgg307
  z75 := Tryz.sizeOf307
  v75 := Tryz.zeroValue307
  t164 := Tryz.underlying353
  a164 := Tryz.isAgg353
  z164 := Tryz.sizeOf353
  v164 := Tryz.zeroValue353 }
open Go.RowKit Go.Lib in
theorem Tryz.Builder_Extra_166 : Builder.Extra Tryz.prog Tryz.lays166_ren := {
  sizeBuilder := by kernel_rfl
  liesBuilder := by kernel_rfl
  t5 := Tryz.underlying5
  a5 := Tryz.isAgg5
  z5 := Tryz.sizeOf5
  v5 := Tryz.zeroValue5
  infoByte := by kernel_rfl
  cellsByte := by kernel_rfl
  sizeByte := by kernel_rfl
  neB5 := by decide }
open Go.RowKit Go.Lib in
theorem Tryz.Builder_copyCheck (B b : Nat) (bs : List Value) (w : World) (h : Lib.IsBuilder 324 5 B b bs w) :
    Calls Tryz.prog 275 #[.pointer (some ⟨b, 0, none⟩)] w fun e w' => e = .returned (.tuple #[]) ∧ (Lib.BuilderAt 324 5 B b (.pointer (some ⟨b, 0, none⟩)) bs w' ∧ Below B w w') := Any.Builder_copyCheck Tryz.lays240 Tryz.Builder_X72_240 B b bs w h
open Go.RowKit Go.Lib in
theorem Tryz.Builder_WriteString (B b : Nat) (bs : List Value) (s : ByteArray) (w : World) (h : Lib.IsBuilder 324 5 B b bs w) (hlen : bs.length + s.size ≤ 140737488355328) (hBw : B ≤ w.heap.size) :
    Calls Tryz.prog 255 #[.pointer (some ⟨b, 0, none⟩), .string s] w fun e w' => e = .returned (.tuple #[.int .i64 s.size, .nilIface]) ∧ (Lib.BuilderAt 324 5 B b (.pointer (some ⟨b, 0, none⟩)) (bs ++ Lib.strCells s) w' ∧ Below B w w') := Any.Builder_WriteString Tryz.lays166 Tryz.Builder_Extra_166 B b bs s w h hlen hBw
end Go.Proofs
