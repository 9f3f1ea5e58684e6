/-
  Plain words: fixes, their errors, references and lines.
-/
import Derived.Test.YtempiooclhmeoaaGreatDoorRefT
import Derived.Test.YtempiooclhmeoaaGreatDoorAngL
import Derived.Test.YtempiooclhmeoaaGreatDoorDistT
namespace Go.Proofs.YtempiooclhmeoaaGreatDoor
open Go.RowKit
set_option linter.unusedVariables false
set_option linter.unusedSimpArgs false

/-- a fix: identifier, region, kind, position, elevation, range -/
structure Fx where
  id : List UInt8
  rg : List UInt8
  kd : Nat
  lat : Int
  lon : Int
  el : Int
  ra : Int
def fxc (f : Fx) : List Value := [.string (sb f.id), .string (sb f.rg), .int .u8 (f.kd : Int), .int .i64 f.lat, .int .i64 f.lon, .int .i64 f.el, .int .i64 f.ra]
def fxcells (l : List Fx) : List Value := l.flatMap fxc
def fx0 : Fx := ⟨[], [], 0, 0, 0, 0, 0⟩
/-- RW, two digits from 01 to 36, perhaps L, C or R -/
def rwyB (l : List UInt8) : Bool :=
  decide (4 ≤ l.length) && decide (l.length ≤ 5) && (l.take 2 == [82, 87]) && digC (l.getD 2 0) && decide ((l.getD 2 0).toNat ≤ 51) && digC (l.getD 3 0)
  && decide (1 ≤ 10 * ((l.getD 2 0).toNat - 48) + ((l.getD 3 0).toNat - 48)) && decide (10 * ((l.getD 2 0).toNat - 48) + ((l.getD 3 0).toNat - 48) ≤ 36)
  && (decide (l.length = 4) || l.getD 4 0 == 76 || l.getD 4 0 == 67 || l.getD 4 0 == 82)
def identE (l : List UInt8) (k : Nat) : Int := if nameB l 6 && (k != 6 || rwyB l) then 0 else 5
def locE (l : List UInt8) (k : Nat) : Int := if (k == 6 && nameB l 6) || (k != 6 && shortB l) then 0 else 5
def elevB (k : Nat) : Bool := decide (k = 5) || decide (k = 6)
def navB (k : Nat) : Bool := decide (k = 2) || decide (k = 3) || decide (k = 4)
def elE (k : Nat) (el : Int) : Int := if elevB k then (if el < -200000 ∨ 6000000 < el then 2 else 0) else (if el = 0 then 0 else 1)
def raE (k : Nat) (ra : Int) : Int := if navB k then (if ra < 1 ∨ 8000000 < ra then 2 else 0) else (if ra = 0 then 0 else 1)
/-- the first error of a fix -/
def fixE (f : Fx) : Int :=
  if f.kd < 1 ∨ 6 < f.kd then 17 else if identE f.id f.kd ≠ 0 then 5 else if locE f.rg f.kd ≠ 0 then 5 else if posB f.lat f.lon = false then 2
  else if elE f.kd f.el ≠ 0 then elE f.kd f.el else raE f.kd f.ra
def fxRef (f : Fx) : List UInt8 := f.id ++ 47 :: f.rg
def kindWords : List (List UInt8) := [[87, 65, 89, 80, 79, 73, 78, 84], [86, 79, 82], [68, 77, 69], [78, 68, 66], [65, 73, 82, 80, 79, 82, 84], [82, 85, 78, 87, 65, 89]]
def kindWord (k : Nat) : List UInt8 := kindWords.getD (k - 1) []
/-- the line of a fix -/
def fxLine (f : Fx) : List UInt8 :=
  kindWord f.kd ++ 32 :: (f.id ++ 32 :: (f.rg ++ 32 :: (posOut f.lat f.lon ++ ((if elevB f.kd then 32 :: altOut f.el else []) ++ (if navB f.kd then 32 :: distOut f.ra else [])))))
def fxOut (f : Fx) : List UInt8 := if fixE f = 0 then fxLine f else []
end Go.Proofs.YtempiooclhmeoaaGreatDoor
