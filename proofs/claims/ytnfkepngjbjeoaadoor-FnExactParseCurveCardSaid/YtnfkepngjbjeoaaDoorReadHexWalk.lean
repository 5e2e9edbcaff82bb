/-
  ReadHex, the program's and the reference's: both return the number of the digits behind 0x; the walk of FnExactReadHex.
-/
import Derived.Test.YtnfkepngjbjeoaaDoorNum
import Derived.Test.YtnfkepngjbjeoaaDoorBits
import Derived.Test.YtnfkepngjbjeoaaDoorHexDigit
namespace Go.Proofs.YtnfkepngjbjeoaaDoor
open Go.RowKit
/-- Whether a text begins with 0x. -/
def isHexB (s : ByteArray) : Bool := decide (2 ≤ s.size ∧ byt s 0 = 48 ∧ byt s 1 = 120)
/-- The value of a hexadecimal text, or -1. -/
def rhD (s : ByteArray) : Int := if isHexB s then numD (fun i => byt s (i + 2)) (s.size - 2) 16 65535 else -1
/-- A value and whether it is one. -/
def outT (x : Int) : Value := .tuple #[.int .i64 (if x < 0 then 0 else x), .bool (decide (0 ≤ x))]
theorem outT_no {x : Int} (h : x < 0) : outT x = .tuple #[.int .i64 0, .bool false] := by rw [outT, if_pos h, decide_eq_false (by omega)]
theorem outT_yes {x : Int} (h : 0 ≤ x) : outT x = .tuple #[.int .i64 x, .bool true] := by rw [outT, if_neg (by omega), decide_eq_true h]
theorem byt_extract {s : ByteArray} {a b i : Nat} (h : a + i < b) : byt (s.extract a b) i = byt s (a + i) := by
  unfold byt
  rw [Lib.extract_data, List.getElem?_take, if_pos (by omega), List.getElem?_drop]
theorem size_extract {s : ByteArray} {a b : Nat} (hb : b ≤ s.size) : (s.extract a b).size = b - a := by
  rw [ByteArray.size_extract, Nat.min_eq_left hb]
end Go.Proofs.YtnfkepngjbjeoaaDoor
