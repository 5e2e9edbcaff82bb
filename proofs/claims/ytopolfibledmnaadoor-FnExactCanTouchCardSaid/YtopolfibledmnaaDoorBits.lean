/-
  Shifts and bits of ints, as plain arithmetic.
-/
import Derived.Test.YtopolfibledmnaaDoorProg
import Derived.WalkKit
import Derived.Outline
import Derived.WalkLawsBesides
import Derived.Lib.Hide
namespace Go.Proofs.YtopolfibledmnaaDoor
open Go.RowKit
theorem ofInt_toNat (a : Nat) (ha : a < 9223372036854775808) : (BitVec.ofInt 64 (a : Int)).toNat = a := by
  rw [BitVec.ofInt_natCast, BitVec.toNat_ofNat]
  exact Nat.mod_eq_of_lt (by omega)
theorem bits_or_nat (a b : Nat) (ha : a < 4611686018427387904) (hb : b < 4611686018427387904) : bits .or .i64 (a : Int) (b : Int) = ((a ||| b : Nat) : Int) := by
  have hx : a ||| b < 2 ^ 62 := Nat.or_lt_two_pow (by omega) (by omega)
  show IntKind.i64.wrap ((BitVec.ofInt 64 (a : Int) ||| BitVec.ofInt 64 (b : Int)).toNat : Int) = _
  rw [BitVec.toNat_or, ofInt_toNat a (by omega), ofInt_toNat b (by omega), IntKind.wrap_i64]
  omega
theorem or_byte (x b : Int) (h0 : 0 ≤ x) (h1 : x ≤ 4294967296) (h2 : 0 ≤ b) (h3 : b ≤ 255) : bits .or .i64 (x * 256) b = x * 256 + b := by
  obtain ⟨m, rfl⟩ := Int.eq_ofNat_of_zero_le h0
  obtain ⟨c, rfl⟩ := Int.eq_ofNat_of_zero_le h2
  have e := Nat.two_pow_add_eq_or_of_lt (i := 8) (b := c) (by omega) m
  have := bits_or_nat (2 ^ 8 * m) c (by omega) (by omega)
  rw [← e] at this
  rw [show ((m : Int) * 256) = ((2 ^ 8 * m : Nat) : Int) by omega, this]
  omega
theorem or_nibble (x b : Int) (h0 : 0 ≤ x) (h1 : x ≤ 4294967296) (h2 : 0 ≤ b) (h3 : b ≤ 15) : bits .or .i64 (x * 16) b = x * 16 + b := by
  obtain ⟨m, rfl⟩ := Int.eq_ofNat_of_zero_le h0
  obtain ⟨c, rfl⟩ := Int.eq_ofNat_of_zero_le h2
  have e := Nat.two_pow_add_eq_or_of_lt (i := 4) (b := c) (by omega) m
  have := bits_or_nat (2 ^ 4 * m) c (by omega) (by omega)
  rw [← e] at this
  rw [show ((m : Int) * 16) = ((2 ^ 4 * m : Nat) : Int) by omega, this]
  omega
end Go.Proofs.YtopolfibledmnaaDoor
