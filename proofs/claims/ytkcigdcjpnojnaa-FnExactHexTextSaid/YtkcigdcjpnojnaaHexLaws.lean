/-
  Hexadecimal digits: the plain function hexL, the bits and shifts that the program uses, and the slice of the constant string of digits.
-/
import Derived.Test.YtkcigdcjpnojnaaProg
import Derived.WalkKit
import Derived.Outline
import Derived.WalkLawsBesides
import Derived.Lib.Hide
namespace Go.Proofs.Ytkcigdcjpnojnaa
open Go.RowKit
/-- The digit of a number below 16. -/
def hexB (n : Nat) : UInt8 := #[48, 49, 50, 51, 52, 53, 54, 55, 56, 57, 97, 98, 99, 100, 101, 102].getD n 0
/-- The digits of a number, the highest one first, without needless zeros. -/
def hexL (n : Nat) : List UInt8 := if n < 16 then [hexB n] else hexL (n / 16) ++ [hexB (n % 16)]
termination_by n
decreasing_by omega
theorem hexL_small {n : Nat} (h : n < 16) : hexL n = [hexB n] := by rw [hexL, if_pos h]
theorem hexL_big {n : Nat} (h : 16 ≤ n) : hexL n = hexL (n / 16) ++ [hexB (n % 16)] := by rw [hexL, if_neg (by omega)]
theorem hexL_length : ∀ (k n : Nat), n < 16 ^ (k + 1) → (hexL n).length ≤ k + 1
  | 0, n, h => by rw [hexL_small (by simpa using h)]; simp
  | k + 1, n, h => by
    by_cases h1 : n < 16
    · rw [hexL_small h1]; simp
    · rw [hexL_big (by omega)]
      have := hexL_length k (n / 16) (by rw [Nat.div_lt_iff_lt_mul (by omega)]; rw [Nat.pow_succ] at h; exact h)
      simp; omega
theorem slice_hex (x : Int) (h0 : 0 ≤ x) (h : x < 16) (W : World) : (Instr.slice 9 (.string ⟨#[48, 49, 50, 51, 52, 53, 54, 55, 56, 57, 97, 98, 99, 100, 101, 102]⟩) (some (.int .i64 x)) (some (.int .i64 (x + 1))) none).run Try.prog W = .ok (.string ⟨#[hexB x.toNat]⟩) W := by
  have hx : x = 0 ∨ x = 1 ∨ x = 2 ∨ x = 3 ∨ x = 4 ∨ x = 5 ∨ x = 6 ∨ x = 7 ∨ x = 8 ∨ x = 9 ∨ x = 10 ∨ x = 11 ∨ x = 12 ∨ x = 13 ∨ x = 14 ∨ x = 15 := by omega
  clear h0 h
  rcases hx with rfl | rfl | rfl | rfl | rfl | rfl | rfl | rfl | rfl | rfl | rfl | rfl | rfl | rfl | rfl | rfl
  all_goals (refine Eq.trans ?_ (Eq.refl _); kernel_rfl)
theorem and15 (k : Nat) (h : k < 4294967296) : bits .and .i64 (k : Int) 15 = (k : Int) % 16 := by
  show IntKind.i64.wrap ((BitVec.ofInt 64 (k : Int) &&& BitVec.ofInt 64 15).toNat : Int) = _
  have e1 : (BitVec.ofInt 64 (k : Int)).toNat = k := by rw [BitVec.ofInt_natCast, BitVec.toNat_ofNat]; omega
  have e2 : (BitVec.ofInt 64 15).toNat = 2 ^ 4 - 1 := by decide
  rw [BitVec.toNat_and, e1, e2, Nat.and_two_pow_sub_one_eq_mod, IntKind.wrap_i64]
  omega
theorem cat_lists (a b : List UInt8) : (⟨a.toArray⟩ ++ ⟨b.toArray⟩ : ByteArray) = ⟨(a ++ b).toArray⟩ := by
  apply ByteArray.ext
  simp
theorem str_cat (x : UInt8) (b : List UInt8) : Value.string (⟨#[x]⟩ ++ ⟨b.toArray⟩) = Value.string ⟨(x :: b).toArray⟩ := congrArg _ (cat_lists [x] b)
end Go.Proofs.Ytkcigdcjpnojnaa
