/-
  MultiplyValues, the program's and the reference's: both return the product if both factors and it are values; the walk of FnExactMultiplyValues.
-/
import Derived.Test.YtkcigdcjpnojnaaValue
import Derived.Lib.Hide
namespace Go.Proofs.Ytkcigdcjpnojnaa
open Go.RowKit
theorem mul_bound {a b B : Int} (h0 : 0 ≤ a) (h1 : a ≤ B) (g0 : 0 ≤ b) (g1 : b ≤ B) : 0 ≤ a * b ∧ a * b ≤ B * B := ⟨Int.mul_nonneg h0 g0, Int.mul_le_mul h1 g1 g0 (by omega)⟩
theorem fits_iff {a b B : Int} (hb : 0 < b) : B / b < a ↔ B < a * b := by
  rw [Int.ediv_lt_iff_lt_mul hb]
theorem fnExactMultiplyValues_walk (a : Int) (_ : -9223372036854775808 ≤ a) (_ : a ≤ 9223372036854775807) (b : Int) (_ : -9223372036854775808 ≤ b) (_ : b ≤ 9223372036854775807) (w : World) :
    Calls Try.prog 3 #[.int .i64 a, .int .i64 b] w fun e w' => e = .returned (.bool true) ∧ Below w.heap.size w w' := by
  have hcases : (a < 0 ∨ 1000000000 < a) ∨ ((0 ≤ a ∧ a ≤ 1000000000) ∧ (b < 0 ∨ 1000000000 < b)) ∨ (0 ≤ a ∧ a ≤ 1000000000 ∧ b = 0) ∨ (0 ≤ a ∧ a ≤ 1000000000 ∧ 0 < b ∧ b ≤ 1000000000) := by omega
  rcases hcases with h | ⟨⟨h1, h2⟩, h⟩ | ⟨h1, h2, rfl⟩ | ⟨h1, h2, h3, h4⟩
  · go_enter Try.func3, Try.ntmps3
    go_wp2_with (first | (go_at_call 29; refine (nuValue_yes _ _ (by omega) (by omega)).mono ?_; rintro e w1 ⟨rfl, rfl⟩) | (go_at_call 29; refine (nuValue_no _ _ (by omega)).mono ?_; rintro e w1 ⟨rfl, rfl⟩) | (go_at_call 30; refine (isValue_yes _ _ (by omega) (by omega)).mono ?_; rintro e w1 ⟨rfl, rfl⟩) | (go_at_call 30; refine (isValue_no _ _ (by omega)).mono ?_; rintro e w1 ⟨rfl, rfl⟩) | go_in)
    go_ret
    exact ⟨rfl, Below.refl _ _⟩
  · go_enter Try.func3, Try.ntmps3
    go_wp2_with (first | (go_at_call 29; refine (nuValue_yes _ _ (by omega) (by omega)).mono ?_; rintro e w1 ⟨rfl, rfl⟩) | (go_at_call 29; refine (nuValue_no _ _ (by omega)).mono ?_; rintro e w1 ⟨rfl, rfl⟩) | (go_at_call 30; refine (isValue_yes _ _ (by omega) (by omega)).mono ?_; rintro e w1 ⟨rfl, rfl⟩) | (go_at_call 30; refine (isValue_no _ _ (by omega)).mono ?_; rintro e w1 ⟨rfl, rfl⟩) | go_in)
    go_ret
    exact ⟨rfl, Below.refl _ _⟩
  · go_enter Try.func3, Try.ntmps3
    go_wp2_with (first | (go_at_call 29; refine (nuValue_yes _ _ (by omega) (by omega)).mono ?_; rintro e w1 ⟨rfl, rfl⟩) | (go_at_call 29; refine (nuValue_no _ _ (by omega)).mono ?_; rintro e w1 ⟨rfl, rfl⟩) | (go_at_call 30; refine (isValue_yes _ _ (by omega) (by omega)).mono ?_; rintro e w1 ⟨rfl, rfl⟩) | (go_at_call 30; refine (isValue_no _ _ (by omega)).mono ?_; rintro e w1 ⟨rfl, rfl⟩) | go_in)
    go_ret
    exact ⟨rfl, Below.refl _ _⟩
  · obtain ⟨hm0, hm1⟩ := mul_bound (B := 1000000000) h1 h2 (by omega) h4
    have hf := fits_iff (a := a) (B := 1000000000) h3
    by_cases hb : 1000000000 < a * b
    · have hd := hf.2 hb
      clear hf
      go_enter Try.func3, Try.ntmps3
      go_wp2_with (first | (go_at_call 29; refine (nuValue_yes _ _ (by omega) (by omega)).mono ?_; rintro e w1 ⟨rfl, rfl⟩) | (go_at_call 29; refine (nuValue_no _ _ (by omega)).mono ?_; rintro e w1 ⟨rfl, rfl⟩) | (go_at_call 30; refine (isValue_yes _ _ (by omega) (by omega)).mono ?_; rintro e w1 ⟨rfl, rfl⟩) | (go_at_call 30; refine (isValue_no _ _ (by omega)).mono ?_; rintro e w1 ⟨rfl, rfl⟩) | go_in)
      go_ret
      exact ⟨rfl, Below.refl _ _⟩
    · have hd : ¬ (1000000000 / b < a) := fun h => hb (hf.1 h)
      clear hf
      go_enter Try.func3, Try.ntmps3
      go_wp2_with (first | (go_at_call 29; refine (nuValue_yes _ _ (by omega) (by omega)).mono ?_; rintro e w1 ⟨rfl, rfl⟩) | (go_at_call 29; refine (nuValue_no _ _ (by omega)).mono ?_; rintro e w1 ⟨rfl, rfl⟩) | (go_at_call 30; refine (isValue_yes _ _ (by omega) (by omega)).mono ?_; rintro e w1 ⟨rfl, rfl⟩) | (go_at_call 30; refine (isValue_no _ _ (by omega)).mono ?_; rintro e w1 ⟨rfl, rfl⟩) | go_in)
      go_ret
      exact ⟨rfl, Below.refl _ _⟩
end Go.Proofs.Ytkcigdcjpnojnaa
