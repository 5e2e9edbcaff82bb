/-
  ScaleValue, the program's and the reference's: both return the same quotient if it is a value; the walk of FnExactScaleValue.
-/
import Derived.Test.YtkcigdcjpnojnaaValue
import Derived.Lib.Hide
namespace Go.Proofs.Ytkcigdcjpnojnaa
open Go.RowKit
theorem prod_bound {a b : Int} (h0 : 0 ≤ a) (h1 : a ≤ 1000000000) (g0 : 0 ≤ b) (g1 : b ≤ 1000000) : 0 ≤ a * b ∧ a * b ≤ 1000000000000000 := ⟨Int.mul_nonneg h0 g0, Int.mul_le_mul h1 g1 g0 (by omega)⟩
set_option maxHeartbeats 1000000 in
theorem fnExactScaleValue_walk (n : Int) (_ : -9223372036854775808 ≤ n) (_ : n ≤ 9223372036854775807) (p : Int) (_ : -9223372036854775808 ≤ p) (_ : p ≤ 9223372036854775807) (d : Int) (_ : -9223372036854775808 ≤ d) (_ : d ≤ 9223372036854775807) (up : Bool) (w : World) :
    Calls Try.prog 5 #[.int .i64 n, .int .i64 p, .int .i64 d, .bool up] w fun e w' => e = .returned (.bool true) ∧ Below w.heap.size w w' := by
  have hcases : (n < 0 ∨ 1000000000 < n) ∨ ((0 ≤ n ∧ n ≤ 1000000000) ∧ p < 0) ∨ ((0 ≤ n ∧ n ≤ 1000000000) ∧ 0 ≤ p ∧ 1000000 < p) ∨ ((0 ≤ n ∧ n ≤ 1000000000) ∧ 0 ≤ p ∧ p ≤ 1000000 ∧ d < 1) ∨ ((0 ≤ n ∧ n ≤ 1000000000) ∧ 0 ≤ p ∧ p ≤ 1000000 ∧ 1 ≤ d ∧ 1000000 < d) ∨ ((0 ≤ n ∧ n ≤ 1000000000) ∧ 0 ≤ p ∧ p ≤ 1000000 ∧ 1 ≤ d ∧ d ≤ 1000000) := by omega
  rcases hcases with h | ⟨⟨h1, h2⟩, h⟩ | ⟨⟨h1, h2⟩, h3, h⟩ | ⟨⟨h1, h2⟩, h3, h4, h⟩ | ⟨⟨h1, h2⟩, h3, h4, h5, h⟩ | ⟨⟨h1, h2⟩, h3, h4, h5, h6⟩
  iterate 5
    · go_enter Try.func5, Try.ntmps5
      go_wp2_with (first | (go_at_call 29; refine (nuValue_yes _ _ (by omega) (by omega)).mono ?_; rintro e w1 ⟨rfl, rfl⟩) | (go_at_call 29; refine (nuValue_no _ _ (by omega)).mono ?_; rintro e w1 ⟨rfl, rfl⟩) | (go_at_call 30; refine (isValue_yes _ _ (by omega) (by omega)).mono ?_; rintro e w1 ⟨rfl, rfl⟩) | (go_at_call 30; refine (isValue_no _ _ (by omega)).mono ?_; rintro e w1 ⟨rfl, rfl⟩) | (go_at_call 31; refine (l1In_yes _ _ _ _ (by omega) (by omega)).mono ?_; rintro e w1 ⟨rfl, rfl⟩) | (go_at_call 31; refine (l1In_no _ _ _ _ (by omega)).mono ?_; rintro e w1 ⟨rfl, rfl⟩) | go_in)
      go_ret
      exact ⟨rfl, Below.refl _ _⟩
  obtain ⟨hm0, hm1⟩ := prod_bound h1 h2 h3 h4
  cases up with
  | false =>
    by_cases hb : 1000000000 < n * p / d
    all_goals
      go_enter Try.func5, Try.ntmps5
      go_wp2_with (first | (go_at_call 29; refine (nuValue_yes _ _ (by omega) (by omega)).mono ?_; rintro e w1 ⟨rfl, rfl⟩) | (go_at_call 29; refine (nuValue_no _ _ (by omega)).mono ?_; rintro e w1 ⟨rfl, rfl⟩) | (go_at_call 30; refine (isValue_yes _ _ (by omega) (by omega)).mono ?_; rintro e w1 ⟨rfl, rfl⟩) | (go_at_call 30; refine (isValue_no _ _ (by omega)).mono ?_; rintro e w1 ⟨rfl, rfl⟩) | (go_at_call 31; refine (l1In_yes _ _ _ _ (by omega) (by omega)).mono ?_; rintro e w1 ⟨rfl, rfl⟩) | (go_at_call 31; refine (l1In_no _ _ _ _ (by omega)).mono ?_; rintro e w1 ⟨rfl, rfl⟩) | go_in)
      go_ret
      exact ⟨rfl, Below.refl _ _⟩
  | true =>
    by_cases hb : 1000000000 < (n * p + (d - 1)) / d
    all_goals
      go_enter Try.func5, Try.ntmps5
      go_wp2_with (first | (go_at_call 29; refine (nuValue_yes _ _ (by omega) (by omega)).mono ?_; rintro e w1 ⟨rfl, rfl⟩) | (go_at_call 29; refine (nuValue_no _ _ (by omega)).mono ?_; rintro e w1 ⟨rfl, rfl⟩) | (go_at_call 30; refine (isValue_yes _ _ (by omega) (by omega)).mono ?_; rintro e w1 ⟨rfl, rfl⟩) | (go_at_call 30; refine (isValue_no _ _ (by omega)).mono ?_; rintro e w1 ⟨rfl, rfl⟩) | (go_at_call 31; refine (l1In_yes _ _ _ _ (by omega) (by omega)).mono ?_; rintro e w1 ⟨rfl, rfl⟩) | (go_at_call 31; refine (l1In_no _ _ _ _ (by omega)).mono ?_; rintro e w1 ⟨rfl, rfl⟩) | go_in)
      go_ret
      exact ⟨rfl, Below.refl _ _⟩
end Go.Proofs.Ytkcigdcjpnojnaa
