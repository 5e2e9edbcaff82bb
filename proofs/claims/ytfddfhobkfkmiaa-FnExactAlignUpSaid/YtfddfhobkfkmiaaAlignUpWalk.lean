/-
  The walk of FnExactAlignUp: it returns true and leaves old memory as it was. The tests are decided ahead of each walk.
-/
import Derived.Test.YtfddfhobkfkmiaaIn
namespace Go.Proofs.Ytfddfhobkfkmiaa
open Go.RowKit
theorem fnExactAlignUp_walk (n : Int) (_ : -9223372036854775808 ≤ n) (_ : n ≤ 9223372036854775807) (d : Int) (_ : -9223372036854775808 ≤ d) (_ : d ≤ 9223372036854775807) (w : World) :
    Calls Try.prog 3 #[.int .i64 n, .int .i64 d] w fun e w' => e = .returned (.bool true) ∧ Below w.heap.size w w' := by
  have hcases : n < 0 ∨ (0 ≤ n ∧ 1000000 < n) ∨ (0 ≤ n ∧ n ≤ 1000000 ∧ d < 1) ∨ (0 ≤ n ∧ n ≤ 1000000 ∧ 1 ≤ d ∧ 16 < d) ∨ (0 ≤ n ∧ n ≤ 1000000 ∧ 1 ≤ d ∧ d ≤ 16) := by omega
  rcases hcases with h | ⟨h1, h⟩ | ⟨h1, h2, h⟩ | ⟨h1, h2, h3, h⟩ | ⟨h1, h2, h3, h⟩
  all_goals
    go_enter Try.func3, Try.ntmps3
    go_wp2_with (first | (go_at_call 43; refine (l1In_yes _ _ _ _ (by omega) (by omega)).mono ?_; rintro e w1 ⟨rfl, rfl⟩) | (go_at_call 43; refine (l1In_no _ _ _ _ (by omega)).mono ?_; rintro e w1 ⟨rfl, rfl⟩) | go_in)
    go_ret
    exact ⟨rfl, Below.refl _ _⟩
end Go.Proofs.Ytfddfhobkfkmiaa
