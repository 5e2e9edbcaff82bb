/-
  The walk of FnExactIsCurve: it returns true and leaves old memory as it was.
-/
import Derived.Test.YtnfkepngjbjeoaaCurve
namespace Go.Proofs.Ytnfkepngjbjeoaa
open Go.RowKit
theorem fnExactIsCurve_walk (f : Int) (_ : -9223372036854775808 ≤ f) (_ : f ≤ 9223372036854775807) (l : Int) (_ : -9223372036854775808 ≤ l) (_ : l ≤ 9223372036854775807) (s : Int) (_ : -9223372036854775808 ≤ s) (_ : s ≤ 9223372036854775807) (w : World) :
    Calls Try.prog 3 #[.agg #[.int .i64 f, .int .i64 l, .int .i64 s]] w fun e w' => e = .returned (.bool true) ∧ Below w.heap.size w w' := by
  have H0 : Hid (∀ W, _) := fun W => toCurve_any f l s W
  have H1 : Hid (∀ W, _) := fun W => cuGood_any f l s W
  have H2 : Hid (∀ W, _) := fun W => isCurve_any f l s W
  generalize crvB f l s = b at H1 H2
  go_enter Try.func3, Try.ntmps3
  go_wp2_with (first | (go_at_call 14; refine (H0.out _).mono ?_; rintro e w1 ⟨rfl, rfl⟩) | (go_at_call 38; refine (H1.out _).mono ?_; rintro e w1 ⟨rfl, rfl⟩) | (go_at_call 15; refine (H2.out _).mono ?_; rintro e w1 ⟨rfl, rfl⟩) | go_in)
  go_ret
  exact ⟨rfl, by repeat (first | exact Below.refl _ _ | assumption | refine Below.alloc ?_ (by simp; try omega) _ | refine Below.setCell ?_ (by simp; try omega) _ | refine Below.drew ?_)⟩
end Go.Proofs.Ytnfkepngjbjeoaa
