/-
  CurveAt, the program's and the reference's: both return the value of the curve; the walk of FnExactCurveAt.
-/
import Derived.Test.YtnfkepngjbjeoaaCurve
namespace Go.Proofs.Ytnfkepngjbjeoaa
open Go.RowKit
theorem isTime_any (t : Int) (w : World) : Calls Try.prog 41 #[.int .i64 t] w fun e w' => e = .returned (.bool (decide (0 ≤ t ∧ t ≤ 100000))) ∧ w = w' := by
  rcases (show t < 0 ∨ (0 ≤ t ∧ 100000 < t) ∨ (0 ≤ t ∧ t ≤ 100000) by omega) with h | ⟨h, h2⟩ | ⟨h, h2⟩
  · rw [decide_eq_false (show ¬ (0 ≤ t ∧ t ≤ 100000) by omega)]
    have hd : decide (0 ≤ t) = false := decide_eq_false (by omega)
    go_enter Try.func41, Try.ntmps41
    go_wp2
    go_ret
    exact ⟨rfl, rfl⟩
  · rw [decide_eq_false (show ¬ (0 ≤ t ∧ t ≤ 100000) by omega)]
    have hd : decide (t ≤ 100000) = false := decide_eq_false (by omega)
    go_enter Try.func41, Try.ntmps41
    go_wp2
    go_ret
    exact ⟨rfl, rfl⟩
  · rw [decide_eq_true (show 0 ≤ t ∧ t ≤ 100000 by omega)]
    go_enter Try.func41, Try.ntmps41
    go_wp2
    go_ret
    exact ⟨rfl, rfl⟩
theorem cuTime_any (t : Int) (w : World) : Calls Try.prog 39 #[.int .i64 t] w fun e w' => e = .returned (.bool (decide (0 ≤ t ∧ t ≤ 100000))) ∧ w = w' := by
  rcases (show (t < 0 ∨ 100000 < t) ∨ (0 ≤ t ∧ t ≤ 100000) by omega) with h | ⟨h, h2⟩
  · rw [decide_eq_false (show ¬ (0 ≤ t ∧ t ≤ 100000) by omega)]
    go_enter Try.func39, Try.ntmps39
    go_wp2_with (first | (go_at_call 45; refine (l1In_yes _ _ _ _ (by omega) (by omega)).mono ?_; rintro e w1 ⟨rfl, rfl⟩) | (go_at_call 45; refine (l1In_no _ _ _ _ (by omega)).mono ?_; rintro e w1 ⟨rfl, rfl⟩))
    go_ret
    exact ⟨rfl, rfl⟩
  · rw [decide_eq_true (show 0 ≤ t ∧ t ≤ 100000 by omega)]
    go_enter Try.func39, Try.ntmps39
    go_wp2_with (first | (go_at_call 45; refine (l1In_yes _ _ _ _ (by omega) (by omega)).mono ?_; rintro e w1 ⟨rfl, rfl⟩) | (go_at_call 45; refine (l1In_no _ _ _ _ (by omega)).mono ?_; rintro e w1 ⟨rfl, rfl⟩))
    go_ret
    exact ⟨rfl, rfl⟩
theorem fnExactCurveAt_walk (f : Int) (_ : -9223372036854775808 ≤ f) (_ : f ≤ 9223372036854775807) (l : Int) (_ : -9223372036854775808 ≤ l) (_ : l ≤ 9223372036854775807) (s : Int) (_ : -9223372036854775808 ≤ s) (_ : s ≤ 9223372036854775807) (t : Int) (_ : -9223372036854775808 ≤ t) (_ : t ≤ 9223372036854775807) (w : World) :
    Calls Try.prog 4 #[.agg #[.int .i64 f, .int .i64 l, .int .i64 s], .int .i64 t] w fun e w' => e = .returned (.bool true) ∧ Below w.heap.size w w' := by
  have H0 : Hid (∀ W, _) := fun W => toCurve_any f l s W
  have H1 : Hid (∀ W, _) := fun W => cuGood_any f l s W
  have H2 : Hid (∀ W, _) := fun W => isCurve_any f l s W
  have H3 : Hid (∀ W, _) := fun W => isTime_any t W
  have H4 : Hid (∀ W, _) := fun W => cuTime_any t W
  by_cases h : crvB f l s = true
  · rw [h] at H1 H2
    by_cases ht : 0 ≤ t ∧ t ≤ 100000
    · have H5 : Hid (∀ W, _) := fun W => cuAt_any f l s t W h ht.1 ht.2
      have H6 : Hid (∀ W, _) := fun W => curveAt_any f l s t W h ht.1 ht.2
      rw [decide_eq_true ht] at H3 H4
      generalize cAt f l s t = x at H5 H6
      clear h ht
      go_enter Try.func4, Try.ntmps4
      go_wp2_with (first | (go_at_call 14; refine (H0.out _).mono ?_; rintro e w1 ⟨rfl, rfl⟩) | (go_at_call 38; refine (H1.out _).mono ?_; rintro e w1 ⟨rfl, rfl⟩) | (go_at_call 15; refine (H2.out _).mono ?_; rintro e w1 ⟨rfl, rfl⟩) | (go_at_call 41; refine (H3.out _).mono ?_; rintro e w1 ⟨rfl, rfl⟩) | (go_at_call 39; refine (H4.out _).mono ?_; rintro e w1 ⟨rfl, rfl⟩) | (go_at_call 40; refine (H5.out _).mono ?_; rintro e w1 ⟨rfl, rfl⟩) | (go_at_call 42; refine (H6.out _).mono ?_; rintro e w1 ⟨rfl, rfl⟩) | go_in)
      go_ret
      exact ⟨rfl, by repeat (first | exact Below.refl _ _ | assumption | refine Below.alloc ?_ (by simp; try omega) _ | refine Below.setCell ?_ (by simp; try omega) _ | refine Below.drew ?_)⟩
    · rw [decide_eq_false ht] at H3 H4
      clear h ht
      go_enter Try.func4, Try.ntmps4
      go_wp2_with (first | (go_at_call 14; refine (H0.out _).mono ?_; rintro e w1 ⟨rfl, rfl⟩) | (go_at_call 38; refine (H1.out _).mono ?_; rintro e w1 ⟨rfl, rfl⟩) | (go_at_call 15; refine (H2.out _).mono ?_; rintro e w1 ⟨rfl, rfl⟩) | (go_at_call 41; refine (H3.out _).mono ?_; rintro e w1 ⟨rfl, rfl⟩) | (go_at_call 39; refine (H4.out _).mono ?_; rintro e w1 ⟨rfl, rfl⟩) | go_in)
      go_ret
      exact ⟨rfl, by repeat (first | exact Below.refl _ _ | assumption | refine Below.alloc ?_ (by simp; try omega) _ | refine Below.setCell ?_ (by simp; try omega) _ | refine Below.drew ?_)⟩
  · rw [show crvB f l s = false by simpa using h] at H1 H2
    clear h
    go_enter Try.func4, Try.ntmps4
    go_wp2_with (first | (go_at_call 14; refine (H0.out _).mono ?_; rintro e w1 ⟨rfl, rfl⟩) | (go_at_call 38; refine (H1.out _).mono ?_; rintro e w1 ⟨rfl, rfl⟩) | (go_at_call 15; refine (H2.out _).mono ?_; rintro e w1 ⟨rfl, rfl⟩) | go_in)
    go_ret
    exact ⟨rfl, by repeat (first | exact Below.refl _ _ | assumption | refine Below.alloc ?_ (by simp; try omega) _ | refine Below.setCell ?_ (by simp; try omega) _ | refine Below.drew ?_)⟩
end Go.Proofs.Ytnfkepngjbjeoaa
