/-
  The walk of FnExactCurveShape: it returns true and leaves old memory as it was.
-/
import Derived.Test.YtnfkepngjbjeoaaCurve
namespace Go.Proofs.Ytnfkepngjbjeoaa
open Go.RowKit
set_option maxHeartbeats 1000000 in
theorem fnExactCurveShape_walk (f : Int) (_ : -9223372036854775808 ≤ f) (_ : f ≤ 9223372036854775807) (l : Int) (_ : -9223372036854775808 ≤ l) (_ : l ≤ 9223372036854775807) (s : Int) (_ : -9223372036854775808 ≤ s) (_ : s ≤ 9223372036854775807) (w : World) :
    Calls Try.prog 5 #[.agg #[.int .i64 f, .int .i64 l, .int .i64 s]] w fun e w' => e = .returned (.bool true) ∧ Below w.heap.size w w' := by
  have H0 : Hid (∀ W, _) := fun W => toCurve_any f l s W
  have H1 : Hid (∀ W, _) := fun W => cuGood_any f l s W
  have H2 : Hid (∀ W, _) := fun W => isCurve_any f l s W
  by_cases h : crvB f l s = true
  · rw [h] at H1 H2
    obtain ⟨⟨h1, h2⟩, ⟨h3, h4⟩, h5, h6⟩ := crvB_iff.1 h
    clear h
    by_cases hl : l = 0
    · have e1 : (l == 0) = true := by simpa using hl
      clear hl
      by_cases he : f = s
      · have e2 : (f == s) = true := by simpa using he
        clear he
        go_enter Try.func5, Try.ntmps5
        go_wp2_with (first | (go_at_call 14; refine (H0.out _).mono ?_; rintro e w1 ⟨rfl, rfl⟩) | (go_at_call 38; refine (H1.out _).mono ?_; rintro e w1 ⟨rfl, rfl⟩) | (go_at_call 15; refine (H2.out _).mono ?_; rintro e w1 ⟨rfl, rfl⟩) | go_in)
        go_ret
        exact ⟨rfl, by repeat (first | exact Below.refl _ _ | assumption | refine Below.alloc ?_ (by simp; try omega) _ | refine Below.setCell ?_ (by simp; try omega) _ | refine Below.drew ?_)⟩
      · have e2 : (f == s) = false := by simpa using he
        clear he
        go_enter Try.func5, Try.ntmps5
        go_wp2_with (first | (go_at_call 14; refine (H0.out _).mono ?_; rintro e w1 ⟨rfl, rfl⟩) | (go_at_call 38; refine (H1.out _).mono ?_; rintro e w1 ⟨rfl, rfl⟩) | (go_at_call 15; refine (H2.out _).mono ?_; rintro e w1 ⟨rfl, rfl⟩) | go_in)
        go_ret
        exact ⟨rfl, by repeat (first | exact Below.refl _ _ | assumption | refine Below.alloc ?_ (by simp; try omega) _ | refine Below.setCell ?_ (by simp; try omega) _ | refine Below.drew ?_)⟩
    · have e1 : (l == 0) = false := by simpa using hl
      clear hl
      rcases Int.lt_trichotomy f s with he | he | he
      · have e2 : (f == s) = false := by simp; omega
        have d2 : decide (s < f) = false := decide_eq_false (by omega)
        have e3 : f - s < 0 := by omega
        go_enter Try.func5, Try.ntmps5
        go_wp2_with (first | (go_at_call 14; refine (H0.out _).mono ?_; rintro e w1 ⟨rfl, rfl⟩) | (go_at_call 38; refine (H1.out _).mono ?_; rintro e w1 ⟨rfl, rfl⟩) | (go_at_call 15; refine (H2.out _).mono ?_; rintro e w1 ⟨rfl, rfl⟩) | go_in)
        go_ret
        exact ⟨rfl, by repeat (first | exact Below.refl _ _ | assumption | refine Below.alloc ?_ (by simp; try omega) _ | refine Below.setCell ?_ (by simp; try omega) _ | refine Below.drew ?_)⟩
      · have e2 : (f == s) = true := by simpa using he
        have e3 : f - s = 0 := by omega
        clear he
        go_enter Try.func5, Try.ntmps5
        go_wp2_with (first | (go_at_call 14; refine (H0.out _).mono ?_; rintro e w1 ⟨rfl, rfl⟩) | (go_at_call 38; refine (H1.out _).mono ?_; rintro e w1 ⟨rfl, rfl⟩) | (go_at_call 15; refine (H2.out _).mono ?_; rintro e w1 ⟨rfl, rfl⟩) | go_in)
        go_ret
        exact ⟨rfl, by repeat (first | exact Below.refl _ _ | assumption | refine Below.alloc ?_ (by simp; try omega) _ | refine Below.setCell ?_ (by simp; try omega) _ | refine Below.drew ?_)⟩
      · have e2 : (f == s) = false := by simp; omega
        have e3 : 0 < f - s := by omega
        go_enter Try.func5, Try.ntmps5
        go_wp2_with (first | (go_at_call 14; refine (H0.out _).mono ?_; rintro e w1 ⟨rfl, rfl⟩) | (go_at_call 38; refine (H1.out _).mono ?_; rintro e w1 ⟨rfl, rfl⟩) | (go_at_call 15; refine (H2.out _).mono ?_; rintro e w1 ⟨rfl, rfl⟩) | go_in)
        go_ret
        exact ⟨rfl, by repeat (first | exact Below.refl _ _ | assumption | refine Below.alloc ?_ (by simp; try omega) _ | refine Below.setCell ?_ (by simp; try omega) _ | refine Below.drew ?_)⟩
  · rw [show crvB f l s = false by simpa using h] at H1 H2
    clear h
    go_enter Try.func5, Try.ntmps5
    go_wp2_with (first | (go_at_call 14; refine (H0.out _).mono ?_; rintro e w1 ⟨rfl, rfl⟩) | (go_at_call 38; refine (H1.out _).mono ?_; rintro e w1 ⟨rfl, rfl⟩) | (go_at_call 15; refine (H2.out _).mono ?_; rintro e w1 ⟨rfl, rfl⟩) | go_in)
    go_ret
    exact ⟨rfl, by repeat (first | exact Below.refl _ _ | assumption | refine Below.alloc ?_ (by simp; try omega) _ | refine Below.setCell ?_ (by simp; try omega) _ | refine Below.drew ?_)⟩
end Go.Proofs.Ytnfkepngjbjeoaa
