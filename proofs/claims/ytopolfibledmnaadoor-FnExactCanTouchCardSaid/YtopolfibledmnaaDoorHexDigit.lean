/-
  The program's hexDigit, walked once.
-/
import Derived.Test.YtopolfibledmnaaDoorDigits
namespace Go.Proofs.YtopolfibledmnaaDoor
open Go.RowKit
theorem hexDigit_any (c : Int) (w : World) (h0 : 0 ≤ c) (h9 : c ≤ 255) : Calls Tryd.prog 80 #[.int .u8 c] w fun e w' => e = .returned (.int .i64 (hexV c)) ∧ w = w' := by
  by_cases hd : digB c = true
  · have h' : 48 ≤ c ∧ c ≤ 57 := by simpa [digB] using hd
    rw [hexV, if_pos h']
    have HD := Lib.hid hd
    clear hd
    go_enter Tryd.func80, Tryd.ntmps80
    go_wp2_with (go_at_call 81; refine (isDigit_yes _ _ HD.out).mono ?_; rintro e w1 ⟨rfl, rfl⟩)
    go_ret
    exact ⟨rfl, rfl⟩
  · have h' : ¬ (48 ≤ c ∧ c ≤ 57) := by simpa [digB] using hd
    have hd' : digB c = false := by simpa using hd
    have HD := Lib.hid hd'
    rw [hexV, if_neg h']
    clear hd hd' h'
    by_cases h2 : 97 ≤ c ∧ c ≤ 102
    · rw [if_pos h2]
      obtain ⟨h2, h3⟩ := h2
      go_enter Tryd.func80, Tryd.ntmps80
      go_wp2_with (go_at_call 81; refine (isDigit_no _ _ HD.out).mono ?_; rintro e w1 ⟨rfl, rfl⟩)
      go_ret
      exact ⟨rfl, rfl⟩
    · rw [if_neg h2]
      by_cases h3 : 97 ≤ c
      · have h4 : decide (c ≤ 102) = false := decide_eq_false (by omega)
        clear h2
        go_enter Tryd.func80, Tryd.ntmps80
        go_wp2_with (go_at_call 81; refine (isDigit_no _ _ HD.out).mono ?_; rintro e w1 ⟨rfl, rfl⟩)
        go_ret
        exact ⟨rfl, rfl⟩
      · have h4 : decide (97 ≤ c) = false := decide_eq_false h3
        clear h2
        go_enter Tryd.func80, Tryd.ntmps80
        go_wp2_with (go_at_call 81; refine (isDigit_no _ _ HD.out).mono ?_; rintro e w1 ⟨rfl, rfl⟩)
        go_ret
        exact ⟨rfl, rfl⟩
end Go.Proofs.YtopolfibledmnaaDoor
