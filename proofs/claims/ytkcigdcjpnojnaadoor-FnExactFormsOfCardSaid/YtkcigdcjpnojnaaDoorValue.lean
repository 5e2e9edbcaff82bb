/-
  The tests of a value, the program's and the reference's, walked once: one contract for yes, one for no.
-/
import Derived.Test.YtkcigdcjpnojnaaDoorIn
namespace Go.Proofs.YtkcigdcjpnojnaaDoor
open Go.RowKit
theorem isValue_yes (n : Int) (w : World) (h1 : 0 ≤ n) (h2 : n ≤ 1000000000) : Calls Tryd.prog 17 #[.int .i64 n] w fun e w' => e = .returned (.bool true) ∧ w = w' := by
  go_enter Tryd.func17, Tryd.ntmps17
  go_wp2
  go_ret
  exact ⟨rfl, rfl⟩
theorem isValue_no (n : Int) (w : World) (h : n < 0 ∨ 1000000000 < n) : Calls Tryd.prog 17 #[.int .i64 n] w fun e w' => e = .returned (.bool false) ∧ w = w' := by
  by_cases h1 : 0 ≤ n
  · have h2 : decide (n ≤ 1000000000) = false := decide_eq_false (by omega)
    clear h
    go_enter Tryd.func17, Tryd.ntmps17
    go_wp2
    go_ret
    exact ⟨rfl, rfl⟩
  · have h1' : decide (0 ≤ n) = false := decide_eq_false h1
    clear h
    go_enter Tryd.func17, Tryd.ntmps17
    go_wp2
    go_ret
    exact ⟨rfl, rfl⟩
theorem nuValue_yes (n : Int) (w : World) (h1 : 0 ≤ n) (h2 : n ≤ 1000000000) : Calls Tryd.prog 15 #[.int .i64 n] w fun e w' => e = .returned (.bool true) ∧ w = w' := by
  go_enter Tryd.func15, Tryd.ntmps15
  go_wp2_with (go_at_call 24; refine (l1In_yes _ _ _ _ (by omega) (by omega)).mono ?_; rintro e w1 ⟨rfl, rfl⟩)
  go_ret
  exact ⟨rfl, rfl⟩
theorem nuValue_no (n : Int) (w : World) (h : n < 0 ∨ 1000000000 < n) : Calls Tryd.prog 15 #[.int .i64 n] w fun e w' => e = .returned (.bool false) ∧ w = w' := by
  go_enter Tryd.func15, Tryd.ntmps15
  go_wp2_with (go_at_call 24; refine (l1In_no _ _ _ _ (by omega)).mono ?_; rintro e w1 ⟨rfl, rfl⟩)
  go_ret
  exact ⟨rfl, rfl⟩
end Go.Proofs.YtkcigdcjpnojnaaDoor
