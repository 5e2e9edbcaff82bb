/-
  The test for plain bytes, the program's and the reference's: one contract for yes, one for no.
-/
import Derived.Test.YtopolfibledmnaaDoorProg
import Derived.WalkKit
import Derived.Outline
import Derived.WalkLawsBesides
import Derived.Test.YtopolfibledmnaaDoorScan
namespace Go.Proofs.YtopolfibledmnaaDoor
open Go.RowKit
def plainB (c : Int) : Bool := decide ((32 ≤ c ∧ c ≤ 126) ∨ c = 9 ∨ c = 10)
theorem isPlain_yes (c : Int) (w : World) (h : plainB c = true) : Calls Tryd.prog 70 #[.int .u8 c] w fun e w' => e = .returned (.bool true) ∧ w = w' := by
  have h' : (32 ≤ c ∧ c ≤ 126) ∨ c = 9 ∨ c = 10 := by simpa [plainB] using h
  clear h
  rcases h' with ⟨h1, h2⟩ | rfl | rfl
  all_goals
    go_enter Tryd.func70, Tryd.ntmps70
    go_wp2
    go_ret
    exact ⟨rfl, rfl⟩
theorem isPlain_no (c : Int) (w : World) (h : plainB c = false) : Calls Tryd.prog 70 #[.int .u8 c] w fun e w' => e = .returned (.bool false) ∧ w = w' := by
  have h' : ¬ ((32 ≤ c ∧ c ≤ 126) ∨ c = 9 ∨ c = 10) := by simpa [plainB] using h
  clear h
  have h9 : (c == 9) = false := by simp; omega
  have h10 : (c == 10) = false := by simp; omega
  by_cases h1 : 32 ≤ c
  · have h2 : decide (c ≤ 126) = false := decide_eq_false (by omega)
    clear h'
    go_enter Tryd.func70, Tryd.ntmps70
    go_wp2
    go_ret
    exact ⟨rfl, rfl⟩
  · have h2 : decide (32 ≤ c) = false := decide_eq_false (by omega)
    clear h'
    go_enter Tryd.func70, Tryd.ntmps70
    go_wp2
    go_ret
    exact ⟨rfl, rfl⟩
theorem scPlain_yes (c : Int) (w : World) (h : plainB c = true) : Calls Tryd.prog 82 #[.int .u8 c] w fun e w' => e = .returned (.bool true) ∧ w = w' := by
  have h' : (32 ≤ c ∧ c ≤ 126) ∨ c = 9 ∨ c = 10 := by simpa [plainB] using h
  clear h
  rcases h' with ⟨h1, h2⟩ | rfl | rfl
  all_goals
    go_enter Tryd.func82, Tryd.ntmps82
    go_wp2
    go_ret
    exact ⟨rfl, rfl⟩
theorem scPlain_no (c : Int) (w : World) (h : plainB c = false) : Calls Tryd.prog 82 #[.int .u8 c] w fun e w' => e = .returned (.bool false) ∧ w = w' := by
  have h' : ¬ ((32 ≤ c ∧ c ≤ 126) ∨ c = 9 ∨ c = 10) := by simpa [plainB] using h
  clear h
  have h9 : (c == 9) = false := by simp; omega
  have h10 : (c == 10) = false := by simp; omega
  by_cases h1 : 32 ≤ c
  · have h2 : decide (c ≤ 126) = false := decide_eq_false (by omega)
    clear h'
    go_enter Tryd.func82, Tryd.ntmps82
    go_wp2
    go_ret
    exact ⟨rfl, rfl⟩
  · have h2 : decide (32 ≤ c) = false := decide_eq_false (by omega)
    clear h'
    go_enter Tryd.func82, Tryd.ntmps82
    go_wp2
    go_ret
    exact ⟨rfl, rfl⟩
end Go.Proofs.YtopolfibledmnaaDoor
