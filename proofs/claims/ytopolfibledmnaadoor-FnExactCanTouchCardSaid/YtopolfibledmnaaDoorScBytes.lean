/-
  The reference's test for the number of bytes, walked once: one contract for yes, one for no.
-/
import Derived.Test.YtopolfibledmnaaDoorProg
import Derived.WalkKit
import Derived.Outline
import Derived.WalkLawsBesides
namespace Go.Proofs.YtopolfibledmnaaDoor
open Go.RowKit
theorem scBytes_yes (n : Int) (w : World) (h : n ≤ 4000) : Calls Tryd.prog 57 #[.int .i64 n] w fun e w' => e = .returned (.bool true) ∧ w = w' := by
  go_enter Tryd.func57, Tryd.ntmps57
  go_wp2
  go_ret
  exact ⟨rfl, rfl⟩
theorem scBytes_no (n : Int) (w : World) (h : 4000 < n) : Calls Tryd.prog 57 #[.int .i64 n] w fun e w' => e = .returned (.bool false) ∧ w = w' := by
  have h' : decide (n ≤ 4000) = false := decide_eq_false (by omega)
  go_enter Tryd.func57, Tryd.ntmps57
  go_wp2
  go_ret
  exact ⟨rfl, rfl⟩
end Go.Proofs.YtopolfibledmnaaDoor
