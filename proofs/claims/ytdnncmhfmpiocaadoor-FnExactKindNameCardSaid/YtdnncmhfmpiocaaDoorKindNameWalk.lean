/-
  The walk of FnExactKindName: it returns true and leaves old memory as it was.
-/
import Derived.Test.YtdnncmhfmpiocaaDoorFaultNames
import Derived.Test.YtdnncmhfmpiocaaDoorBel
import Derived.Test.YtdnncmhfmpiocaaDoorIn
namespace Go.Proofs.YtdnncmhfmpiocaaDoor
open Go.RowKit
set_option maxHeartbeats 2000000 in
theorem fnExactKindName_walk (k : Int) (_ : -9223372036854775808 ≤ k) (_ : k ≤ 9223372036854775807) (w : World) (hL : laidMetH Tryd.prog Rows.fnExactKindNameRow.laid w) :
    Calls Tryd.prog 3 #[.int .i64 k] w fun e w' => e = .returned (.bool true) ∧ Below w.heap.size w w' := by
  obtain ⟨h0, hT⟩ := faultTab_of hL (by simp [Rows.fnExactKindNameRow])
  have c0 := hT 0 _ rfl
  have c1 := hT 1 _ rfl
  have c2 := hT 2 _ rfl
  have c3 := hT 3 _ rfl
  have c4 := hT 4 _ rfl
  have c5 := hT 5 _ rfl
  have c6 := hT 6 _ rfl
  have c7 := hT 7 _ rfl
  clear hT hL
  rcases (show k < 0 ∨ (0 ≤ k ∧ 7 < k) ∨ k = 0 ∨ k = 1 ∨ k = 2 ∨ k = 3 ∨ k = 4 ∨ k = 5 ∨ k = 6 ∨ k = 7 by omega) with h | ⟨h, h2⟩ | rfl | rfl | rfl | rfl | rfl | rfl | rfl | rfl
  all_goals
    go_enter Tryd.func3, Tryd.ntmps3
    go_wp2_with (first | (go_at_call 22; refine (l1In_yes _ _ _ _ (by omega) (by omega)).mono ?_; rintro e w1 ⟨rfl, rfl⟩) | (go_at_call 22; refine (l1In_no _ _ _ _ (by omega)).mono ?_; rintro e w1 ⟨rfl, rfl⟩) | go_in)
    go_ret
    exact ⟨rfl, by (repeat refine belAlloc ?_ _); exact Below.refl _ _⟩
end Go.Proofs.YtdnncmhfmpiocaaDoor
