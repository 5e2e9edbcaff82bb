/-
  The walk of FnExactIsKey: it returns true and leaves old memory as it was.
-/
import Derived.Test.YtopolfibledmnaaDoorTokTabs
namespace Go.Proofs.YtopolfibledmnaaDoor
open Go.RowKit
set_option maxHeartbeats 1000000 in
theorem fnExactIsKey_walk (s : ByteArray) (_ : s.size ≤ maxLen) (w : World) (hL : laidMetH Tryd.prog Rows.fnExactIsKeyRow.laid w) :
    Calls Tryd.prog 3 #[.string s] w fun e w' => e = .returned (.bool true) ∧ Below w.heap.size w w' := by
  have HT := Lib.hid (keyTab_of hL (by simp [Rows.fnExactIsKeyRow]))
  clear hL
  by_cases hbig : 1048576 < (s.size : Int)
  · go_enter Tryd.func3, Tryd.ntmps3
    go_wp2
    go_ret
    exact ⟨rfl, Below.refl _ _⟩
  · go_enter Tryd.func3, Tryd.ntmps3
    go_wp2_with fail
    refine (specIsKey_any s _).mono ?_
    rintro e w1 ⟨rfl, rfl⟩
    have HT1 := Lib.hid (HT.out.later (belAlloc (Below.refl _ w) (.cells (strVals keyNs) 9)))
    go_wp2_with fail
    refine (implIsKey_any s _ HT1.out).mono ?_
    rintro e w2 ⟨rfl, rfl⟩
    go_wp2_with fail
    go_ret
    exact ⟨rfl, belAlloc (Below.refl _ w) _⟩
end Go.Proofs.YtopolfibledmnaaDoor
