/-
  The walk of FnExactFaultFits: it returns true and leaves old memory as it was. The tests are decided ahead of each walk.
-/
import Derived.Test.YtdnncmhfmpiocaaFaultCalls
namespace Go.Proofs.Ytdnncmhfmpiocaa
open Go.RowKit
set_option maxHeartbeats 2000000 in
theorem fnExactFaultFits_walk (k : Int) (_ : -9223372036854775808 ≤ k) (_ : k ≤ 9223372036854775807) (a : Int) (_ : -9223372036854775808 ≤ a) (_ : a ≤ 9223372036854775807) (s : ByteArray) (hs : s.size ≤ maxLen) (w : World) :
    Calls Try.prog 5 #[.agg #[.int .i64 k, .int .i64 a], .string s] w fun e w' => e = .returned (.bool true) ∧ Below w.heap.size w w' := by
  unfold maxLen at hs
  have hcases : 1048576 < (s.size : Int) ∨ ((s.size : Int) ≤ 1048576 ∧ k < 1) ∨ ((s.size : Int) ≤ 1048576 ∧ 1 ≤ k ∧ 7 < k) ∨ ((s.size : Int) ≤ 1048576 ∧ 1 ≤ k ∧ k ≤ 7 ∧ a < 0) ∨ ((s.size : Int) ≤ 1048576 ∧ 1 ≤ k ∧ k ≤ 7 ∧ 0 ≤ a ∧ 6000 < a) ∨
      ((s.size : Int) ≤ 1048576 ∧ 1 ≤ k ∧ k ≤ 7 ∧ 0 ≤ a ∧ a ≤ 6000 ∧ 6000 < (s.size : Int)) ∨ ((s.size : Int) ≤ 1048576 ∧ 1 ≤ k ∧ k ≤ 7 ∧ 0 ≤ a ∧ a ≤ 6000 ∧ (s.size : Int) ≤ 6000 ∧ a ≤ (s.size : Int)) ∨
      ((s.size : Int) ≤ 1048576 ∧ 1 ≤ k ∧ k ≤ 7 ∧ 0 ≤ a ∧ a ≤ 6000 ∧ (s.size : Int) ≤ 6000 ∧ (s.size : Int) < a) := by omega
  rcases hcases with h | ⟨h0, h⟩ | ⟨h0, h1, h⟩ | ⟨h0, h1, h2, h⟩ | ⟨h0, h1, h2, h3, h⟩ | ⟨h0, h1, h2, h3, h4, h⟩ | ⟨h0, h1, h2, h3, h4, h5, h⟩ | ⟨h0, h1, h2, h3, h4, h5, h⟩
  rotate_left 5
  · have hd : decide ((s.size : Int) ≤ 6000) = false := by simp; omega
    go_enter Try.func5, Try.ntmps5
    go_wp2_with (first | (go_at_call 10; refine (toFault_any _ _ _).mono ?_; rintro e w1 ⟨rfl, rfl⟩) | go_in)
    go_ret
    exact ⟨rfl, by repeat (first | exact Below.refl _ _ | assumption | refine Below.alloc ?_ (by simp; try omega) _ | refine Below.setCell ?_ (by simp; try omega) _ | refine Below.drew ?_)⟩
  rotate_right 5
  all_goals
    go_enter Try.func5, Try.ntmps5
    go_wp2_with (first | (go_at_call 10; refine (toFault_any _ _ _).mono ?_; rintro e w1 ⟨rfl, rfl⟩) | go_in)
    go_ret
    exact ⟨rfl, by repeat (first | exact Below.refl _ _ | assumption | refine Below.alloc ?_ (by simp; try omega) _ | refine Below.setCell ?_ (by simp; try omega) _ | refine Below.drew ?_)⟩
end Go.Proofs.Ytdnncmhfmpiocaa
