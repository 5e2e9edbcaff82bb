/-
  The walk of FnExactIsFault: it returns true and leaves old memory as it was.
-/
import Derived.Test.YtdnncmhfmpiocaaFaultCalls
namespace Go.Proofs.Ytdnncmhfmpiocaa
open Go.RowKit
theorem fnExactIsFault_walk (k : Int) (_ : -9223372036854775808 ≤ k) (_ : k ≤ 9223372036854775807) (a : Int) (_ : -9223372036854775808 ≤ a) (_ : a ≤ 9223372036854775807) (w : World) :
    Calls Try.prog 4 #[.agg #[.int .i64 k, .int .i64 a]] w fun e w' => e = .returned (.bool true) ∧ Below w.heap.size w w' := by
  go_enter Try.func4, Try.ntmps4
  go_wp2_with (first | (go_at_call 10; refine (toFault_any _ _ _).mono ?_; rintro e w1 ⟨rfl, rfl⟩) | go_in)
  all_goals go_ret
  all_goals exact ⟨rfl, by repeat (first | exact Below.refl _ _ | assumption | refine Below.alloc ?_ (by simp; try omega) _ | refine Below.setCell ?_ (by simp; try omega) _ | refine Below.drew ?_)⟩
end Go.Proofs.Ytdnncmhfmpiocaa
