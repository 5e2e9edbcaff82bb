/-
  The law files' conversion of a fault once more: what it leaves of older memory; and the comparison of equal faults.
-/
import Derived.Test.YtdnncmhfmpiocaaFaultCalls
import Derived.Test.YtdnncmhfmpiocaaBel
namespace Go.Proofs.Ytdnncmhfmpiocaa
open Go.RowKit
theorem toFault_bel (k a : Int) (w : World) :
    Calls Try.prog 10 #[.agg #[.int .i64 k, .int .i64 a]] w fun e w' => e = .returned (.agg #[.int .i64 k, .int .i64 a]) ∧ Below w.heap.size w w' := by
  refine (toFault_any k a w).mono ?_
  rintro e w' ⟨rfl, rfl⟩
  exact ⟨rfl, by (repeat refine belAlloc ?_ _); exact Below.refl _ _⟩
theorem eqFault_bel (k a : Int) (w : World) :
    Calls Try.prog 18 #[.agg #[.int .i64 k, .int .i64 a], .agg #[.int .i64 k, .int .i64 a]] w fun e w' => e = .returned (.bool true) ∧ Below w.heap.size w w' := by
  go_enter Try.func18, Try.ntmps18
  go_wp2
  go_ret
  exact ⟨rfl, by (repeat refine belAlloc ?_ _); exact Below.refl _ _⟩
end Go.Proofs.Ytdnncmhfmpiocaa
