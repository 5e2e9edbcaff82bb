/-
  The law files' conversion of a fault, walked once: what it returns, and the world it leaves, written out.
-/
import Derived.Test.YtdnncmhfmpiocaaDoorProg
import Derived.WalkKit
import Derived.Outline
import Derived.WalkLawsBesides
namespace Go.Proofs.YtdnncmhfmpiocaaDoor
open Go.RowKit
theorem toFault_any (k a : Int) (w : World) :
    Calls Tryd.prog 14 #[.agg #[.int .i64 k, .int .i64 a]] w fun e w' => e = .returned (.agg #[.int .i64 k, .int .i64 a]) ∧ (((w.alloc (.cells #[.int .i64 k, .int .i64 a] 29)).alloc (.cells #[.int .i64 k, .int .i64 a] 31)).alloc (.cells #[.int .i64 k, .int .i64 a] 31)) = w' := by
  go_enter Tryd.func14, Tryd.ntmps14
  go_wp2
  exact bodyPost_ret (v := .agg #[.int .i64 k, .int .i64 a]) (by simp [results, Tryd.results14, go_sem]) rfl ⟨rfl, rfl⟩
end Go.Proofs.YtdnncmhfmpiocaaDoor
