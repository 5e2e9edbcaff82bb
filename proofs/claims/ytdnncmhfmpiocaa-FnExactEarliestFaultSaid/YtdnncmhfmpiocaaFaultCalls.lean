/-
  The law files' conversion of a fault, walked once: what it returns, and the world it leaves, written out.
-/
import Derived.Test.YtdnncmhfmpiocaaProg
import Derived.WalkKit
import Derived.Outline
import Derived.WalkLawsBesides
namespace Go.Proofs.Ytdnncmhfmpiocaa
open Go.RowKit
theorem toFault_any (k a : Int) (w : World) :
    Calls Try.prog 10 #[.agg #[.int .i64 k, .int .i64 a]] w fun e w' => e = .returned (.agg #[.int .i64 k, .int .i64 a]) ∧ (((w.alloc (.cells #[.int .i64 k, .int .i64 a] 24)).alloc (.cells #[.int .i64 k, .int .i64 a] 26)).alloc (.cells #[.int .i64 k, .int .i64 a] 26)) = w' := by
  go_enter Try.func10, Try.ntmps10
  go_wp2
  exact bodyPost_ret (v := .agg #[.int .i64 k, .int .i64 a]) (by simp [results, Try.results10, go_sem]) rfl ⟨rfl, rfl⟩
end Go.Proofs.Ytdnncmhfmpiocaa
