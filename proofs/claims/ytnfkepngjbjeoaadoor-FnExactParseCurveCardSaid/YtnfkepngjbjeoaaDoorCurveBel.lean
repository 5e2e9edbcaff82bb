/-
  The law files' conversion of a curve once more: what it leaves of older memory; and the comparison of equal curves; the tests and values as 'Below'.
-/
import Derived.Test.YtnfkepngjbjeoaaDoorCurve
namespace Go.Proofs.YtnfkepngjbjeoaaDoor
open Go.RowKit
theorem toCurve_bel (f l s : Int) (w : World) :
    Calls Tryd.prog 6 #[.agg #[.int .i64 f, .int .i64 l, .int .i64 s]] w fun e w' => e = .returned (.agg #[.int .i64 f, .int .i64 l, .int .i64 s]) ∧ Below w.heap.size w w' := by
  refine (toCurve_any f l s w).mono ?_
  rintro e w' ⟨rfl, rfl⟩
  exact ⟨rfl, by (repeat refine belAlloc ?_ _); exact Below.refl _ _⟩
theorem eqCurve_bel (f l s : Int) (w : World) :
    Calls Tryd.prog 10 #[.agg #[.int .i64 f, .int .i64 l, .int .i64 s], .agg #[.int .i64 f, .int .i64 l, .int .i64 s]] w fun e w' => e = .returned (.bool true) ∧ Below w.heap.size w w' := by
  go_enter Tryd.func10, Tryd.ntmps10
  go_wp2
  go_ret
  exact ⟨rfl, by (repeat refine belAlloc ?_ _); exact Below.refl _ _⟩
theorem cuGood_bel (f l s : Int) (w : World) : Calls Tryd.prog 11 #[.agg #[.int .i64 f, .int .i64 l, .int .i64 s]] w fun e w' => e = .returned (.bool (crvB f l s)) ∧ Below w.heap.size w w' := by
  refine (cuGood_any f l s w).mono ?_
  rintro e w' ⟨rfl, rfl⟩
  exact ⟨rfl, by (repeat refine belAlloc ?_ _); exact Below.refl _ _⟩
theorem isCurve_bel (f l s : Int) (w : World) : Calls Tryd.prog 13 #[.agg #[.int .i64 f, .int .i64 l, .int .i64 s]] w fun e w' => e = .returned (.bool (crvB f l s)) ∧ Below w.heap.size w w' := by
  refine (isCurve_any f l s w).mono ?_
  rintro e w' ⟨rfl, rfl⟩
  exact ⟨rfl, by (repeat refine belAlloc ?_ _); exact Below.refl _ _⟩
end Go.Proofs.YtnfkepngjbjeoaaDoor
