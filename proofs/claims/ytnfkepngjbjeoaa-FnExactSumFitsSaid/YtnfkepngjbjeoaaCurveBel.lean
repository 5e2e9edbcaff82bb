/-
  The law files' conversion of a curve once more: what it leaves of older memory; and the comparison of equal curves; the tests and values as 'Below'.
-/
import Derived.Test.YtnfkepngjbjeoaaCurve
namespace Go.Proofs.Ytnfkepngjbjeoaa
open Go.RowKit
theorem toCurve_bel (f l s : Int) (w : World) :
    Calls Try.prog 14 #[.agg #[.int .i64 f, .int .i64 l, .int .i64 s]] w fun e w' => e = .returned (.agg #[.int .i64 f, .int .i64 l, .int .i64 s]) ∧ Below w.heap.size w w' := by
  refine (toCurve_any f l s w).mono ?_
  rintro e w' ⟨rfl, rfl⟩
  exact ⟨rfl, by (repeat refine belAlloc ?_ _); exact Below.refl _ _⟩
theorem eqCurve_bel (f l s : Int) (w : World) :
    Calls Try.prog 24 #[.agg #[.int .i64 f, .int .i64 l, .int .i64 s], .agg #[.int .i64 f, .int .i64 l, .int .i64 s]] w fun e w' => e = .returned (.bool true) ∧ Below w.heap.size w w' := by
  go_enter Try.func24, Try.ntmps24
  go_wp2
  go_ret
  exact ⟨rfl, by (repeat refine belAlloc ?_ _); exact Below.refl _ _⟩
theorem cuGood_bel (f l s : Int) (w : World) : Calls Try.prog 38 #[.agg #[.int .i64 f, .int .i64 l, .int .i64 s]] w fun e w' => e = .returned (.bool (crvB f l s)) ∧ Below w.heap.size w w' := by
  refine (cuGood_any f l s w).mono ?_
  rintro e w' ⟨rfl, rfl⟩
  exact ⟨rfl, by (repeat refine belAlloc ?_ _); exact Below.refl _ _⟩
theorem isCurve_bel (f l s : Int) (w : World) : Calls Try.prog 15 #[.agg #[.int .i64 f, .int .i64 l, .int .i64 s]] w fun e w' => e = .returned (.bool (crvB f l s)) ∧ Below w.heap.size w w' := by
  refine (isCurve_any f l s w).mono ?_
  rintro e w' ⟨rfl, rfl⟩
  exact ⟨rfl, by (repeat refine belAlloc ?_ _); exact Below.refl _ _⟩
theorem cuAt_bel (f l s t : Int) (w : World) (h : crvB f l s = true) (t0 : 0 ≤ t) (t1 : t ≤ 100000) : Calls Try.prog 40 #[.agg #[.int .i64 f, .int .i64 l, .int .i64 s], .int .i64 t] w fun e w' => e = .returned (.int .i64 (cAt f l s t)) ∧ Below w.heap.size w w' := by
  refine (cuAt_any f l s t w h t0 t1).mono ?_
  rintro e w' ⟨rfl, rfl⟩
  exact ⟨rfl, by (repeat refine belAlloc ?_ _); exact Below.refl _ _⟩
theorem curveAt_bel (f l s t : Int) (w : World) (h : crvB f l s = true) (t0 : 0 ≤ t) (t1 : t ≤ 100000) : Calls Try.prog 42 #[.agg #[.int .i64 f, .int .i64 l, .int .i64 s], .int .i64 t] w fun e w' => e = .returned (.int .i64 (cAt f l s t)) ∧ Below w.heap.size w w' := by
  refine (curveAt_any f l s t w h t0 t1).mono ?_
  rintro e w' ⟨rfl, rfl⟩
  exact ⟨rfl, by (repeat refine belAlloc ?_ _); exact Below.refl _ _⟩
end Go.Proofs.Ytnfkepngjbjeoaa
