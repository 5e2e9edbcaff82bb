/-
  Curves: the law files' conversion, the tests and the values, the program's and the reference's, walked once each.
-/
import Derived.Test.YtnfkepngjbjeoaaIn
import Derived.Test.YtnfkepngjbjeoaaBase
import Derived.Test.YtnfkepngjbjeoaaBel
import Derived.Lib.Hide
namespace Go.Proofs.Ytnfkepngjbjeoaa
open Go.RowKit
/-- A curve as a value. -/
def crv (f l s : Int) : Value := .agg #[.int .i64 f, .int .i64 l, .int .i64 s]
theorem toCurve_any (f l s : Int) (w : World) : Calls Try.prog 14 #[.agg #[.int .i64 f, .int .i64 l, .int .i64 s]] w fun e w' => e = .returned (.agg #[.int .i64 f, .int .i64 l, .int .i64 s]) ∧ (((w.alloc (.cells #[.int .i64 f, .int .i64 l, .int .i64 s] 23)).alloc (.cells #[.int .i64 f, .int .i64 l, .int .i64 s] 25)).alloc (.cells #[.int .i64 f, .int .i64 l, .int .i64 s] 25)) = w' := by
  go_enter Try.func14, Try.ntmps14
  go_wp2
  exact bodyPost_ret (v := .agg #[.int .i64 f, .int .i64 l, .int .i64 s]) (by simp [results, Try.results14, go_sem]) rfl ⟨rfl, rfl⟩
/-- Whether a curve's parts lie within their bounds. -/
def crvB (f l s : Int) : Bool := decide (0 ≤ f ∧ f ≤ 100000) && decide (0 ≤ l ∧ l ≤ 10000) && decide (0 ≤ s ∧ s ≤ 100000)
theorem crvB_iff {f l s : Int} : crvB f l s = true ↔ (0 ≤ f ∧ f ≤ 100000) ∧ (0 ≤ l ∧ l ≤ 10000) ∧ (0 ≤ s ∧ s ≤ 100000) := by
  simp only [crvB, Bool.and_eq_true, decide_eq_true_eq, and_assoc]
theorem crvB_no {f l s : Int} (h : crvB f l s = false) : f < 0 ∨ (0 ≤ f ∧ 100000 < f) ∨ (0 ≤ f ∧ f ≤ 100000 ∧ l < 0) ∨ (0 ≤ f ∧ f ≤ 100000 ∧ 0 ≤ l ∧ 10000 < l) ∨ (0 ≤ f ∧ f ≤ 100000 ∧ 0 ≤ l ∧ l ≤ 10000 ∧ s < 0) ∨ (0 ≤ f ∧ f ≤ 100000 ∧ 0 ≤ l ∧ l ≤ 10000 ∧ 0 ≤ s ∧ 100000 < s) := by
  have h' : ¬ ((0 ≤ f ∧ f ≤ 100000) ∧ (0 ≤ l ∧ l ≤ 10000) ∧ (0 ≤ s ∧ s ≤ 100000)) := fun hh => by rw [crvB_iff.2 hh] at h; cases h
  omega
set_option maxHeartbeats 400000 in
theorem cuGood_any (f l s : Int) (w : World) : Calls Try.prog 38 #[.agg #[.int .i64 f, .int .i64 l, .int .i64 s]] w fun e w' => e = .returned (.bool (crvB f l s)) ∧ (w.alloc (.cells #[.int .i64 f, .int .i64 l, .int .i64 s] 25)) = w' := by
  by_cases h : crvB f l s = true
  · rw [h]
    obtain ⟨⟨h1, h2⟩, ⟨h3, h4⟩, h5, h6⟩ := crvB_iff.1 h
    clear h
    go_enter Try.func38, Try.ntmps38
    go_wp2_with (first | (go_at_call 45; refine (l1In_yes _ _ _ _ (by omega) (by omega)).mono ?_; rintro e w1 ⟨rfl, rfl⟩) | (go_at_call 45; refine (l1In_no _ _ _ _ (by omega)).mono ?_; rintro e w1 ⟨rfl, rfl⟩))
    go_ret
    exact ⟨rfl, rfl⟩
  · have h' : crvB f l s = false := by simpa using h
    rw [h']
    have hc := crvB_no h'
    clear h h'
    rcases hc with h | ⟨h1, h⟩ | ⟨h1, h2, h⟩ | ⟨h1, h2, h3, h⟩ | ⟨h1, h2, h3, h4, h⟩ | ⟨h1, h2, h3, h4, h5, h⟩
    all_goals
      go_enter Try.func38, Try.ntmps38
      go_wp2_with (first | (go_at_call 45; refine (l1In_yes _ _ _ _ (by omega) (by omega)).mono ?_; rintro e w1 ⟨rfl, rfl⟩) | (go_at_call 45; refine (l1In_no _ _ _ _ (by omega)).mono ?_; rintro e w1 ⟨rfl, rfl⟩))
      go_ret
      exact ⟨rfl, rfl⟩
set_option maxHeartbeats 400000 in
theorem isCurve_any (f l s : Int) (w : World) : Calls Try.prog 15 #[.agg #[.int .i64 f, .int .i64 l, .int .i64 s]] w fun e w' => e = .returned (.bool (crvB f l s)) ∧ (w.alloc (.cells #[.int .i64 f, .int .i64 l, .int .i64 s] 25)) = w' := by
  by_cases h : crvB f l s = true
  · rw [h]
    obtain ⟨⟨h1, h2⟩, ⟨h3, h4⟩, h5, h6⟩ := crvB_iff.1 h
    clear h
    go_enter Try.func15, Try.ntmps15
    go_wp2
    go_ret
    exact ⟨rfl, rfl⟩
  · have h' : crvB f l s = false := by simpa using h
    rw [h']
    have hc := crvB_no h'
    clear h h'
    rcases hc with h | ⟨h1, h⟩ | ⟨h1, h2, h⟩ | ⟨h1, h2, h3, h⟩ | ⟨h1, h2, h3, h4, h⟩ | ⟨h1, h2, h3, h4, h5, h⟩
    · have hd : decide (0 ≤ f) = false := decide_eq_false (by omega)
      go_enter Try.func15, Try.ntmps15
      go_wp2
      go_ret
      exact ⟨rfl, rfl⟩
    · have hd : decide (f ≤ 100000) = false := decide_eq_false (by omega)
      go_enter Try.func15, Try.ntmps15
      go_wp2
      go_ret
      exact ⟨rfl, rfl⟩
    · have hd : decide (0 ≤ l) = false := decide_eq_false (by omega)
      go_enter Try.func15, Try.ntmps15
      go_wp2
      go_ret
      exact ⟨rfl, rfl⟩
    · have hd : decide (l ≤ 10000) = false := decide_eq_false (by omega)
      go_enter Try.func15, Try.ntmps15
      go_wp2
      go_ret
      exact ⟨rfl, rfl⟩
    · have hd : decide (0 ≤ s) = false := decide_eq_false (by omega)
      go_enter Try.func15, Try.ntmps15
      go_wp2
      go_ret
      exact ⟨rfl, rfl⟩
    · have hd : decide (s ≤ 100000) = false := decide_eq_false (by omega)
      go_enter Try.func15, Try.ntmps15
      go_wp2
      go_ret
      exact ⟨rfl, rfl⟩
/-- The value of a curve at a time. -/
def cAt (f l s t : Int) : Int := if t ≤ l then f * t else f * l + s * (t - l)
theorem crv_mul {a b A B : Int} (h0 : 0 ≤ a) (h1 : a ≤ A) (g0 : 0 ≤ b) (g1 : b ≤ B) : 0 ≤ a * b ∧ a * b ≤ A * B := ⟨Int.mul_nonneg h0 g0, Int.mul_le_mul h1 g1 g0 (by omega)⟩
theorem cAt_bd {f l s t : Int} (h : crvB f l s = true) (t0 : 0 ≤ t) (t1 : t ≤ 100000) : 0 ≤ cAt f l s t ∧ cAt f l s t ≤ 20000000000 := by
  obtain ⟨⟨h1, h2⟩, ⟨h3, h4⟩, h5, h6⟩ := crvB_iff.1 h
  unfold cAt
  split
  · have := crv_mul h1 h2 t0 t1; omega
  · have a1 := crv_mul h1 h2 h3 h4
    have a2 := crv_mul (b := t - l) (B := 100000) h5 h6 (by omega) (by omega)
    omega
theorem cuAt_any (f l s t : Int) (w : World) (h : crvB f l s = true) (t0 : 0 ≤ t) (t1 : t ≤ 100000) : Calls Try.prog 40 #[.agg #[.int .i64 f, .int .i64 l, .int .i64 s], .int .i64 t] w fun e w' => e = .returned (.int .i64 (cAt f l s t)) ∧ (w.alloc (.cells #[.int .i64 f, .int .i64 l, .int .i64 s] 25)) = w' := by
  obtain ⟨⟨h1, h2⟩, ⟨h3, h4⟩, h5, h6⟩ := crvB_iff.1 h
  clear h
  by_cases hl : t ≤ l
  · rw [cAt, if_pos hl]
    obtain ⟨m0, m1⟩ := crv_mul h1 h2 t0 t1
    go_enter Try.func40, Try.ntmps40
    go_wp2
    go_ret
    exact ⟨rfl, rfl⟩
  · rw [cAt, if_neg hl]
    obtain ⟨m0, m1⟩ := crv_mul h1 h2 h3 h4
    obtain ⟨m2, m3⟩ := crv_mul (b := t - l) (B := 100000) h5 h6 (by omega) (by omega)
    go_enter Try.func40, Try.ntmps40
    go_wp2
    go_ret
    exact ⟨rfl, rfl⟩
theorem curveAt_any (f l s t : Int) (w : World) (h : crvB f l s = true) (t0 : 0 ≤ t) (t1 : t ≤ 100000) : Calls Try.prog 42 #[.agg #[.int .i64 f, .int .i64 l, .int .i64 s], .int .i64 t] w fun e w' => e = .returned (.int .i64 (cAt f l s t)) ∧ (w.alloc (.cells #[.int .i64 f, .int .i64 l, .int .i64 s] 25)) = w' := by
  obtain ⟨⟨h1, h2⟩, ⟨h3, h4⟩, h5, h6⟩ := crvB_iff.1 h
  clear h
  by_cases hl : t ≤ l
  · rw [cAt, if_pos hl]
    obtain ⟨m0, m1⟩ := crv_mul h1 h2 t0 t1
    go_enter Try.func42, Try.ntmps42
    go_wp2
    go_ret
    exact ⟨rfl, rfl⟩
  · rw [cAt, if_neg hl]
    obtain ⟨m0, m1⟩ := crv_mul h1 h2 h3 h4
    obtain ⟨m2, m3⟩ := crv_mul (b := t - l) (B := 100000) h5 h6 (by omega) (by omega)
    go_enter Try.func42, Try.ntmps42
    go_wp2
    go_ret
    exact ⟨rfl, rfl⟩
end Go.Proofs.Ytnfkepngjbjeoaa
