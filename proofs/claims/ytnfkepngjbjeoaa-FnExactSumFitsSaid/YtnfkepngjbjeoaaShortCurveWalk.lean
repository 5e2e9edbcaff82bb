/-
  ShortCurve, the program's and the reference's: both return the plain shF, shL; the walk of FnExactShortCurve.
-/
import Derived.Test.YtnfkepngjbjeoaaCurve
namespace Go.Proofs.Ytnfkepngjbjeoaa
open Go.RowKit
/-- The parts of the short curve. -/
def shF (f l s : Int) : Int := if l = 0 ∨ f = s then 0 else f
def shL (f l s : Int) : Int := if l = 0 ∨ f = s then 0 else l
set_option maxHeartbeats 1000000 in
theorem cuShort_any (f l s : Int) (w : World) (_ : -9223372036854775808 ≤ f - s) (_ : f - s ≤ 9223372036854775807) : Calls Try.prog 49 #[.agg #[.int .i64 f, .int .i64 l, .int .i64 s]] w fun e w' => e = .returned (.agg #[.int .i64 (shF f l s), .int .i64 (shL f l s), .int .i64 s]) ∧ (((w.alloc (.cells #[.int .i64 f, .int .i64 l, .int .i64 s] 25)).alloc (.cells #[.int .i64 (shF f l s), .int .i64 (shL f l s), .int .i64 s] 25)).alloc (.cells #[.int .i64 f, .int .i64 l, .int .i64 s] 25)) = w' := by
  by_cases hl : l = 0
  · by_cases he : f = s
    · rw [shF, shL, if_pos (by omega), if_pos (by omega)]
      have e1 : (l == 0) = true := by simpa using hl
      have e2 : (f == s) = true := by simpa using he
      clear hl he
      go_enter Try.func49, Try.ntmps49
      go_wp2
      exact bodyPost_ret (v := .agg #[.int .i64 0, .int .i64 0, .int .i64 s]) (by simp [results, Try.results49, go_sem]) rfl ⟨rfl, rfl⟩
    · rw [shF, shL, if_pos (by omega), if_pos (by omega)]
      have e1 : (l == 0) = true := by simpa using hl
      have e2 : (f == s) = false := by simpa using he
      clear hl he
      go_enter Try.func49, Try.ntmps49
      go_wp2
      exact bodyPost_ret (v := .agg #[.int .i64 0, .int .i64 0, .int .i64 s]) (by simp [results, Try.results49, go_sem]) rfl ⟨rfl, rfl⟩
  · rcases Int.lt_trichotomy f s with he | he | he
    · rw [shF, shL, if_neg (by omega), if_neg (by omega)]
      have e1 : (l == 0) = false := by simpa using hl
      have e2 : (f == s) = false := by simp; omega
      have d2 : decide (s < f) = false := decide_eq_false (by omega)
      have e3 : f - s < 0 := by omega
      clear hl
      go_enter Try.func49, Try.ntmps49
      go_wp2
      exact bodyPost_ret (v := .agg #[.int .i64 f, .int .i64 l, .int .i64 s]) (by simp [results, Try.results49, go_sem]) rfl ⟨rfl, rfl⟩
    · rw [shF, shL, if_pos (by omega), if_pos (by omega)]
      have e1 : (l == 0) = false := by simpa using hl
      have e2 : (f == s) = true := by simpa using he
      have e3 : f - s = 0 := by omega
      clear hl he
      go_enter Try.func49, Try.ntmps49
      go_wp2
      exact bodyPost_ret (v := .agg #[.int .i64 0, .int .i64 0, .int .i64 s]) (by simp [results, Try.results49, go_sem]) rfl ⟨rfl, rfl⟩
    · rw [shF, shL, if_neg (by omega), if_neg (by omega)]
      have e1 : (l == 0) = false := by simpa using hl
      have e2 : (f == s) = false := by simp; omega
      have e3 : 0 < f - s := by omega
      clear hl
      go_enter Try.func49, Try.ntmps49
      go_wp2
      exact bodyPost_ret (v := .agg #[.int .i64 f, .int .i64 l, .int .i64 s]) (by simp [results, Try.results49, go_sem]) rfl ⟨rfl, rfl⟩
set_option maxHeartbeats 1000000 in
theorem implShortCurve_no (f l s : Int) (w : World) (h : crvB f l s = false) : Calls Try.prog 23 #[.agg #[.int .i64 f, .int .i64 l, .int .i64 s]] w fun e w' => e = .returned (.tuple #[.agg #[.int .i64 0, .int .i64 0, .int .i64 0], .bool false]) ∧ (((w.alloc (.cells #[.int .i64 f, .int .i64 l, .int .i64 s] 25)).alloc (.cells #[.int .i64 0, .int .i64 0, .int .i64 0] 25)).alloc (.cells #[.int .i64 f, .int .i64 l, .int .i64 s] 25)) = w' := by
  have H2 : Hid (∀ W, _) := fun W => isCurve_any f l s W
  rw [h] at H2
  clear h
  go_enter Try.func23, Try.ntmps23
  go_wp2_with (first | (go_at_call 15; refine (H2.out _).mono ?_; rintro e w1 ⟨rfl, rfl⟩) | go_in)
  exact bodyPost_ret (v := .tuple #[.agg #[.int .i64 0, .int .i64 0, .int .i64 0], .bool false]) (by simp [results, Try.results23, go_sem]) rfl ⟨rfl, rfl⟩
set_option maxHeartbeats 1000000 in
theorem implShortCurve_yes (f l s : Int) (w : World) (h : crvB f l s = true) : Calls Try.prog 23 #[.agg #[.int .i64 f, .int .i64 l, .int .i64 s]] w fun e w' => e = .returned (.tuple #[.agg #[.int .i64 (shF f l s), .int .i64 (shL f l s), .int .i64 s], .bool true]) ∧ ((((w.alloc (.cells #[.int .i64 f, .int .i64 l, .int .i64 s] 25)).alloc (.cells #[.int .i64 (shF f l s), .int .i64 (shL f l s), .int .i64 s] 25)).alloc (.cells #[.int .i64 f, .int .i64 l, .int .i64 s] 25)).alloc (.cells #[.int .i64 f, .int .i64 l, .int .i64 s] 25)) = w' := by
  have H2 : Hid (∀ W, _) := fun W => isCurve_any f l s W
  rw [h] at H2
  obtain ⟨⟨h1, h2⟩, ⟨h3, h4⟩, h5, h6⟩ := crvB_iff.1 h
  clear h
  by_cases hl : l = 0
  · by_cases he : f = s
    · rw [shF, shL, if_pos (by omega), if_pos (by omega)]
      have e1 : (l == 0) = true := by simpa using hl
      have e2 : (f == s) = true := by simpa using he
      clear hl he
      go_enter Try.func23, Try.ntmps23
      go_wp2_with (first | (go_at_call 15; refine (H2.out _).mono ?_; rintro e w1 ⟨rfl, rfl⟩) | go_in)
      exact bodyPost_ret (v := .tuple #[.agg #[.int .i64 0, .int .i64 0, .int .i64 s], .bool true]) (by simp [results, Try.results23, go_sem]) rfl ⟨rfl, rfl⟩
    · rw [shF, shL, if_pos (by omega), if_pos (by omega)]
      have e1 : (l == 0) = true := by simpa using hl
      have e2 : (f == s) = false := by simpa using he
      clear hl he
      go_enter Try.func23, Try.ntmps23
      go_wp2_with (first | (go_at_call 15; refine (H2.out _).mono ?_; rintro e w1 ⟨rfl, rfl⟩) | go_in)
      exact bodyPost_ret (v := .tuple #[.agg #[.int .i64 0, .int .i64 0, .int .i64 s], .bool true]) (by simp [results, Try.results23, go_sem]) rfl ⟨rfl, rfl⟩
  · rcases Int.lt_trichotomy f s with he | he | he
    · rw [shF, shL, if_neg (by omega), if_neg (by omega)]
      have e1 : (l == 0) = false := by simpa using hl
      have e2 : (f == s) = false := by simp; omega
      have d2 : decide (s < f) = false := decide_eq_false (by omega)
      have e3 : f - s < 0 := by omega
      clear hl
      go_enter Try.func23, Try.ntmps23
      go_wp2_with (first | (go_at_call 15; refine (H2.out _).mono ?_; rintro e w1 ⟨rfl, rfl⟩) | go_in)
      exact bodyPost_ret (v := .tuple #[.agg #[.int .i64 f, .int .i64 l, .int .i64 s], .bool true]) (by simp [results, Try.results23, go_sem]) rfl ⟨rfl, rfl⟩
    · rw [shF, shL, if_pos (by omega), if_pos (by omega)]
      have e1 : (l == 0) = false := by simpa using hl
      have e2 : (f == s) = true := by simpa using he
      have e3 : f - s = 0 := by omega
      clear hl he
      go_enter Try.func23, Try.ntmps23
      go_wp2_with (first | (go_at_call 15; refine (H2.out _).mono ?_; rintro e w1 ⟨rfl, rfl⟩) | go_in)
      exact bodyPost_ret (v := .tuple #[.agg #[.int .i64 0, .int .i64 0, .int .i64 s], .bool true]) (by simp [results, Try.results23, go_sem]) rfl ⟨rfl, rfl⟩
    · rw [shF, shL, if_neg (by omega), if_neg (by omega)]
      have e1 : (l == 0) = false := by simpa using hl
      have e2 : (f == s) = false := by simp; omega
      have e3 : 0 < f - s := by omega
      clear hl
      go_enter Try.func23, Try.ntmps23
      go_wp2_with (first | (go_at_call 15; refine (H2.out _).mono ?_; rintro e w1 ⟨rfl, rfl⟩) | go_in)
      exact bodyPost_ret (v := .tuple #[.agg #[.int .i64 f, .int .i64 l, .int .i64 s], .bool true]) (by simp [results, Try.results23, go_sem]) rfl ⟨rfl, rfl⟩
set_option maxHeartbeats 1000000 in
theorem specShortCurve_no (f l s : Int) (w : World) (h : crvB f l s = false) : Calls Try.prog 22 #[.agg #[.int .i64 f, .int .i64 l, .int .i64 s]] w fun e w' => e = .returned (.tuple #[.agg #[.int .i64 0, .int .i64 0, .int .i64 0], .bool false]) ∧ (((w.alloc (.cells #[.int .i64 f, .int .i64 l, .int .i64 s] 25)).alloc (.cells #[.int .i64 0, .int .i64 0, .int .i64 0] 25)).alloc (.cells #[.int .i64 f, .int .i64 l, .int .i64 s] 25)) = w' := by
  have H2 : Hid (∀ W, _) := fun W => cuGood_any f l s W
  rw [h] at H2
  clear h
  go_enter Try.func22, Try.ntmps22
  go_wp2_with (first | (go_at_call 38; refine (H2.out _).mono ?_; rintro e w1 ⟨rfl, rfl⟩) | go_in)
  exact bodyPost_ret (v := .tuple #[.agg #[.int .i64 0, .int .i64 0, .int .i64 0], .bool false]) (by simp [results, Try.results22, go_sem]) rfl ⟨rfl, rfl⟩
set_option maxHeartbeats 1000000 in
theorem specShortCurve_yes (f l s : Int) (w : World) (h : crvB f l s = true) : Calls Try.prog 22 #[.agg #[.int .i64 f, .int .i64 l, .int .i64 s]] w fun e w' => e = .returned (.tuple #[.agg #[.int .i64 (shF f l s), .int .i64 (shL f l s), .int .i64 s], .bool true]) ∧ ((((((w.alloc (.cells #[.int .i64 f, .int .i64 l, .int .i64 s] 25)).alloc (.cells #[.int .i64 (shF f l s), .int .i64 (shL f l s), .int .i64 s] 25)).alloc (.cells #[.int .i64 f, .int .i64 l, .int .i64 s] 25)).alloc (.cells #[.int .i64 f, .int .i64 l, .int .i64 s] 25)).alloc (.cells #[.int .i64 (shF f l s), .int .i64 (shL f l s), .int .i64 s] 25)).alloc (.cells #[.int .i64 f, .int .i64 l, .int .i64 s] 25)) = w' := by
  have H2 : Hid (∀ W, _) := fun W => cuGood_any f l s W
  rw [h] at H2
  obtain ⟨⟨h1, h2⟩, ⟨h3, h4⟩, h5, h6⟩ := crvB_iff.1 h
  have H3 : Hid (∀ W, _) := fun W => cuShort_any f l s W (by omega) (by omega)
  clear h
  generalize shF f l s = a at H3 ⊢
  generalize shL f l s = b at H3 ⊢
  go_enter Try.func22, Try.ntmps22
  go_wp2_with (first | (go_at_call 38; refine (H2.out _).mono ?_; rintro e w1 ⟨rfl, rfl⟩) | (go_at_call 49; refine (H3.out _).mono ?_; rintro e w1 ⟨rfl, rfl⟩))
  exact bodyPost_ret (v := .tuple #[.agg #[.int .i64 a, .int .i64 b, .int .i64 s], .bool true]) (by simp [results, Try.results22, go_sem]) rfl ⟨rfl, rfl⟩
theorem eqCurve_same (f l s : Int) (w : World) : Calls Try.prog 24 #[.agg #[.int .i64 f, .int .i64 l, .int .i64 s], .agg #[.int .i64 f, .int .i64 l, .int .i64 s]] w fun e w' => e = .returned (.bool true) ∧ ((w.alloc (.cells #[.int .i64 f, .int .i64 l, .int .i64 s] 25)).alloc (.cells #[.int .i64 f, .int .i64 l, .int .i64 s] 25)) = w' := by
  go_enter Try.func24, Try.ntmps24
  go_wp2
  go_ret
  exact ⟨rfl, rfl⟩
set_option maxHeartbeats 2000000 in
theorem fnExactShortCurve_walk (f : Int) (_ : -9223372036854775808 ≤ f) (_ : f ≤ 9223372036854775807) (l : Int) (_ : -9223372036854775808 ≤ l) (_ : l ≤ 9223372036854775807) (s : Int) (_ : -9223372036854775808 ≤ s) (_ : s ≤ 9223372036854775807) (w : World) :
    Calls Try.prog 7 #[.agg #[.int .i64 f, .int .i64 l, .int .i64 s]] w fun e w' => e = .returned (.bool true) ∧ Below w.heap.size w w' := by
  have H0 : Hid (∀ W, _) := fun W => toCurve_any f l s W
  by_cases h : crvB f l s = true
  · have H1 : Hid (∀ W, _) := fun W => specShortCurve_yes f l s W h
    have H2 : Hid (∀ W, _) := fun W => implShortCurve_yes f l s W h
    clear h
    generalize shF f l s = a at H1 H2
    generalize shL f l s = b at H1 H2
    go_enter Try.func7, Try.ntmps7
    go_wp2_with fail
    refine (H0.out _).mono ?_
    rintro e w1 ⟨rfl, rfl⟩
    go_wp2_with fail
    refine (H1.out _).mono ?_
    rintro e w1 ⟨rfl, rfl⟩
    go_wp2_with fail
    refine (H0.out _).mono ?_
    rintro e w1 ⟨rfl, rfl⟩
    go_wp2_with fail
    refine (H2.out _).mono ?_
    rintro e w1 ⟨rfl, rfl⟩
    go_wp2_with fail
    refine (eqCurve_same _ _ _ _).mono ?_
    rintro e w1 ⟨rfl, rfl⟩
    go_wp2
    go_ret
    exact ⟨rfl, by (repeat refine belAlloc ?_ _); exact Below.refl _ _⟩
  · have h' : crvB f l s = false := by simpa using h
    have H1 : Hid (∀ W, _) := fun W => specShortCurve_no f l s W h'
    have H2 : Hid (∀ W, _) := fun W => implShortCurve_no f l s W h'
    clear h h'
    go_enter Try.func7, Try.ntmps7
    go_wp2_with fail
    refine (H0.out _).mono ?_
    rintro e w1 ⟨rfl, rfl⟩
    go_wp2_with fail
    refine (H1.out _).mono ?_
    rintro e w1 ⟨rfl, rfl⟩
    go_wp2_with fail
    refine (H0.out _).mono ?_
    rintro e w1 ⟨rfl, rfl⟩
    go_wp2_with fail
    refine (H2.out _).mono ?_
    rintro e w1 ⟨rfl, rfl⟩
    go_wp2_with fail
    refine (eqCurve_same _ _ _ _).mono ?_
    rintro e w1 ⟨rfl, rfl⟩
    go_wp2
    go_ret
    exact ⟨rfl, by (repeat refine belAlloc ?_ _); exact Below.refl _ _⟩
end Go.Proofs.Ytnfkepngjbjeoaa
