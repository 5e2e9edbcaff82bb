/-
  LeastTime, the program's and the reference's: both return the first time at which the value is at least y; the walk of FnExactLeastTime.
-/
import Derived.Test.YtnfkepngjbjeoaaFirstTime
import Derived.Test.YtnfkepngjbjeoaaCurveBel
namespace Go.Proofs.Ytnfkepngjbjeoaa
open Go.RowKit
/-- L is the first time in 0 .. 100000 at which the curve is at least y. -/
def LeastY (f l s y L : Int) : Prop := 0 ≤ L ∧ L ≤ 100000 ∧ ∀ t, 0 ≤ t → t ≤ 100000 → geB y (cAt f l s t) = geB L t
theorem leastY_ex {f l s y : Int} (h : crvB f l s = true) (hy : y ≤ cAt f l s 100000) : ∃ L, LeastY f l s y L := by
  obtain ⟨L, ⟨h0, h1, h2⟩, h3⟩ := least_ex (p := fun t => geB y (cAt f l s t)) (low := 0) 100000 (decide_eq_true hy)
  refine ⟨L, h0, by omega, fun t t0 t1 => ?_⟩
  by_cases ht : L ≤ t
  · have a : y ≤ cAt f l s L := of_decide_eq_true h1
    have b := cAt_mono h ht
    rw [geB, geB, decide_eq_true (show y ≤ cAt f l s t by omega), decide_eq_true ht]
  · rw [show geB y (cAt f l s t) = false from h2 t t0 (by omega)]
    exact (decide_eq_false ht).symm
theorem cuAt_100000 {f l s : Int} : ∀ W : World, crvB f l s = true → Calls Try.prog 40 #[.agg #[.int .i64 f, .int .i64 l, .int .i64 s], .int .i64 100000] W fun e w' => e = .returned (.int .i64 (cAt f l s 100000)) ∧ Below W.heap.size W w' := fun W h => cuAt_bel f l s 100000 W h (by omega) (by omega)
set_option maxHeartbeats 1000000 in
theorem cuLeast_no (f l s y : Int) (w : World) (h : crvB f l s = true) (hy : cAt f l s 100000 < y) :
    Calls Try.prog 46 #[.agg #[.int .i64 f, .int .i64 l, .int .i64 s], .int .i64 y] w fun e w' => e = .returned (.int .i64 (-1)) ∧ Below w.heap.size w w' := by
  have H := Lib.hid (fun W => cuAt_100000 W h)
  clear h
  go_enter Try.func46, Try.ntmps46
  go_wp2_with fail
  refine (H.out _).mono ?_
  rintro e w1 ⟨rfl, hb1⟩
  have HB := Lib.hid (belNext (belAlloc (Below.refl _ w) _) hb1)
  clear hb1
  go_wp2_with fail
  go_ret
  exact ⟨rfl, HB.out⟩
set_option maxHeartbeats 2000000 in
theorem cuLeast_yes (f l s y L : Int) (w : World) (h : crvB f l s = true) (hy : y ≤ cAt f l s 100000) (hL : LeastY f l s y L) :
    Calls Try.prog 46 #[.agg #[.int .i64 f, .int .i64 l, .int .i64 s], .int .i64 y] w fun e w' => e = .returned (.int .i64 L) ∧ Below w.heap.size w w' := by
  have H := Lib.hid (fun W => cuAt_100000 W h)
  have HA := Lib.hid h
  have HL := Lib.hid hL
  obtain ⟨hL0, hL1, _⟩ := hL
  have hC : ∀ w1 : World, Below (w.alloc (.cells #[.int .i64 f, .int .i64 l, .int .i64 s] 25)).heap.size (w.alloc (.cells #[.int .i64 f, .int .i64 l, .int .i64 s] 25)) w1 → IsCrv w1 w.heap.size f l s := fun w1 hb =>
    IsCrv.later ⟨by simp, by simp [go_sem], by simp [go_sem], by simp [go_sem]⟩ hb
  have HC := Lib.hid hC
  clear h hC
  go_enter Try.func46, Try.ntmps46
  go_wp2_with fail
  refine (H.out _).mono ?_
  rintro e w1 ⟨rfl, hb1⟩
  have HC1 := Lib.hid (HC.out _ hb1)
  have HB := Lib.hid (belNext (belAlloc (Below.refl _ w) _) hb1)
  clear hb1 HC
  go_wp2_with fail
  go_loopw [5, 6] (fun a b wr => ∃ lo hi : Int, 0 ≤ lo ∧ lo ≤ L ∧ L ≤ hi ∧ hi ≤ 100000 ∧ a = .int .i64 lo ∧ b = .int .i64 hi ∧ Below w1.heap.size w1 wr) (fun a b _ => (intOf b - intOf a).toNat)
  case atStart => exact ⟨0, 100000, by omega, by omega, by omega, by omega, rfl, rfl, Below.refl _ _⟩
  case round =>
    obtain ⟨lo, hi, g1, g2, g3, g4, rfl, rfl, hb⟩ := hrel
    obtain ⟨k0, k1, k2, k3⟩ := HC1.out.later hb
    have HB1 := Lib.hid hb
    clear hb
    by_cases hlt : lo < hi
    · have hc := fun W => cuAt_bel f l s ((lo + hi) / 2) W HA.out (by omega) (by omega)
      have HE := Lib.hid (HL.out.2.2 ((lo + hi) / 2) (by omega) (by omega))
      have HQ := Lib.hid hc
      clear hc
      by_cases hm : L ≤ (lo + hi) / 2
      · have hd : decide (cAt f l s ((lo + hi) / 2) < y) = false := by
          have := HE.out.trans (decide_eq_true hm)
          have := of_decide_eq_true this
          exact decide_eq_false (by omega)
        go_wp2_with fail
        refine (HQ.out _).mono ?_
        rintro e w2 ⟨rfl, hb1⟩
        have HB2 := Lib.hid (belNext HB1.out hb1)
        clear hb1
        go_wp2_with fail
        go_roundw
        case rel => exact ⟨lo, (lo + hi) / 2, by omega, by omega, by omega, by omega, rfl, rfl, HB2.out⟩
        case measure => simp [intOf]; omega
      · have hd : cAt f l s ((lo + hi) / 2) < y := by
          have := HE.out.trans (decide_eq_false hm)
          have := of_decide_eq_false this
          omega
        go_wp2_with fail
        refine (HQ.out _).mono ?_
        rintro e w2 ⟨rfl, hb1⟩
        have HB2 := Lib.hid (belNext HB1.out hb1)
        clear hb1
        go_wp2_with fail
        go_roundw
        case rel => exact ⟨(lo + hi) / 2 + 1, hi, by omega, by omega, by omega, by omega, rfl, rfl, HB2.out⟩
        case measure => simp [intOf]; omega
    · obtain rfl : lo = L := by omega
      go_wp2_with fail
      go_ret
      exact ⟨rfl, belNext HB.out HB1.out⟩
set_option maxHeartbeats 1000000 in
theorem specLeastTime_no (f l s y : Int) (w : World) (h : crvB f l s = false ∨ (crvB f l s = true ∧ (y < 0 ∨ 20000000000 < y)) ∨ (crvB f l s = true ∧ 0 ≤ y ∧ y ≤ 20000000000 ∧ cAt f l s 100000 < y)) :
    Calls Try.prog 20 #[.agg #[.int .i64 f, .int .i64 l, .int .i64 s], .int .i64 y] w fun e w' => e = .returned (.tuple #[.int .i64 0, .bool false]) ∧ Below w.heap.size w w' := by
  have HG : Hid (∀ W, _) := fun W => cuGood_any f l s W
  rcases h with h | ⟨h, h1⟩ | ⟨h, h1, h2, h3⟩
  · rw [h] at HG
    clear h
    go_enter Try.func20, Try.ntmps20
    go_wp2_with (go_at_call 38; refine (HG.out _).mono ?_; rintro e w1 ⟨rfl, rfl⟩)
    go_ret2
    exact ⟨rfl, by (repeat refine belAlloc ?_ _); exact Below.refl _ _⟩
  · rw [h] at HG
    clear h
    go_enter Try.func20, Try.ntmps20
    go_wp2_with (first | (go_at_call 38; refine (HG.out _).mono ?_; rintro e w1 ⟨rfl, rfl⟩) | (go_at_call 45; refine (l1In_no _ _ _ _ h1).mono ?_; rintro e w1 ⟨rfl, rfl⟩))
    go_ret2
    exact ⟨rfl, by (repeat refine belAlloc ?_ _); exact Below.refl _ _⟩
  · rw [h] at HG
    have HN := Lib.hid (fun W => cuLeast_no f l s y W h h3)
    clear h
    go_enter Try.func20, Try.ntmps20
    go_wp2_with (first | (go_at_call 38; refine (HG.out _).mono ?_; rintro e w1 ⟨rfl, rfl⟩) | (go_at_call 45; refine (l1In_yes _ _ _ _ h1 h2).mono ?_; rintro e w1 ⟨rfl, rfl⟩))
    refine (HN.out _).mono ?_
    rintro e w1 ⟨rfl, hb1⟩
    have HB := Lib.hid (belNext (belAlloc (belAlloc (Below.refl _ w) _) _) hb1)
    clear hb1
    go_wp2_with fail
    go_ret2
    exact ⟨rfl, HB.out⟩
set_option maxHeartbeats 1000000 in
theorem specLeastTime_yes (f l s y L : Int) (w : World) (h : crvB f l s = true) (h1 : 0 ≤ y) (h2 : y ≤ 20000000000) (h3 : y ≤ cAt f l s 100000) (hL : LeastY f l s y L) :
    Calls Try.prog 20 #[.agg #[.int .i64 f, .int .i64 l, .int .i64 s], .int .i64 y] w fun e w' => e = .returned (.tuple #[.int .i64 L, .bool true]) ∧ Below w.heap.size w w' := by
  have HG : Hid (∀ W, _) := fun W => cuGood_any f l s W
  rw [h] at HG
  have HN := Lib.hid (fun W => cuLeast_yes f l s y L W h h3 hL)
  have hL0 := hL.1
  have HC : Hid (∀ w1 : World, Below ((w.alloc (.cells #[.int .i64 f, .int .i64 l, .int .i64 s] 25)).alloc (.cells #[.int .i64 f, .int .i64 l, .int .i64 s] 25)).heap.size ((w.alloc (.cells #[.int .i64 f, .int .i64 l, .int .i64 s] 25)).alloc (.cells #[.int .i64 f, .int .i64 l, .int .i64 s] 25)) w1 → IsCrv w1 w.heap.size f l s) := fun w1 hb =>
    IsCrv.later ⟨by simp; omega, by simp [go_sem], by simp [go_sem], by simp [go_sem]⟩ hb
  clear h hL
  go_enter Try.func20, Try.ntmps20
  go_wp2_with (first | (go_at_call 38; refine (HG.out _).mono ?_; rintro e w1 ⟨rfl, rfl⟩) | (go_at_call 45; refine (l1In_yes _ _ _ _ h1 h2).mono ?_; rintro e w1 ⟨rfl, rfl⟩))
  refine (HN.out _).mono ?_
  rintro e w1 ⟨rfl, hb1⟩
  obtain ⟨k0, k1, k2, k3⟩ := HC.out _ hb1
  have HB := Lib.hid (belNext (belAlloc (belAlloc (Below.refl _ w) _) _) hb1)
  clear hb1
  go_wp2_with fail
  refine (HN.out _).mono ?_
  rintro e w2 ⟨rfl, hb1⟩
  have HB2 := Lib.hid (belNext HB.out hb1)
  clear hb1
  go_wp2_with fail
  go_ret2
  exact ⟨rfl, HB2.out⟩
set_option maxHeartbeats 4000000 in
theorem implLeastTime_no (f l s y : Int) (w : World) (h : crvB f l s = false ∨ (crvB f l s = true ∧ y < 0) ∨ (crvB f l s = true ∧ 0 ≤ y ∧ 20000000000 < y) ∨ (crvB f l s = true ∧ 0 ≤ y ∧ y ≤ 20000000000 ∧ cAt f l s 100000 < y)) :
    Calls Try.prog 21 #[.agg #[.int .i64 f, .int .i64 l, .int .i64 s], .int .i64 y] w fun e w' => e = .returned (.tuple #[.int .i64 0, .bool false]) ∧ Below w.heap.size w w' := by
  have HG : Hid (∀ W, _) := fun W => isCurve_any f l s W
  rcases h with h | ⟨h, h1⟩ | ⟨h, h1, h2⟩ | ⟨h, h1, h2, h3⟩
  · rw [h] at HG
    clear h
    go_enter Try.func21, Try.ntmps21
    go_wp2_with fail
    go_region_with ((go_at_call 15; refine (HG.out _).mono ?_; rintro e w1 ⟨rfl, rfl⟩))
    all_goals
      go_wp2_with fail
      go_ret2
      exact ⟨rfl, by repeat (first | exact Below.refl _ _ | assumption | refine Below.alloc ?_ (by simp; try omega) _ | refine Below.setCell ?_ (by simp; try omega) _ | refine Below.drew ?_)⟩
  · rw [h] at HG
    clear h
    have d1 : decide (y < 0) = true := decide_eq_true h1
    go_enter Try.func21, Try.ntmps21
    go_wp2_with fail
    go_region_with ((go_at_call 15; refine (HG.out _).mono ?_; rintro e w1 ⟨rfl, rfl⟩))
    all_goals
      go_wp2_with fail
      go_ret2
      exact ⟨rfl, by repeat (first | exact Below.refl _ _ | assumption | refine Below.alloc ?_ (by simp; try omega) _ | refine Below.setCell ?_ (by simp; try omega) _ | refine Below.drew ?_)⟩
  · rw [h] at HG
    clear h
    have d1 : decide (y < 0) = false := decide_eq_false (by omega)
    have d2 : decide (20000000000 < y) = true := decide_eq_true h2
    go_enter Try.func21, Try.ntmps21
    go_wp2_with fail
    go_region_with ((go_at_call 15; refine (HG.out _).mono ?_; rintro e w1 ⟨rfl, rfl⟩))
    all_goals
      go_wp2_with fail
      go_ret2
      exact ⟨rfl, by repeat (first | exact Below.refl _ _ | assumption | refine Below.alloc ?_ (by simp; try omega) _ | refine Below.setCell ?_ (by simp; try omega) _ | refine Below.drew ?_)⟩
  · rw [h] at HG
    have HN := Lib.hid (fun W => curveAt_any f l s 100000 W h (by omega) (by omega))
    clear h
    have d1 : decide (y < 0) = false := decide_eq_false (by omega)
    have d2 : decide (20000000000 < y) = false := decide_eq_false (by omega)
    have d3 : decide (cAt f l s 100000 < y) = true := decide_eq_true h3
    go_enter Try.func21, Try.ntmps21
    go_wp2_with fail
    go_region_with ((first | (go_at_call 15; refine (HG.out _).mono ?_; rintro e w1 ⟨rfl, rfl⟩) | (go_at_call 42; refine (HN.out _).mono ?_; rintro e w1 ⟨rfl, rfl⟩)))
    all_goals
      go_wp2_with fail
      go_ret2
      exact ⟨rfl, by repeat (first | exact Below.refl _ _ | assumption | refine Below.alloc ?_ (by simp; try omega) _ | refine Below.setCell ?_ (by simp; try omega) _ | refine Below.drew ?_)⟩
set_option maxHeartbeats 4000000 in
theorem implLeastTime_yes (f l s y L : Int) (w : World) (h : crvB f l s = true) (h1 : 0 ≤ y) (h2 : y ≤ 20000000000) (h3 : y ≤ cAt f l s 100000) (hL : LeastY f l s y L) :
    Calls Try.prog 21 #[.agg #[.int .i64 f, .int .i64 l, .int .i64 s], .int .i64 y] w fun e w' => e = .returned (.tuple #[.int .i64 L, .bool true]) ∧ Below w.heap.size w w' := by
  have HG : Hid (∀ W, _) := fun W => isCurve_any f l s W
  rw [h] at HG
  have HN := Lib.hid (fun W => curveAt_any f l s 100000 W h (by omega) (by omega))
  have HX : Hid (∀ W : World, Below ((w.alloc (.cells #[.int .i64 f, .int .i64 l, .int .i64 s] 25)).alloc (.cells #[.int .i64 y] 3)).heap.size ((w.alloc (.cells #[.int .i64 f, .int .i64 l, .int .i64 s] 25)).alloc (.cells #[.int .i64 y] 3)) W →
      IsCrv W w.heap.size f l s ∧ w.heap.size + 1 < W.heap.size ∧ W.cell? ⟨w.heap.size + 1, 0, none⟩ = some (.int .i64 y)) := fun W hb =>
    ⟨IsCrv.later ⟨by simp; omega, by simp [go_sem], by simp [go_sem], by simp [go_sem]⟩ hb, by have := hb.size; simp at this; omega, (hb.cell (p := ⟨w.heap.size + 1, 0, none⟩) (by simp)).trans (by simp [go_sem])⟩
  have HA := Lib.hid h
  have HL := Lib.hid hL
  obtain ⟨hL0, hL1, _⟩ := hL
  clear h
  have d1 : decide (y < 0) = false := decide_eq_false (by omega)
  have d2 : decide (20000000000 < y) = false := decide_eq_false (by omega)
  have d3 : decide (cAt f l s 100000 < y) = false := decide_eq_false (by omega)
  go_enter Try.func21, Try.ntmps21
  go_wp2_with fail
  go_region_with ((first | (go_at_call 15; refine (HG.out _).mono ?_; rintro e w1 ⟨rfl, rfl⟩) | (go_at_call 42; refine (HN.out _).mono ?_; rintro e w1 ⟨rfl, rfl⟩)))
  all_goals
    go_wp2_with fail
    refine (firstTime_48 _ _ 0 100000 L _ (by omega) (by omega) hL0 hL1 ?hcl).mono ?_
    case hcl =>
      intro W t hb t0 t1
      obtain ⟨x1, x2, x3⟩ := HX.out W (belNext (by repeat (first | exact Below.refl _ _ | assumption | refine Below.alloc ?_ (by simp; try omega) _ | refine Below.setCell ?_ (by simp; try omega) _ | refine Below.drew ?_)) hb)
      rw [← HL.out.2.2 t t0 t1]
      exact least1_any f l s y t _ _ W HA.out t0 t1 x1 x2 x3
    rintro e w1 ⟨rfl, hb1⟩
    have HB := Lib.hid (belNext (w := w) (by repeat (first | exact Below.refl _ _ | assumption | refine Below.alloc ?_ (by simp; try omega) _ | refine Below.setCell ?_ (by simp; try omega) _ | refine Below.drew ?_)) hb1)
    clear hb1
    go_wp2_with fail
    go_ret2
    exact ⟨rfl, HB.out⟩
set_option maxHeartbeats 1000000 in
theorem fnExactLeastTime_walk (f : Int) (_ : -9223372036854775808 ≤ f) (_ : f ≤ 9223372036854775807) (l : Int) (_ : -9223372036854775808 ≤ l) (_ : l ≤ 9223372036854775807) (s : Int) (_ : -9223372036854775808 ≤ s) (_ : s ≤ 9223372036854775807) (y : Int) (_ : -9223372036854775808 ≤ y) (_ : y ≤ 9223372036854775807) (w : World) :
    Calls Try.prog 6 #[.agg #[.int .i64 f, .int .i64 l, .int .i64 s], .int .i64 y] w fun e w' => e = .returned (.bool true) ∧ Below w.heap.size w w' := by
  have HT := Lib.hid (fun W => toCurve_bel f l s W)
  have main : ∀ (v : Int) (b : Bool), (∀ W, Calls Try.prog 20 #[.agg #[.int .i64 f, .int .i64 l, .int .i64 s], .int .i64 y] W fun e w' => e = .returned (.tuple #[.int .i64 v, .bool b]) ∧ Below W.heap.size W w') →
      (∀ W, Calls Try.prog 21 #[.agg #[.int .i64 f, .int .i64 l, .int .i64 s], .int .i64 y] W fun e w' => e = .returned (.tuple #[.int .i64 v, .bool b]) ∧ Below W.heap.size W w') →
      Calls Try.prog 6 #[.agg #[.int .i64 f, .int .i64 l, .int .i64 s], .int .i64 y] w fun e w' => e = .returned (.bool true) ∧ Below w.heap.size w w' := by
    intro v b hS hI
    have HS := Lib.hid hS
    have HI := Lib.hid hI
    have HC : Hid (∀ w1 : World, Below (w.alloc (.cells #[.int .i64 f, .int .i64 l, .int .i64 s] 23)).heap.size (w.alloc (.cells #[.int .i64 f, .int .i64 l, .int .i64 s] 23)) w1 → IsCrv w1 w.heap.size f l s) := fun w1 hb =>
      IsCrv.later ⟨by simp, by simp [go_sem], by simp [go_sem], by simp [go_sem]⟩ hb
    clear hS hI
    go_enter Try.func6, Try.ntmps6
    go_wp2_with fail
    refine (HT.out _).mono ?_
    rintro e w1 ⟨rfl, hb1⟩
    have B1 := Lib.hid hb1
    clear hb1
    go_wp2_with fail
    refine (HS.out _).mono ?_
    rintro e w2 ⟨rfl, hb2⟩
    have B2 := Lib.hid (belNext B1.out hb2)
    obtain ⟨k0, k1, k2, k3⟩ := HC.out _ B2.out
    clear hb2
    go_wp2_with fail
    refine (HT.out _).mono ?_
    rintro e w3 ⟨rfl, hb3⟩
    have B3 := Lib.hid (belNext B2.out hb3)
    clear hb3
    go_wp2_with fail
    refine (HI.out _).mono ?_
    rintro e w4 ⟨rfl, hb4⟩
    have B4 := Lib.hid (belNext (belAlloc (Below.refl _ w) _) (belNext B3.out hb4))
    clear hb4
    go_wp2_with fail
    go_ret
    exact ⟨rfl, B4.out⟩
  by_cases h : crvB f l s = true
  · rcases (show y < 0 ∨ (0 ≤ y ∧ 20000000000 < y) ∨ (0 ≤ y ∧ y ≤ 20000000000 ∧ cAt f l s 100000 < y) ∨ (0 ≤ y ∧ y ≤ 20000000000 ∧ y ≤ cAt f l s 100000) by omega) with h1 | ⟨h1, h2⟩ | ⟨h1, h2, h3⟩ | ⟨h1, h2, h3⟩
    · exact main 0 false (fun W => specLeastTime_no f l s y W (.inr (.inl ⟨h, by omega⟩))) (fun W => implLeastTime_no f l s y W (.inr (.inl ⟨h, h1⟩)))
    · exact main 0 false (fun W => specLeastTime_no f l s y W (.inr (.inl ⟨h, by omega⟩))) (fun W => implLeastTime_no f l s y W (.inr (.inr (.inl ⟨h, h1, h2⟩))))
    · exact main 0 false (fun W => specLeastTime_no f l s y W (.inr (.inr ⟨h, h1, h2, h3⟩))) (fun W => implLeastTime_no f l s y W (.inr (.inr (.inr ⟨h, h1, h2, h3⟩))))
    · obtain ⟨L, hL⟩ := leastY_ex h h3
      exact main L true (fun W => specLeastTime_yes f l s y L W h h1 h2 h3 hL) (fun W => implLeastTime_yes f l s y L W h h1 h2 h3 hL)
  · have h' : crvB f l s = false := by simpa using h
    exact main 0 false (fun W => specLeastTime_no f l s y W (.inl h')) (fun W => implLeastTime_no f l s y W (.inl h'))
end Go.Proofs.Ytnfkepngjbjeoaa
