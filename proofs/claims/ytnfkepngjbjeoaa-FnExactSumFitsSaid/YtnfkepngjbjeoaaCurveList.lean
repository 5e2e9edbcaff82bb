/-
  Lists of curves: the test of a list, the program's and the reference's, walked once each; the sum of the values.
-/
import Derived.Test.YtnfkepngjbjeoaaCurveS
import Derived.Test.YtnfkepngjbjeoaaCurveAtWalk
import Derived.Test.YtnfkepngjbjeoaaAll
namespace Go.Proofs.Ytnfkepngjbjeoaa
open Go.RowKit
/-- Whether a list of curves is valid. -/
def crvsB (f : Nat → Nat → Int) (n : Nat) : Bool := allV (fun i => crvB (f i 0) (f i 1) (f i 2)) n && decide (n ≤ 12)
theorem crvsB_at {f : Nat → Nat → Int} {n : Nat} (h : crvsB f n = true) : n ≤ 12 ∧ ∀ i, i < n → crvB (f i 0) (f i 1) (f i 2) = true := by
  simp only [crvsB, Bool.and_eq_true, decide_eq_true_eq] at h
  exact ⟨h.2, fun i hi => allV_at h.1 i hi⟩
set_option maxHeartbeats 1000000 in
theorem areCurves_any (g c n : Nat) (f : Nat → Nat → Int) (w : World) (hn : n ≤ 1048576) (hown : OwnCurveS w g n f) :
    Calls Try.prog 52 #[.slice (some ⟨g, 0, none⟩) n c] w fun e w' => e = .returned (.bool (crvsB f n)) ∧ Below w.heap.size w w' := by
  have HC := Lib.hid hown
  clear hown
  go_enter Try.func52, Try.ntmps52
  go_wp2
  go_loopw [4, 7] (fun _ i wr => ∃ k : Nat, k ≤ n ∧ i = .int .i64 k ∧ allV (fun i => crvB (f i 0) (f i 1) (f i 2)) k = true ∧ Below w.heap.size w wr) (fun _ i _ => n - (intOf i).toNat)
  case atStart => exact ⟨0, Nat.zero_le _, rfl, rfl, Below.refl _ _⟩
  case round =>
    obtain ⟨k, hk, rfl, hal, hb⟩ := hrel
    have HA := Lib.hid hal
    have HB := Lib.hid hb
    clear hal hb
    by_cases hlt : k < n
    · obtain ⟨hw0, hw1, hw2⟩ := (HC.out.later HB.out).at_ hlt
      have hG : Hid (∀ W, _) := fun W => isCurve_bel (f k 0) (f k 1) (f k 2) W
      have hgl : g < wr.heap.size := Nat.lt_of_lt_of_le HC.out.1 HB.out.size
      by_cases hin : crvB (f k 0) (f k 1) (f k 2) = true
      · rw [hin] at hG
        have HIN := Lib.hid hin
        clear hin
        go_wp2_with fail
        refine (hG.out _).mono ?_
        rintro e w1 ⟨rfl, hb1⟩
        have HB1 : Hid (Below w.heap.size w w1) := belNext (belAlloc HB.out _) hb1
        clear hb1
        go_wp2_with fail
        go_roundw
        case rel => exact ⟨k + 1, by omega, by go_num, by rw [allV, HA.out, HIN.out]; rfl, HB1.out⟩
        case measure => simp [intOf]; omega
      · have hin' : crvB (f k 0) (f k 1) (f k 2) = false := by simpa using hin
        rw [hin'] at hG
        have HN : Hid (crvsB f n = false) := by
          show crvsB f n = false
          rw [crvsB, allV_no (p := fun i => crvB (f i 0) (f i 1) (f i 2)) (k := k) hin' hlt, Bool.false_and]
        clear hin hin'
        go_wp2_with fail
        refine (hG.out _).mono ?_
        rintro e w1 ⟨rfl, hb1⟩
        have HB1 : Hid (Below w.heap.size w w1) := belNext (belAlloc HB.out _) hb1
        clear hb1
        go_wp2_with fail
        go_ret
        exact ⟨by rw [HN.out]; rfl, HB1.out⟩
    · have HK := Lib.hid (show n = k by omega)
      by_cases h12 : n ≤ 12
      · have hd : decide ((n : Int) ≤ 12) = true := decide_eq_true (by omega)
        have H12 := Lib.hid h12
        go_wp2
        go_ret
        obtain rfl := HK.out
        exact ⟨by rw [crvsB, HA.out, decide_eq_true H12.out]; rfl, HB.out⟩
      · have hd : decide ((n : Int) ≤ 12) = false := decide_eq_false (by omega)
        have H12 := Lib.hid h12
        go_wp2
        go_ret
        obtain rfl := HK.out
        exact ⟨by rw [crvsB, decide_eq_false H12.out, Bool.and_false]; rfl, HB.out⟩
set_option maxHeartbeats 1000000 in
theorem cuList_any (g c n : Nat) (f : Nat → Nat → Int) (w : World) (hn : n ≤ 1048576) (hown : OwnCurveS w g n f) :
    Calls Try.prog 50 #[.slice (some ⟨g, 0, none⟩) n c] w fun e w' => e = .returned (.bool (crvsB f n)) ∧ Below w.heap.size w w' := by
  have HC := Lib.hid hown
  clear hown
  go_enter Try.func50, Try.ntmps50
  go_wp2
  go_loopw [4, 7] (fun _ i wr => ∃ k : Nat, k ≤ n ∧ i = .int .i64 k ∧ allV (fun i => crvB (f i 0) (f i 1) (f i 2)) k = true ∧ Below w.heap.size w wr) (fun _ i _ => n - (intOf i).toNat)
  case atStart => exact ⟨0, Nat.zero_le _, rfl, rfl, Below.refl _ _⟩
  case round =>
    obtain ⟨k, hk, rfl, hal, hb⟩ := hrel
    have HA := Lib.hid hal
    have HB := Lib.hid hb
    clear hal hb
    by_cases hlt : k < n
    · obtain ⟨hw0, hw1, hw2⟩ := (HC.out.later HB.out).at_ hlt
      have hG : Hid (∀ W, _) := fun W => cuGood_bel (f k 0) (f k 1) (f k 2) W
      have hgl : g < wr.heap.size := Nat.lt_of_lt_of_le HC.out.1 HB.out.size
      by_cases hin : crvB (f k 0) (f k 1) (f k 2) = true
      · rw [hin] at hG
        have HIN := Lib.hid hin
        clear hin
        go_wp2_with fail
        refine (hG.out _).mono ?_
        rintro e w1 ⟨rfl, hb1⟩
        have HB1 : Hid (Below w.heap.size w w1) := belNext (belAlloc HB.out _) hb1
        clear hb1
        go_wp2_with fail
        go_roundw
        case rel => exact ⟨k + 1, by omega, by go_num, by rw [allV, HA.out, HIN.out]; rfl, HB1.out⟩
        case measure => simp [intOf]; omega
      · have hin' : crvB (f k 0) (f k 1) (f k 2) = false := by simpa using hin
        rw [hin'] at hG
        have HN : Hid (crvsB f n = false) := by
          show crvsB f n = false
          rw [crvsB, allV_no (p := fun i => crvB (f i 0) (f i 1) (f i 2)) (k := k) hin' hlt, Bool.false_and]
        clear hin hin'
        go_wp2_with fail
        refine (hG.out _).mono ?_
        rintro e w1 ⟨rfl, hb1⟩
        have HB1 : Hid (Below w.heap.size w w1) := belNext (belAlloc HB.out _) hb1
        clear hb1
        go_wp2_with fail
        go_ret
        exact ⟨by rw [HN.out]; rfl, HB1.out⟩
    · have HK := Lib.hid (show n = k by omega)
      by_cases h12 : n ≤ 12
      · have hd : decide ((n : Int) ≤ 12) = true := decide_eq_true (by omega)
        have H12 := Lib.hid h12
        go_wp2
        go_ret
        obtain rfl := HK.out
        exact ⟨by rw [crvsB, HA.out, decide_eq_true H12.out]; rfl, HB.out⟩
      · have hd : decide ((n : Int) ≤ 12) = false := decide_eq_false (by omega)
        have H12 := Lib.hid h12
        go_wp2
        go_ret
        obtain rfl := HK.out
        exact ⟨by rw [crvsB, decide_eq_false H12.out, Bool.and_false]; rfl, HB.out⟩
/-- The sum of the first k values at a time. -/
def sumC (f : Nat → Nat → Int) (t : Int) : Nat → Int
  | 0 => 0
  | k + 1 => sumC f t k + cAt (f k 0) (f k 1) (f k 2) t
theorem sumC_bd {f : Nat → Nat → Int} {t : Int} (t0 : 0 ≤ t) (t1 : t ≤ 100000) : ∀ {n : Nat}, (∀ i, i < n → crvB (f i 0) (f i 1) (f i 2) = true) → 0 ≤ sumC f t n ∧ sumC f t n ≤ 20000000000 * n
  | 0, _ => by simp [sumC]
  | n + 1, h => by
    have h1 := sumC_bd t0 t1 (n := n) fun i hi => h i (by omega)
    have h2 := cAt_bd (h n (by omega)) t0 t1
    simp only [sumC]; omega
set_option maxHeartbeats 1000000 in
theorem sumAt_any (g c n : Nat) (f : Nat → Nat → Int) (t : Int) (w : World) (hn : n ≤ 12) (hall : ∀ i, i < n → crvB (f i 0) (f i 1) (f i 2) = true) (t0 : 0 ≤ t) (t1 : t ≤ 100000) (hown : OwnCurveS w g n f) :
    Calls Try.prog 53 #[.slice (some ⟨g, 0, none⟩) n c, .int .i64 t] w fun e w' => e = .returned (.int .i64 (sumC f t n)) ∧ Below w.heap.size w w' := by
  have HC := Lib.hid hown
  have HA := Lib.hid hall
  clear hown hall
  go_enter Try.func53, Try.ntmps53
  go_wp2
  go_loopw [5, 7, 10] (fun x _ i wr => ∃ k : Nat, k ≤ n ∧ x = .int .i64 (sumC f t k) ∧ i = .int .i64 k ∧ Below w.heap.size w wr) (fun _ _ i _ => n - (intOf i).toNat)
  case atStart => exact ⟨0, Nat.zero_le _, rfl, rfl, Below.refl _ _⟩
  case round =>
    obtain ⟨k, hk, rfl, rfl, hb⟩ := hrel
    have HB := Lib.hid hb
    clear hb
    obtain ⟨sl, sh⟩ := sumC_bd t0 t1 (n := k) (fun i hi => HA.out i (by omega))
    by_cases hlt : k < n
    · obtain ⟨hw0, hw1, hw2⟩ := (HC.out.later HB.out).at_ hlt
      have hG : Hid (∀ W, _) := fun W => curveAt_bel (f k 0) (f k 1) (f k 2) t W (HA.out k hlt) t0 t1
      have hgl : g < wr.heap.size := Nat.lt_of_lt_of_le HC.out.1 HB.out.size
      obtain ⟨cl, ch⟩ := cAt_bd (HA.out k hlt) t0 t1
      go_wp2_with fail
      refine (hG.out _).mono ?_
      rintro e w1 ⟨rfl, hb1⟩
      have HB1 : Hid (Below w.heap.size w w1) := belNext (belAlloc HB.out _) hb1
      clear hb1
      go_wp2_with fail
      go_roundw
      case rel => exact ⟨k + 1, by omega, rfl, by go_num, HB1.out⟩
      case measure => simp [intOf]; omega
    · have HK := Lib.hid (show n = k by omega)
      go_wp2
      go_ret
      obtain rfl := HK.out
      exact ⟨rfl, HB.out⟩
set_option maxHeartbeats 1000000 in
theorem cuSum_any (g c n : Nat) (f : Nat → Nat → Int) (t : Int) (w : World) (hn : n ≤ 12) (hall : ∀ i, i < n → crvB (f i 0) (f i 1) (f i 2) = true) (t0 : 0 ≤ t) (t1 : t ≤ 100000) (hown : OwnCurveS w g n f) :
    Calls Try.prog 51 #[.slice (some ⟨g, 0, none⟩) n c, .int .i64 t] w fun e w' => e = .returned (.int .i64 (sumC f t n)) ∧ Below w.heap.size w w' := by
  have HC := Lib.hid hown
  have HA := Lib.hid hall
  clear hown hall
  go_enter Try.func51, Try.ntmps51
  go_wp2
  go_loopw [5, 7, 10] (fun x _ i wr => ∃ k : Nat, k ≤ n ∧ x = .int .i64 (sumC f t k) ∧ i = .int .i64 k ∧ Below w.heap.size w wr) (fun _ _ i _ => n - (intOf i).toNat)
  case atStart => exact ⟨0, Nat.zero_le _, rfl, rfl, Below.refl _ _⟩
  case round =>
    obtain ⟨k, hk, rfl, rfl, hb⟩ := hrel
    have HB := Lib.hid hb
    clear hb
    obtain ⟨sl, sh⟩ := sumC_bd t0 t1 (n := k) (fun i hi => HA.out i (by omega))
    by_cases hlt : k < n
    · obtain ⟨hw0, hw1, hw2⟩ := (HC.out.later HB.out).at_ hlt
      have hG : Hid (∀ W, _) := fun W => cuAt_bel (f k 0) (f k 1) (f k 2) t W (HA.out k hlt) t0 t1
      have hgl : g < wr.heap.size := Nat.lt_of_lt_of_le HC.out.1 HB.out.size
      obtain ⟨cl, ch⟩ := cAt_bd (HA.out k hlt) t0 t1
      go_wp2_with fail
      refine (hG.out _).mono ?_
      rintro e w1 ⟨rfl, hb1⟩
      have HB1 : Hid (Below w.heap.size w w1) := belNext (belAlloc HB.out _) hb1
      clear hb1
      go_wp2_with fail
      go_roundw
      case rel => exact ⟨k + 1, by omega, rfl, by go_num, HB1.out⟩
      case measure => simp [intOf]; omega
    · have HK := Lib.hid (show n = k by omega)
      go_wp2
      go_ret
      obtain rfl := HK.out
      exact ⟨rfl, HB.out⟩
end Go.Proofs.Ytnfkepngjbjeoaa
