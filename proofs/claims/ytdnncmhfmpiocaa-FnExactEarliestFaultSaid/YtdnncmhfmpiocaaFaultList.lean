/-
  Lists of faults: the tests of one fault and of a list, the program's and the reference's, walked once each.
-/
import Derived.Test.YtdnncmhfmpiocaaFaultS
import Derived.Test.YtdnncmhfmpiocaaAll
namespace Go.Proofs.Ytdnncmhfmpiocaa
open Go.RowKit
def fltOk (k a : Int) : Bool := decide ((1 ≤ k ∧ k ≤ 7) ∧ 0 ≤ a ∧ a ≤ 6000)
theorem fltOk_iff {k a : Int} : fltOk k a = true ↔ (1 ≤ k ∧ k ≤ 7) ∧ 0 ≤ a ∧ a ≤ 6000 := by simp [fltOk]
theorem fltOk_no {k a : Int} (h : fltOk k a = false) : k < 1 ∨ (1 ≤ k ∧ 7 < k) ∨ (1 ≤ k ∧ k ≤ 7 ∧ a < 0) ∨ (1 ≤ k ∧ k ≤ 7 ∧ 0 ≤ a ∧ 6000 < a) := by
  have h' : ¬ ((1 ≤ k ∧ k ≤ 7) ∧ 0 ≤ a ∧ a ≤ 6000) := fun hh => by rw [fltOk_iff.2 hh] at h; cases h
  omega
theorem erGood_any (k a : Int) (w : World) : Calls Try.prog 28 #[.agg #[.int .i64 k, .int .i64 a]] w fun e w' => e = .returned (.bool (fltOk k a)) ∧ Below w.heap.size w w' := by
  by_cases h : fltOk k a = true
  · rw [h]
    obtain ⟨⟨h1, h2⟩, h3, h4⟩ := fltOk_iff.1 h
    clear h
    go_enter Try.func28, Try.ntmps28
    go_wp2_with (first | (go_at_call 32; refine (l1In_yes _ _ _ _ (by omega) (by omega)).mono ?_; rintro e w1 ⟨rfl, rfl⟩) | (go_at_call 32; refine (l1In_no _ _ _ _ (by omega)).mono ?_; rintro e w1 ⟨rfl, rfl⟩))
    go_ret
    exact ⟨rfl, by (repeat refine belAlloc ?_ _); exact Below.refl _ _⟩
  · have h' : fltOk k a = false := by simpa using h
    rw [h']
    have hc := fltOk_no h'
    clear h h'
    rcases hc with h | ⟨h1, h⟩ | ⟨h1, h2, h⟩ | ⟨h1, h2, h3, h⟩
    all_goals
      go_enter Try.func28, Try.ntmps28
      go_wp2_with (first | (go_at_call 32; refine (l1In_yes _ _ _ _ (by omega) (by omega)).mono ?_; rintro e w1 ⟨rfl, rfl⟩) | (go_at_call 32; refine (l1In_no _ _ _ _ (by omega)).mono ?_; rintro e w1 ⟨rfl, rfl⟩))
      go_ret
      exact ⟨rfl, by (repeat refine belAlloc ?_ _); exact Below.refl _ _⟩
theorem isFault_any (k a : Int) (w : World) : Calls Try.prog 11 #[.agg #[.int .i64 k, .int .i64 a]] w fun e w' => e = .returned (.bool (fltOk k a)) ∧ Below w.heap.size w w' := by
  by_cases h : fltOk k a = true
  · rw [h]
    obtain ⟨⟨h1, h2⟩, h3, h4⟩ := fltOk_iff.1 h
    clear h
    go_enter Try.func11, Try.ntmps11
    go_wp2
    go_ret
    exact ⟨rfl, by (repeat refine belAlloc ?_ _); exact Below.refl _ _⟩
  · have h' : fltOk k a = false := by simpa using h
    rw [h']
    have hc := fltOk_no h'
    clear h h'
    rcases hc with h | ⟨h1, h⟩ | ⟨h1, h2, h⟩ | ⟨h1, h2, h3, h⟩
    · have hd : decide (1 ≤ k) = false := decide_eq_false (by omega)
      go_enter Try.func11, Try.ntmps11
      go_wp2
      go_ret
      exact ⟨rfl, by (repeat refine belAlloc ?_ _); exact Below.refl _ _⟩
    · have hd : decide (k ≤ 7) = false := decide_eq_false (by omega)
      go_enter Try.func11, Try.ntmps11
      go_wp2
      go_ret
      exact ⟨rfl, by (repeat refine belAlloc ?_ _); exact Below.refl _ _⟩
    · have hd : decide (0 ≤ a) = false := decide_eq_false (by omega)
      go_enter Try.func11, Try.ntmps11
      go_wp2
      go_ret
      exact ⟨rfl, by (repeat refine belAlloc ?_ _); exact Below.refl _ _⟩
    · have hd : decide (a ≤ 6000) = false := decide_eq_false (by omega)
      go_enter Try.func11, Try.ntmps11
      go_wp2
      go_ret
      exact ⟨rfl, by (repeat refine belAlloc ?_ _); exact Below.refl _ _⟩
/-- Whether a list of faults is valid. -/
def fltsB (f : Nat → Nat → Int) (n : Nat) : Bool := allV (fun i => fltOk (f i 0) (f i 1)) n && decide (n ≤ 40)
theorem fltsB_at {f : Nat → Nat → Int} {n : Nat} (h : fltsB f n = true) : n ≤ 40 ∧ ∀ i, i < n → (1 ≤ f i 0 ∧ f i 0 ≤ 7) ∧ 0 ≤ f i 1 ∧ f i 1 ≤ 6000 := by
  simp only [fltsB, Bool.and_eq_true, decide_eq_true_eq] at h
  exact ⟨h.2, fun i hi => fltOk_iff.1 (allV_at h.1 i hi)⟩
set_option maxHeartbeats 1000000 in
theorem areFaults_any (g c n : Nat) (f : Nat → Nat → Int) (w : World) (hn : n ≤ 1048576) (hown : OwnFaultS w g n f) :
    Calls Try.prog 31 #[.slice (some ⟨g, 0, none⟩) n c] w fun e w' => e = .returned (.bool (fltsB f n)) ∧ Below w.heap.size w w' := by
  have HC := Lib.hid hown
  clear hown
  go_enter Try.func31, Try.ntmps31
  go_wp2
  go_loopw [4, 7] (fun _ i wr => ∃ k : Nat, k ≤ n ∧ i = .int .i64 k ∧ allV (fun i => fltOk (f i 0) (f i 1)) k = true ∧ Below w.heap.size w wr) (fun _ i _ => n - (intOf i).toNat)
  case atStart => exact ⟨0, Nat.zero_le _, rfl, rfl, Below.refl _ _⟩
  case round =>
    obtain ⟨k, hk, rfl, hal, hb⟩ := hrel
    have HA := Lib.hid hal
    have HB := Lib.hid hb
    clear hal hb
    by_cases hlt : k < n
    · obtain ⟨hw0, hw1⟩ := (HC.out.later HB.out).at_ hlt
      have hG : Hid (∀ W, _) := fun W => isFault_any (f k 0) (f k 1) W
      have hgl : g < wr.heap.size := Nat.lt_of_lt_of_le HC.out.1 HB.out.size
      by_cases hin : fltOk (f k 0) (f k 1) = true
      · rw [hin] at hG
        have HIN := Lib.hid hin
        clear hin
        go_wp2_with fail
        refine (hG.out _).mono ?_
        rintro e w1 ⟨rfl, hb1⟩
        have HB1 : Hid (Below w.heap.size w w1) := belNext (belAlloc HB.out _) hb1
        clear hb1
        go_wp2_with fail
        go_roundw
        case rel => exact ⟨k + 1, by omega, by go_num, by rw [allV, HA.out, HIN.out]; rfl, HB1.out⟩
        case measure => simp [intOf]; omega
      · have hin' : fltOk (f k 0) (f k 1) = false := by simpa using hin
        rw [hin'] at hG
        have HN : Hid (fltsB f n = false) := by
          show fltsB f n = false
          rw [fltsB, allV_no (p := fun i => fltOk (f i 0) (f i 1)) (k := k) hin' hlt, Bool.false_and]
        clear hin hin'
        go_wp2_with fail
        refine (hG.out _).mono ?_
        rintro e w1 ⟨rfl, hb1⟩
        have HB1 : Hid (Below w.heap.size w w1) := belNext (belAlloc HB.out _) hb1
        clear hb1
        go_wp2_with fail
        go_ret
        exact ⟨by rw [HN.out]; rfl, HB1.out⟩
    · have HK := Lib.hid (show n = k by omega)
      by_cases h40 : n ≤ 40
      · have hd : decide ((n : Int) ≤ 40) = true := decide_eq_true (by omega)
        have H40 := Lib.hid h40
        go_wp2
        go_ret
        obtain rfl := HK.out
        exact ⟨by rw [fltsB, HA.out, decide_eq_true H40.out]; rfl, HB.out⟩
      · have hd : decide ((n : Int) ≤ 40) = false := decide_eq_false (by omega)
        have H40 := Lib.hid h40
        go_wp2
        go_ret
        obtain rfl := HK.out
        exact ⟨by rw [fltsB, decide_eq_false H40.out, Bool.and_false]; rfl, HB.out⟩
set_option maxHeartbeats 1000000 in
theorem erList_any (g c n : Nat) (f : Nat → Nat → Int) (w : World) (hn : n ≤ 1048576) (hown : OwnFaultS w g n f) :
    Calls Try.prog 30 #[.slice (some ⟨g, 0, none⟩) n c] w fun e w' => e = .returned (.bool (fltsB f n)) ∧ Below w.heap.size w w' := by
  have HC := Lib.hid hown
  clear hown
  go_enter Try.func30, Try.ntmps30
  go_wp2
  go_loopw [4, 7] (fun _ i wr => ∃ k : Nat, k ≤ n ∧ i = .int .i64 k ∧ allV (fun i => fltOk (f i 0) (f i 1)) k = true ∧ Below w.heap.size w wr) (fun _ i _ => n - (intOf i).toNat)
  case atStart => exact ⟨0, Nat.zero_le _, rfl, rfl, Below.refl _ _⟩
  case round =>
    obtain ⟨k, hk, rfl, hal, hb⟩ := hrel
    have HA := Lib.hid hal
    have HB := Lib.hid hb
    clear hal hb
    by_cases hlt : k < n
    · obtain ⟨hw0, hw1⟩ := (HC.out.later HB.out).at_ hlt
      have hG : Hid (∀ W, _) := fun W => erGood_any (f k 0) (f k 1) W
      have hgl : g < wr.heap.size := Nat.lt_of_lt_of_le HC.out.1 HB.out.size
      by_cases hin : fltOk (f k 0) (f k 1) = true
      · rw [hin] at hG
        have HIN := Lib.hid hin
        clear hin
        go_wp2_with fail
        refine (hG.out _).mono ?_
        rintro e w1 ⟨rfl, hb1⟩
        have HB1 : Hid (Below w.heap.size w w1) := belNext (belAlloc HB.out _) hb1
        clear hb1
        go_wp2_with fail
        go_roundw
        case rel => exact ⟨k + 1, by omega, by go_num, by rw [allV, HA.out, HIN.out]; rfl, HB1.out⟩
        case measure => simp [intOf]; omega
      · have hin' : fltOk (f k 0) (f k 1) = false := by simpa using hin
        rw [hin'] at hG
        have HN : Hid (fltsB f n = false) := by
          show fltsB f n = false
          rw [fltsB, allV_no (p := fun i => fltOk (f i 0) (f i 1)) (k := k) hin' hlt, Bool.false_and]
        clear hin hin'
        go_wp2_with fail
        refine (hG.out _).mono ?_
        rintro e w1 ⟨rfl, hb1⟩
        have HB1 : Hid (Below w.heap.size w w1) := belNext (belAlloc HB.out _) hb1
        clear hb1
        go_wp2_with fail
        go_ret
        exact ⟨by rw [HN.out]; rfl, HB1.out⟩
    · have HK := Lib.hid (show n = k by omega)
      by_cases h40 : n ≤ 40
      · have hd : decide ((n : Int) ≤ 40) = true := decide_eq_true (by omega)
        have H40 := Lib.hid h40
        go_wp2
        go_ret
        obtain rfl := HK.out
        exact ⟨by rw [fltsB, HA.out, decide_eq_true H40.out]; rfl, HB.out⟩
      · have hd : decide ((n : Int) ≤ 40) = false := decide_eq_false (by omega)
        have H40 := Lib.hid h40
        go_wp2
        go_ret
        obtain rfl := HK.out
        exact ⟨by rw [fltsB, decide_eq_false H40.out, Bool.and_false]; rfl, HB.out⟩
end Go.Proofs.Ytdnncmhfmpiocaa
