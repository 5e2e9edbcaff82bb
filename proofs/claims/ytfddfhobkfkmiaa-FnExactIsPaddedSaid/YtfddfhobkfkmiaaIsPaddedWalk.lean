/-
  IsPadded, the program's and the reference's: both report whether all bytes of the range are zero; the walk of FnExactIsPadded.
-/
import Derived.Test.YtfddfhobkfkmiaaIn
import Derived.Test.YtfddfhobkfkmiaaByteS
namespace Go.Proofs.Ytfddfhobkfkmiaa
open Go.RowKit
/-- The m bytes from a on are all zero. -/
def allz (f : Nat → Int) (a m : Nat) : Bool := decide (∀ i, i < m → f (a + i) = 0)
theorem allz_yes {f : Nat → Int} {a m : Nat} (h : ∀ i, i < m → f (a + i) = 0) : allz f a m = true := by simpa [allz] using h
theorem allz_no {f : Nat → Int} {a m k : Nat} (hk : k < m) (h : ¬ f (a + k) = 0) : allz f a m = false := by
  unfold allz
  exact decide_eq_false fun hh => h (hh k hk)
set_option maxHeartbeats 400000 in
theorem scZero_any (g o m c : Nat) (f : Nat → Int) (w : World) (hm : m ≤ 4000) (hcells : ∀ i, i < m → w.cell? ⟨g, o + i, none⟩ = some (.int .u8 (f (o + i)))) :
    Calls Try.prog 50 #[.slice (some ⟨g, o, none⟩) m c] w fun e w' => e = .returned (.bool (allz f o m)) ∧ w = w' := by
  have HC := Lib.hid hcells
  clear hcells
  go_enter Try.func50, Try.ntmps50
  go_wp2
  go_loop [4, 7] (fun _ i => ∃ k : Nat, k ≤ m ∧ i = .int .i64 k ∧ ∀ j, j < k → f (o + j) = 0) (fun _ i => m - (intOf i).toNat)
  case atStart => exact ⟨0, Nat.zero_le _, rfl, fun j hj => absurd hj (by omega)⟩
  case round =>
    obtain ⟨k, hk, rfl, hz⟩ := hrel
    have HZ := Lib.hid hz
    clear hz
    by_cases hlt : k < m
    · have hc := HC.out k hlt
      by_cases h0 : f (o + k) = 0
      · have e0 : (f (o + k) != 0) = false := by simpa using h0
        have H0 := Lib.hid h0
        clear h0
        go_wp2
        go_round
        case rel =>
          refine ⟨k + 1, by omega, by go_num, fun j hj => ?_⟩
          rcases Nat.lt_or_ge j k with h | h
          · exact HZ.out j h
          · rw [show j = k by omega]; exact H0.out
        case measure => simp [intOf]; omega
      · have e0 : (f (o + k) != 0) = true := by simpa using h0
        have H0 := Lib.hid h0
        clear h0
        go_wp2
        go_ret
        exact ⟨by rw [allz_no hlt H0.out]; rfl, rfl⟩
    · go_wp2
      go_ret
      exact ⟨by rw [allz_yes fun i hi => HZ.out i (by omega)]; rfl, rfl⟩
set_option maxHeartbeats 400000 in
theorem implIsPadded_in (g a b n : Nat) (f : Nat → Int) (w : World) (hn : n ≤ 4000) (ha : a ≤ b) (hb : b ≤ n) (hown : Own w g n fun i => .int .u8 (f i)) :
    Calls Try.prog 26 #[.slice (some ⟨g, 0, none⟩) n n, .int .i64 a, .int .i64 b] w fun e w' => e = .returned (.tuple #[.bool (allz f a (b - a)), .bool true]) ∧ w = w' := by
  have HC := Lib.hid hown
  clear hown
  have hd0 : decide (4000 < (n : Int)) = false := decide_eq_false (by omega)
  have hd1 : decide ((a : Int) < 0) = false := decide_eq_false (by omega)
  have hd2 : decide (b < a) = false := decide_eq_false (by omega)
  have hd3 : decide (n < b) = false := decide_eq_false (by omega)
  by_cases hlast : a < n
  · go_enter Try.func26, Try.ntmps26
    go_wp2
    go_loop [9, 33] (fun _ i => ∃ k : Nat, k ≤ b - a ∧ i = .int .i64 k ∧ ∀ j, j < k → f (a + j) = 0) (fun _ i => (b - a) - (intOf i).toNat)
    case atStart => exact ⟨0, Nat.zero_le _, rfl, fun j hj => absurd hj (by omega)⟩
    case round =>
      obtain ⟨k, hk, rfl, hz⟩ := hrel
      have HZ := Lib.hid hz
      clear hz
      by_cases hlt : k < b - a
      · have hc := HC.out.cell (i := a + k) (by omega)
        by_cases h0 : f (a + k) = 0
        · have e0 : (f (a + k) != 0) = false := by simpa using h0
          have H0 := Lib.hid h0
          clear h0
          go_wp2
          go_round
          case rel =>
            refine ⟨k + 1, by omega, by go_num, fun j hj => ?_⟩
            rcases Nat.lt_or_ge j k with h | h
            · exact HZ.out j h
            · rw [show j = k by omega]; exact H0.out
          case measure => simp [intOf]; omega
        · have e0 : (f (a + k) != 0) = true := by simpa using h0
          have H0 := Lib.hid h0
          clear h0
          go_wp2
          go_ret2
          exact ⟨by rw [allz_no hlt H0.out]; rfl, rfl⟩
      · go_wp2
        go_ret2
        exact ⟨by rw [allz_yes fun i hi => HZ.out i (by omega)]; rfl, rfl⟩
  · obtain rfl : b = a := by omega
    obtain rfl : n = b := by omega
    have hz : allz f n (n - n) = true := allz_yes fun i hi => absurd hi (by omega)
    rw [hz]
    clear hz
    go_enter Try.func26, Try.ntmps26
    go_wp2
    refine wp_loop_rounds 1 ?_; rw [rounds_succ]
    go_wp2
    go_ret2
    exact ⟨rfl, rfl⟩
def ipOk (n : Nat) (a b : Int) : Bool := decide (n ≤ 4000 ∧ 0 ≤ a ∧ a ≤ b ∧ b ≤ n)
def ipV (f : Nat → Int) (n : Nat) (a b : Int) : Bool := ipOk n a b && allz f a.toNat (b.toNat - a.toNat)
set_option maxHeartbeats 400000 in
theorem implIsPadded_any (g _c n : Nat) (a b : Int) (f : Nat → Int) (w : World) (_hf : ∀ i, 0 ≤ f i ∧ f i ≤ 255) (hn : n ≤ 1048576) (hown : Own w g n fun i => .int .u8 (f i)) :
    Calls Try.prog 26 #[.slice (some ⟨g, 0, none⟩) n n, .int .i64 a, .int .i64 b] w fun e w' => e = .returned (.tuple #[.bool (ipV f n a b), .bool (ipOk n a b)]) ∧ w = w' := by
  by_cases hok : n ≤ 4000 ∧ 0 ≤ a ∧ a ≤ b ∧ b ≤ n
  · have e1 : ipOk n a b = true := by simpa [ipOk] using hok
    obtain ⟨x, rfl⟩ := Int.eq_ofNat_of_zero_le (show 0 ≤ a by omega)
    obtain ⟨y, rfl⟩ := Int.eq_ofNat_of_zero_le (show 0 ≤ b by omega)
    rw [ipV, e1, Bool.true_and]
    exact implIsPadded_in g x y n f w (by omega) (by omega) (by omega) hown
  · have e1 : ipOk n a b = false := by simpa [ipOk] using hok
    rw [ipV, e1, Bool.false_and]
    clear hown e1
    have hcases : 4000 < (n : Int) ∨ ((n : Int) ≤ 4000 ∧ a < 0) ∨ ((n : Int) ≤ 4000 ∧ 0 ≤ a ∧ b < a) ∨ ((n : Int) ≤ 4000 ∧ 0 ≤ a ∧ a ≤ b ∧ (n : Int) < b) := by omega
    clear hok
    rcases hcases with h | ⟨h1, h⟩ | ⟨h1, h2, h⟩ | ⟨h1, h2, h3, h⟩
    all_goals
      go_enter Try.func26, Try.ntmps26
      go_wp2
      go_ret2
      exact ⟨rfl, rfl⟩
set_option maxHeartbeats 400000 in
theorem specIsPadded_any (g _c n : Nat) (a b : Int) (f : Nat → Int) (w : World) (_hf : ∀ i, 0 ≤ f i ∧ f i ≤ 255) (hn : n ≤ 1048576) (hown : Own w g n fun i => .int .u8 (f i)) :
    Calls Try.prog 25 #[.slice (some ⟨g, 0, none⟩) n n, .int .i64 a, .int .i64 b] w fun e w' => e = .returned (.tuple #[.bool (ipV f n a b), .bool (ipOk n a b)]) ∧ w = w' := by
  by_cases hok : n ≤ 4000 ∧ 0 ≤ a ∧ a ≤ b ∧ b ≤ n
  · have e1 : ipOk n a b = true := by simpa [ipOk] using hok
    obtain ⟨x, rfl⟩ := Int.eq_ofNat_of_zero_le (show 0 ≤ a by omega)
    obtain ⟨y, rfl⟩ := Int.eq_ofNat_of_zero_le (show 0 ≤ b by omega)
    rw [ipV, e1, Bool.true_and]
    rw [Int.toNat_natCast, Int.toNat_natCast]
    obtain ⟨h0, h1, h2, h3⟩ := hok
    by_cases hlast : x < n
    · have hZ := fun c => Lib.hid (scZero_any g x (y - x) c f w (by omega) (fun i hi => hown.cell (by omega)))
      have HZ := Lib.hid hZ
      have h0' : (n : Int) ≤ 4000 := by omega
      clear hown e1 hZ
      go_enter Try.func25, Try.ntmps25
      go_wp2_with (first | (go_at_call 43; refine (l1In_yes _ _ _ _ (by omega) (by omega)).mono ?_; rintro e w1 ⟨rfl, rfl⟩) | (go_at_call 43; refine (l1In_no _ _ _ _ (by omega)).mono ?_; rintro e w1 ⟨rfl, rfl⟩) | (go_at_call 50; refine (HZ.out _).out.mono ?_; rintro e w1 ⟨rfl, rfl⟩) | go_in)
      go_ret2
      exact ⟨rfl, rfl⟩
    · obtain rfl : x = n := by omega
      obtain rfl : y = x := by omega
      have hZ : ∀ c, Calls Try.prog 50 #[.slice (some ⟨g, 0, none⟩) 0 c] w fun e w' => e = .returned (.bool true) ∧ w = w' := fun c => by
        have h := scZero_any g 0 0 c f w (by omega) (fun i hi => absurd hi (by omega))
        rw [allz_yes fun i hi => absurd hi (by omega)] at h
        exact h
      have HZ := Lib.hid hZ
      have h0' : (y : Int) ≤ 4000 := by omega
      rw [allz_yes fun i hi => absurd hi (by omega)]
      clear hown e1 hZ
      go_enter Try.func25, Try.ntmps25
      go_wp2_with (first | (go_at_call 43; refine (l1In_yes _ _ _ _ (by omega) (by omega)).mono ?_; rintro e w1 ⟨rfl, rfl⟩) | (go_at_call 43; refine (l1In_no _ _ _ _ (by omega)).mono ?_; rintro e w1 ⟨rfl, rfl⟩) | (go_at_call 50; refine (HZ.out _).mono ?_; rintro e w1 ⟨rfl, rfl⟩) | go_in)
      go_ret2
      exact ⟨rfl, rfl⟩
  · have e1 : ipOk n a b = false := by simpa [ipOk] using hok
    rw [ipV, e1, Bool.false_and]
    clear hown e1
    by_cases h1 : 4000 < (n : Int)
    · have hd0 : decide ((n : Int) ≤ 4000) = false := decide_eq_false (by omega)
      clear hok
      go_enter Try.func25, Try.ntmps25
      go_wp2
      go_ret2
      exact ⟨rfl, rfl⟩
    · have h0' : (n : Int) ≤ 4000 := by omega
      have h4 : a < 0 ∨ (n : Int) < a ∨ b < a ∨ (n : Int) < b := by omega
      clear hok h1
      by_cases h5 : 0 ≤ a ∧ a ≤ n
      · obtain ⟨h5, h6⟩ := h5
        go_enter Try.func25, Try.ntmps25
        go_wp2_with (first | (go_at_call 43; refine (l1In_yes _ _ _ _ (by omega) (by omega)).mono ?_; rintro e w1 ⟨rfl, rfl⟩) | (go_at_call 43; refine (l1In_no _ _ _ _ (by omega)).mono ?_; rintro e w1 ⟨rfl, rfl⟩) | go_in)
        go_ret2
        exact ⟨rfl, rfl⟩
      · have h6 : a < 0 ∨ (n : Int) < a := by omega
        clear h5 h4
        go_enter Try.func25, Try.ntmps25
        go_wp2_with (first | (go_at_call 43; refine (l1In_yes _ _ _ _ (by omega) (by omega)).mono ?_; rintro e w1 ⟨rfl, rfl⟩) | (go_at_call 43; refine (l1In_no _ _ _ _ (by omega)).mono ?_; rintro e w1 ⟨rfl, rfl⟩) | go_in)
        go_ret2
        exact ⟨rfl, rfl⟩
set_option maxHeartbeats 1000000 in
theorem fnExactIsPadded_walk (w : World) (A : Option Addr) (n c : Nat) (f : Nat → Int) (hf : ∀ i, 0 ≤ f i ∧ f i ≤ 255) (hn : n ≤ maxLen) (hr : Row w w.heap.size A n fun i => .int .u8 (f i))
    (a : Int) (_ : -9223372036854775808 ≤ a) (_ : a ≤ 9223372036854775807) (b : Int) (_ : -9223372036854775808 ≤ b) (_ : b ≤ 9223372036854775807) :
    Calls Try.prog 7 #[.slice A n c, .int .i64 a, .int .i64 b] w fun e w' => e = .returned (.bool true) ∧ Below w.heap.size w w' := by
  unfold maxLen at hn
  have HF := Lib.hid hf
  have HR := Lib.hid hr
  clear hf hr
  by_cases hbig : 1048576 < (n : Int)
  · go_enter Try.func7, Try.ntmps7
    go_wp2
    go_ret
    exact ⟨rfl, Below.refl _ _⟩
  · go_enter Try.func7, Try.ntmps7
    go_wp2_with fail
    refine (toByteS_any A n c f _ (by omega) HR.out).mono ?_
    rintro e w1 ⟨rfl, hr1, hb1⟩
    have O1 := Lib.hid (Own.of_row hr1)
    have B1 := Lib.hid hb1
    clear hr1 hb1
    go_wp2_with fail
    refine (specIsPadded_any _ 0 n _ _ f _ HF.out (by omega) O1.out).mono ?_
    rintro e w2 ⟨rfl, rfl⟩
    go_wp2_with fail
    refine (toByteS_any A n c f _ (by omega) ((HR.out.below B1.out).more B1.out.size)).mono ?_
    rintro e w2 ⟨rfl, hr2, hb2⟩
    have O2 := Lib.hid (Own.of_row hr2)
    have B2 := Lib.hid (B1.out.trans (hb2.mono B1.out.size))
    clear hr2 hb2
    go_wp2_with fail
    refine (implIsPadded_any _ 0 n _ _ f _ HF.out (by omega) O2.out).mono ?_
    rintro e w3 ⟨rfl, rfl⟩
    go_wp2_with fail
    refine (toByteS_any A n c f _ (by omega) ((HR.out.below B2.out).more B2.out.size)).mono ?_
    rintro e w3 ⟨rfl, hr3, hb3⟩
    have O3 := Lib.hid (Own.of_row hr3)
    have O2' := Lib.hid (O2.out.later hb3)
    have B3 := Lib.hid (B2.out.trans (hb3.mono B2.out.size))
    clear hr3 hb3
    go_wp2_with fail
    refine (eqByteS_any _ _ _ _ n f _ _ _ (by omega) O2'.out.row O3.out.row).mono ?_
    rintro e w4 ⟨rfl, hb4⟩
    have B4 := Lib.hid (B3.out.trans (hb4.mono B3.out.size))
    clear hb4
    go_wp2_with fail
    go_ret
    exact ⟨rfl, B4.out⟩
end Go.Proofs.Ytfddfhobkfkmiaa
