/-
  The reference's scDigit and scNumber, walked once each.
-/
import Derived.Test.YtfddfhobkfkmiaaDigits
namespace Go.Proofs.Ytfddfhobkfkmiaa
open Go.RowKit
set_option maxHeartbeats 400000 in
theorem scDigit_any (c base : Int) (w : World) (h0 : 0 ≤ c) (h9 : c ≤ 255) (hb0 : 2 ≤ base) (hb : base ≤ 16) : Calls Try.prog 66 #[.int .u8 c, .int .i64 base] w fun e w' => e = .returned (.int .i64 (dgV c base)) ∧ w = w' := by
  unfold dgV hexV
  by_cases h1 : 48 ≤ c ∧ c ≤ 57
  · rw [if_pos h1]
    obtain ⟨h1, h2⟩ := h1
    by_cases h3 : base ≤ c - 48
    · rw [if_pos h3]
      go_enter Try.func66, Try.ntmps66
      go_wp2
      go_ret
      exact ⟨rfl, rfl⟩
    · rw [if_neg h3]
      go_enter Try.func66, Try.ntmps66
      go_wp2
      go_ret
      exact ⟨rfl, rfl⟩
  · rw [if_neg h1]
    have d1 : (decide (48 ≤ c) && decide (c ≤ 57)) = false := by simpa using h1
    have d1' : 48 ≤ c → decide (c ≤ 57) = false := fun h => decide_eq_false (by omega)
    by_cases h2 : 97 ≤ c ∧ c ≤ 102
    · rw [if_pos h2]
      obtain ⟨h2, h3⟩ := h2
      have d2 := d1' (by omega)
      clear d1' h1 d1
      by_cases h4 : base ≤ c - 97 + 10
      · rw [if_pos h4]
        go_enter Try.func66, Try.ntmps66
        go_wp2
        go_ret
        exact ⟨rfl, rfl⟩
      · rw [if_neg h4]
        go_enter Try.func66, Try.ntmps66
        go_wp2
        go_ret
        exact ⟨rfl, rfl⟩
    · rw [if_neg h2, if_neg (show ¬ base ≤ -1 by omega)]
      have h3 : ¬ base ≤ (-1 : Int) := by omega
      have hcases : (c < 48) ∨ (57 < c ∧ c < 97) ∨ (102 < c) := by omega
      clear h1 h2 d1 d1'
      rcases hcases with h | ⟨h, h'⟩ | h
      · have d2 : decide (48 ≤ c) = false := decide_eq_false (by omega)
        have d3 : decide (97 ≤ c) = false := decide_eq_false (by omega)
        go_enter Try.func66, Try.ntmps66
        go_wp2
        go_ret
        exact ⟨rfl, rfl⟩
      · have d2 : decide (c ≤ 57) = false := decide_eq_false (by omega)
        have d3 : decide (97 ≤ c) = false := decide_eq_false (by omega)
        go_enter Try.func66, Try.ntmps66
        go_wp2
        go_ret
        exact ⟨rfl, rfl⟩
      · have d2 : decide (c ≤ 57) = false := decide_eq_false (by omega)
        have d3 : decide (c ≤ 102) = false := decide_eq_false (by omega)
        go_enter Try.func66, Try.ntmps66
        go_wp2
        go_ret
        exact ⟨rfl, rfl⟩
/-- Where the digits to a base from a on end; the digits' values. -/
def dgEnd (s : ByteArray) (base : Int) (a : Nat) : Nat := stop (fun i => decide (0 ≤ dgV (byt s i) base)) a (s.size - a)
set_option maxHeartbeats 1000000 in
theorem scNumber_any (s : ByteArray) (a : Nat) (base B : Int) (w : World) (hs : s.size ≤ 4000) (ha : a ≤ s.size) (hb0 : 2 ≤ base) (hb : base ≤ 16) (hB0 : 0 ≤ B) (hB : B ≤ 4294967295) :
    Calls Try.prog 65 #[.string s, .int .i64 a, .int .i64 base, .int .i64 B] w fun e w' => e = .returned (.tuple #[.int .i64 (capN (fun i => dgV (byt s i) base) base B a (dgEnd s base a - a)), .int .i64 (dgEnd s base a)]) ∧ w = w' := by
  have hdhi : ∀ i, dgV (byt s i) base ≤ base - 1 := fun i => by unfold dgV; split <;> omega
  have HDHI := Lib.hid hdhi
  have hmul := Lib.hid (capN_hi (fun i => dgV (byt s i) base) base B a hB0 (by omega) hdhi)
  clear hdhi
  go_enter Try.func65, Try.ntmps65
  go_wp2
  go_loop [1, 10] (fun i x => ∃ k : Nat, a ≤ k ∧ k ≤ s.size ∧ i = .int .i64 k ∧ x = .int .i64 (capN (fun i => dgV (byt s i) base) base B a (k - a)) ∧ dgEnd s base a = stop (fun i => decide (0 ≤ dgV (byt s i) base)) k (s.size - k) ∧ 0 ≤ capN (fun i => dgV (byt s i) base) base B a (k - a)) (fun i _ => s.size - (intOf i).toNat)
  case atStart => exact ⟨a, Nat.le_refl _, ha, rfl, by simp [capN], rfl, by simp [capN]⟩
  case round =>
    obtain ⟨k, hk0, hk, rfl, rfl, hst, hlo⟩ := hrel
    have HS := Lib.hid hst
    clear hst
    have hhi := hmul.out (k - a)
    have hBB : base * B + base ≤ 70000000000 := by
      have := Int.mul_le_mul hb hB hB0 (by omega : (0:Int) ≤ 16)
      omega
    have hv : capN (fun i => dgV (byt s i) base) base B a (k - a) ≤ 70000000000 := by omega
    clear hhi hBB
    by_cases hlt : k < s.size
    · have hby0 := byt_lo s k
      have hby9 := byt_hi s k
      have hbe := byt_eq hlt
      by_cases hp : 0 ≤ dgV (byt s k) base
      · have HP := Lib.hid hp
        have hq : decide (0 ≤ dgV (s[k].toNat : Int) base) = true := by rw [← hbe]; exact decide_eq_true hp
        have hq' : 0 ≤ dgV (s[k].toNat : Int) base := by rw [← hbe]; exact hp
        have hq2 : dgV (s[k].toNat : Int) base ≤ 15 := by rw [← hbe]; have := HDHI.out k; omega
        have HBE := Lib.hid hbe
        rw [hbe] at hby0 hby9
        clear hp hbe
        by_cases hle : capN (fun i => dgV (byt s i) base) base B a (k - a) ≤ B
        · have hm0 : 0 ≤ base * capN (fun i => dgV (byt s i) base) base B a (k - a) := Int.mul_nonneg (by omega) hlo
          have hm1 : base * capN (fun i => dgV (byt s i) base) base B a (k - a) ≤ 70000000000 := by
            have := Int.mul_le_mul hb hle hlo (by omega : (0:Int) ≤ 16)
            omega
          have HST := Lib.hid (capN_step (fun i => dgV (byt s i) base) base B a hle)
          go_wp2_with (go_at_call 66; refine (scDigit_any _ _ _ hby0 hby9 hb0 hb).mono ?_; rintro e w1 ⟨rfl, rfl⟩)
          go_round
          case rel =>
            have hstep : capN (fun i => dgV (byt s i) base) base B a (k + 1 - a) = base * capN (fun i => dgV (byt s i) base) base B a (k - a) + dgV (s[k].toNat : Int) base := by
              rw [show k + 1 - a = (k - a) + 1 by omega, HST.out]
              show _ + dgV (byt s (a + (k - a))) base = _
              rw [show a + (k - a) = k by omega, HBE.out]
            exact ⟨k + 1, by omega, by omega, by go_num, by rw [hstep], by rw [HS.out, stop_go hlt (by simpa using HP.out)], by rw [hstep]; omega⟩
          case measure => simp [intOf]; omega
        · have HST := Lib.hid (capN_over (fun i => dgV (byt s i) base) base B a (show B < capN (fun i => dgV (byt s i) base) base B a (k - a) by omega) 1)
          go_wp2_with (go_at_call 66; refine (scDigit_any _ _ _ hby0 hby9 hb0 hb).mono ?_; rintro e w1 ⟨rfl, rfl⟩)
          go_round
          case rel =>
            have hstep : capN (fun i => dgV (byt s i) base) base B a (k + 1 - a) = capN (fun i => dgV (byt s i) base) base B a (k - a) := by
              rw [show k + 1 - a = (k - a) + 1 by omega, HST.out]
            exact ⟨k + 1, by omega, by omega, by go_num, by rw [hstep], by rw [HS.out, stop_go hlt (by simpa using HP.out)], by rw [hstep]; exact hlo⟩
          case measure => simp [intOf]; omega
      · have HP := Lib.hid hp
        have hq : decide (0 ≤ dgV (s[k].toNat : Int) base) = false := by rw [← hbe]; exact decide_eq_false hp
        rw [hbe] at hby0 hby9
        clear hp hbe
        go_wp2_with (go_at_call 66; refine (scDigit_any _ _ _ hby0 hby9 hb0 hb).mono ?_; rintro e w1 ⟨rfl, rfl⟩)
        go_ret2
        have he : dgEnd s base a = k := by rw [HS.out]; exact stop_no _ (by simpa using HP.out)
        exact ⟨by rw [he]; rfl, rfl⟩
    · have hd : decide (k < s.size) = false := decide_eq_false hlt
      go_wp2_with fail
      go_ret2
      have he : dgEnd s base a = k := by rw [HS.out, show s.size - k = 0 by omega]; rfl
      exact ⟨by rw [he]; rfl, rfl⟩
end Go.Proofs.Ytfddfhobkfkmiaa
