/-
  ChecksumOf, the program's (two bytes a round) and the reference's (one byte a round): both return the folded sum's complement; the walk of FnExactChecksumOf.
-/
import Derived.Test.YtfddfhobkfkmiaaIn
import Derived.Test.YtfddfhobkfkmiaaBits
import Derived.Test.YtfddfhobkfkmiaaByteS
namespace Go.Proofs.Ytfddfhobkfkmiaa
open Go.RowKit
/-- The folded sum of the first k bytes, as the reference makes it. -/
def csum (f : Nat → Int) : Nat → Int
  | 0 => 0
  | k + 1 => (csum f k + (if k % 2 = 0 then f k * 256 else f k)) % 65536 + (csum f k + (if k % 2 = 0 then f k * 256 else f k)) / 65536
theorem csum_bd (f : Nat → Int) (hf : ∀ i, 0 ≤ f i ∧ f i ≤ 255) : ∀ k, 0 ≤ csum f k ∧ csum f k ≤ 65535
  | 0 => by simp [csum]
  | k + 1 => by
    have h := csum_bd f hf k
    have hk := hf k
    unfold csum
    split <;> omega
theorem csum_even (f : Nat → Int) (k : Nat) : csum f (2 * k + 1) = (csum f (2 * k) + f (2 * k) * 256) % 65536 + (csum f (2 * k) + f (2 * k) * 256) / 65536 := by
  rw [csum, if_pos (by omega)]
theorem csum_odd (f : Nat → Int) (k : Nat) : csum f (2 * k + 2) = (csum f (2 * k + 1) + f (2 * k + 1)) % 65536 + (csum f (2 * k + 1) + f (2 * k + 1)) / 65536 := by
  rw [show 2 * k + 2 = (2 * k + 1) + 1 by omega, csum, if_neg (by omega)]
set_option maxHeartbeats 400000 in
theorem scSum_any (g c n : Nat) (f : Nat → Int) (w : World) (hf : ∀ i, 0 ≤ f i ∧ f i ≤ 255) (hn : n ≤ 4000) (hown : Own w g n fun i => .int .u8 (f i)) :
    Calls Try.prog 54 #[.slice (some ⟨g, 0, none⟩) n c] w fun e w' => e = .returned (.int .i64 (csum f n)) ∧ w = w' := by
  have HC := Lib.hid hown
  have HF := Lib.hid hf
  clear hown hf
  go_enter Try.func54, Try.ntmps54
  go_wp2
  go_loop [3, 4, 5, 6, 9] (fun x _ _ _ i => ∃ k : Nat, k ≤ n ∧ x = .int .i64 (csum f k) ∧ i = .int .i64 k) (fun _ _ _ _ i => n - (intOf i).toNat)
  case atStart => exact ⟨0, Nat.zero_le _, rfl, rfl⟩
  case round =>
    obtain ⟨k, hk, rfl, rfl⟩ := hrel
    have hb := csum_bd f HF.out k
    by_cases hlt : k < n
    · have hc := HC.out.cell hlt
      have hfb := HF.out k
      by_cases he : k % 2 = 0
      · have hE : ((k : Int) % 2 == 0) = true := by simp; omega
        have HS := Lib.hid (show csum f (k + 1) = (csum f k + f k * 256) % 65536 + (csum f k + f k * 256) / 65536 by rw [csum, if_pos he])
        clear he
        go_wp2
        go_round
        case rel => exact ⟨k + 1, by omega, by rw [HS.out], by go_num⟩
        case measure => simp [intOf]; omega
      · have hE : ((k : Int) % 2 == 0) = false := by simp; omega
        have HS := Lib.hid (show csum f (k + 1) = (csum f k + f k) % 65536 + (csum f k + f k) / 65536 by rw [csum, if_neg he])
        clear he
        go_wp2
        go_round
        case rel => exact ⟨k + 1, by omega, by rw [HS.out], by go_num⟩
        case measure => simp [intOf]; omega
    · have hjv : n = k := by omega
      have HJ := Lib.hid hjv
      clear hjv
      go_wp2
      go_ret
      obtain rfl := HJ.out
      exact ⟨rfl, rfl⟩
set_option maxHeartbeats 1000000 in
theorem implChecksumOf_yes (g c n : Nat) (f : Nat → Int) (w : World) (hf : ∀ i, 0 ≤ f i ∧ f i ≤ 255) (hn : n ≤ 4000) (hown : Own w g n fun i => .int .u8 (f i)) :
    Calls Try.prog 30 #[.slice (some ⟨g, 0, none⟩) n c] w fun e w' => e = .returned (.tuple #[.int .i64 (65535 - csum f n), .bool true]) ∧ w = w' := by
  have HC := Lib.hid hown
  have HF := Lib.hid hf
  clear hown hf
  have hd0 : decide (4000 < (n : Int)) = false := decide_eq_false (by omega)
  go_enter Try.func30, Try.ntmps30
  go_wp2
  go_loop [4, 5, 6] (fun x i _ => ∃ k : Nat, 2 * k ≤ n + 1 ∧ x = .int .i64 (csum f (min (2 * k) n)) ∧ i = .int .i64 ((2 * k : Nat) : Int)) (fun _ i _ => n + 1 - (intOf i).toNat)
  case atStart => exact ⟨0, by omega, by simp [csum], rfl⟩
  case round =>
    obtain ⟨k, hk, rfl, rfl⟩ := hrel
    have hb := csum_bd f HF.out (min (2 * k) n)
    by_cases hlt : 2 * k < n
    · have hc := HC.out.cell hlt
      have hfb := HF.out (2 * k)
      have hmin : min (2 * k) n = 2 * k := by omega
      rw [hmin] at hb ⊢
      by_cases h1 : 2 * k + 1 < n
      · have hc1 := HC.out.cell h1
        have hfb1 := HF.out (2 * k + 1)
        have hor := or_byte (f (2 * k)) (f (2 * k + 1)) hfb.1 (by omega) hfb1.1 hfb1.2
        have he := csum_even f k
        have ho := csum_odd f k
        clear hmin
        by_cases hg : 65535 < csum f (2 * k) + (f (2 * k) * 256 + f (2 * k + 1))
        · have HS : Hid (csum f (2 * k + 2) = csum f (2 * k) + (f (2 * k) * 256 + f (2 * k + 1)) - 65535) := by
            show _ = _; omega
          clear he ho
          go_wp2
          go_round
          case rel => exact ⟨k + 1, by omega, by rw [show min (2 * (k + 1)) n = 2 * k + 2 by omega, HS.out], by go_num⟩
          case measure => simp [intOf]; omega
        · have HS : Hid (csum f (2 * k + 2) = csum f (2 * k) + (f (2 * k) * 256 + f (2 * k + 1))) := by
            show _ = _; omega
          clear he ho
          go_wp2
          go_round
          case rel => exact ⟨k + 1, by omega, by rw [show min (2 * (k + 1)) n = 2 * k + 2 by omega, HS.out], by go_num⟩
          case measure => simp [intOf]; omega
      · have he := csum_even f k
        have hn1 : n = 2 * k + 1 := by omega
        have HN := Lib.hid hn1
        clear hmin hn1
        by_cases hg : 65535 < csum f (2 * k) + f (2 * k) * 256
        · have HS : Hid (csum f (2 * k + 1) = csum f (2 * k) + f (2 * k) * 256 - 65535) := by
            show _ = _; omega
          clear he
          go_wp2
          go_round
          case rel => exact ⟨k + 1, by omega, by rw [show min (2 * (k + 1)) n = 2 * k + 1 by have := HN.out; omega, HS.out], by go_num⟩
          case measure => simp [intOf]; omega
        · have HS : Hid (csum f (2 * k + 1) = csum f (2 * k) + f (2 * k) * 256) := by
            show _ = _; omega
          clear he
          go_wp2
          go_round
          case rel => exact ⟨k + 1, by omega, by rw [show min (2 * (k + 1)) n = 2 * k + 1 by have := HN.out; omega, HS.out], by go_num⟩
          case measure => simp [intOf]; omega
    · have hmin : min (2 * k) n = n := by omega
      rw [hmin] at hb ⊢
      clear hmin
      go_wp2
      go_ret2
      exact ⟨rfl, rfl⟩
def ckOk (n : Nat) : Bool := decide (n ≤ 4000)
def ckV (f : Nat → Int) (n : Nat) : Int := if ckOk n then 65535 - csum f n else 0
theorem implChecksumOf_any (g c n : Nat) (f : Nat → Int) (w : World) (hf : ∀ i, 0 ≤ f i ∧ f i ≤ 255) (hn : n ≤ 1048576) (hown : Own w g n fun i => .int .u8 (f i)) :
    Calls Try.prog 30 #[.slice (some ⟨g, 0, none⟩) n c] w fun e w' => e = .returned (.tuple #[.int .i64 (ckV f n), .bool (ckOk n)]) ∧ w = w' := by
  by_cases h : n ≤ 4000
  · rw [ckV, show ckOk n = true by simpa [ckOk] using h, if_pos rfl]
    exact implChecksumOf_yes g c n f w hf h hown
  · rw [ckV, show ckOk n = false by simpa [ckOk] using h, if_neg (by simp)]
    clear hown hf
    have h' : 4000 < (n : Int) := by omega
    go_enter Try.func30, Try.ntmps30
    go_wp2
    go_ret2
    exact ⟨rfl, rfl⟩
theorem specChecksumOf_any (g c n : Nat) (f : Nat → Int) (w : World) (hf : ∀ i, 0 ≤ f i ∧ f i ≤ 255) (hn : n ≤ 1048576) (hown : Own w g n fun i => .int .u8 (f i)) :
    Calls Try.prog 29 #[.slice (some ⟨g, 0, none⟩) n c] w fun e w' => e = .returned (.tuple #[.int .i64 (ckV f n), .bool (ckOk n)]) ∧ w = w' := by
  by_cases h : n ≤ 4000
  · rw [ckV, show ckOk n = true by simpa [ckOk] using h, if_pos rfl]
    have hS := Lib.hid (scSum_any g c n f w hf h hown)
    have hb := csum_bd f hf n
    have h' : (n : Int) ≤ 4000 := by omega
    clear hown hf
    go_enter Try.func29, Try.ntmps29
    go_wp2_with (first | (go_at_call 54; refine hS.out.mono ?_; rintro e w1 ⟨rfl, rfl⟩) | go_in)
    go_ret2
    exact ⟨rfl, rfl⟩
  · rw [ckV, show ckOk n = false by simpa [ckOk] using h, if_neg (by simp)]
    clear hown hf
    have h' : decide ((n : Int) ≤ 4000) = false := decide_eq_false (by omega)
    go_enter Try.func29, Try.ntmps29
    go_wp2
    go_ret2
    exact ⟨rfl, rfl⟩
set_option maxHeartbeats 1000000 in
theorem fnExactChecksumOf_walk (w : World) (A : Option Addr) (n c : Nat) (f : Nat → Int) (hf : ∀ i, 0 ≤ f i ∧ f i ≤ 255) (hn : n ≤ maxLen) (hr : Row w w.heap.size A n fun i => .int .u8 (f i))
     :
    Calls Try.prog 9 #[.slice A n c] w fun e w' => e = .returned (.bool true) ∧ Below w.heap.size w w' := by
  unfold maxLen at hn
  have HF := Lib.hid hf
  have HR := Lib.hid hr
  clear hf hr
  by_cases hbig : 1048576 < (n : Int)
  · go_enter Try.func9, Try.ntmps9
    go_wp2
    go_ret
    exact ⟨rfl, Below.refl _ _⟩
  · go_enter Try.func9, Try.ntmps9
    go_wp2_with fail
    refine (toByteS_any A n c f _ (by omega) HR.out).mono ?_
    rintro e w1 ⟨rfl, hr1, hb1⟩
    have O1 := Lib.hid (Own.of_row hr1)
    have B1 := Lib.hid hb1
    clear hr1 hb1
    go_wp2_with fail
    refine (specChecksumOf_any _ _ n f _ HF.out (by omega) O1.out).mono ?_
    rintro e w2 ⟨rfl, rfl⟩
    go_wp2_with fail
    refine (toByteS_any A n c f _ (by omega) ((HR.out.below B1.out).more B1.out.size)).mono ?_
    rintro e w2 ⟨rfl, hr2, hb2⟩
    have O2 := Lib.hid (Own.of_row hr2)
    have B2 := Lib.hid (B1.out.trans (hb2.mono B1.out.size))
    clear hr2 hb2
    go_wp2_with fail
    refine (implChecksumOf_any _ _ n f _ HF.out (by omega) O2.out).mono ?_
    rintro e w3 ⟨rfl, rfl⟩
    go_wp2_with fail
    refine (toByteS_any A n c f _ (by omega) ((HR.out.below B2.out).more B2.out.size)).mono ?_
    rintro e w3 ⟨rfl, hr3, hb3⟩
    have O3 := Lib.hid (Own.of_row hr3)
    have O2' := Lib.hid (O2.out.later hb3)
    have B3 := Lib.hid (B2.out.trans (hb3.mono B2.out.size))
    clear hr3 hb3
    go_wp2_with fail
    refine (eqByteS_any _ _ _ _ n f _ _ _ (by omega) O2'.out.row O3.out.row).mono ?_
    rintro e w4 ⟨rfl, hb4⟩
    have B4 := Lib.hid (B3.out.trans (hb4.mono B3.out.size))
    clear hb4
    go_wp2_with fail
    go_ret
    exact ⟨rfl, B4.out⟩
end Go.Proofs.Ytfddfhobkfkmiaa
