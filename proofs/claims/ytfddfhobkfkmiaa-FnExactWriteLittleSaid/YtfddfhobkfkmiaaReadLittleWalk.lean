/-
  ReadLittle, the program's and the reference's: both return the number of the bytes; the walk of FnExactReadLittle.
-/
import Derived.Test.YtfddfhobkfkmiaaIn
import Derived.Test.YtfddfhobkfkmiaaBits
import Derived.Test.YtfddfhobkfkmiaaByteS
namespace Go.Proofs.Ytfddfhobkfkmiaa
open Go.RowKit
/-- The number of the highest j of the v bytes that begin at a. -/
def rdTop (f : Nat → Int) (a v : Nat) : Nat → Int
  | 0 => 0
  | j + 1 => rdTop f a v j * 256 + f (a + (v - 1 - j))
theorem rdTop_bd (f : Nat → Int) (hf : ∀ i, 0 ≤ f i ∧ f i ≤ 255) (a v : Nat) (j : Nat) (hj : j ≤ 4) : 0 ≤ rdTop f a v j ∧ rdTop f a v j ≤ 4294967295 := by
  have h0 := hf (a + (v - 1 - 0))
  have h1 := hf (a + (v - 1 - 1))
  have h2 := hf (a + (v - 1 - 2))
  have h3 := hf (a + (v - 1 - 3))
  match j, hj with
  | 0, _ => simp [rdTop]
  | 1, _ => simp only [rdTop]; omega
  | 2, _ => simp only [rdTop]; omega
  | 3, _ => simp only [rdTop]; omega
  | 4, _ => simp only [rdTop]; omega
set_option maxHeartbeats 400000 in
theorem scRead_any (g a v c n : Nat) (f : Nat → Int) (w : World) (hf : ∀ i, 0 ≤ f i ∧ f i ≤ 255) (hn : n ≤ 4000) (hv : v ≤ 4) (ha : a + v ≤ n) (hown : Own w g n fun i => .int .u8 (f i)) :
    Calls Try.prog 52 #[.slice (some ⟨g, 0, none⟩) n c, .int .i64 a, .int .i64 v] w fun e w' => e = .returned (.int .i64 (rdTop f a v v)) ∧ w = w' := by
  have HC := Lib.hid hown
  have HF := Lib.hid hf
  clear hown hf
  go_enter Try.func52, Try.ntmps52
  go_wp2
  go_loop [7, 8] (fun x i => ∃ j : Nat, j ≤ v ∧ x = .int .i64 (rdTop f a v j) ∧ i = .int .i64 ((v : Int) - 1 - j)) (fun _ i => (intOf i + 1).toNat)
  case atStart => exact ⟨0, Nat.zero_le _, rfl, by simp⟩
  case round =>
    obtain ⟨j, hj, rfl, rfl⟩ := hrel
    have hb := rdTop_bd f HF.out a v j (by omega)
    by_cases hlt : j < v
    · have hc := HC.out.cell (i := a + (v - 1 - j)) (by omega)
      have hfb := HF.out (a + (v - 1 - j))
      go_wp2
      go_round
      case rel => exact ⟨j + 1, by omega, by simp only [rdTop]; go_num, by go_num⟩
      case measure => simp [intOf]; omega
    · have hjv : v = j := by omega
      have HJ := Lib.hid hjv
      clear hjv
      go_wp2
      go_ret
      obtain rfl := HJ.out
      exact ⟨rfl, rfl⟩
theorem scWidth_any (v : Nat) (hv : v = 1 ∨ v = 2 ∨ v = 4) (w : World) : Calls Try.prog 51 #[.int .i64 v] w fun e w' => e = .returned (.bool true) ∧ w = w' := by
  rcases hv with rfl | rfl | rfl
  all_goals
    go_enter Try.func51, Try.ntmps51
    go_wp2
    go_ret
    exact ⟨rfl, rfl⟩
theorem isWidth_any (v : Nat) (hv : v = 1 ∨ v = 2 ∨ v = 4) (w : World) : Calls Try.prog 53 #[.int .i64 v] w fun e w' => e = .returned (.bool true) ∧ w = w' := by
  rcases hv with rfl | rfl | rfl
  all_goals
    go_enter Try.func53, Try.ntmps53
    go_wp2
    go_ret
    exact ⟨rfl, rfl⟩
theorem scWidth_no (v : Int) (h1 : v ≠ 1) (h2 : v ≠ 2) (h4 : v ≠ 4) (w : World) : Calls Try.prog 51 #[.int .i64 v] w fun e w' => e = .returned (.bool false) ∧ w = w' := by
  have e1 : (v == 1) = false := by simpa using h1
  have e2 : (v == 2) = false := by simpa using h2
  have e4 : (v == 4) = false := by simpa using h4
  go_enter Try.func51, Try.ntmps51
  go_wp2
  go_ret
  exact ⟨rfl, rfl⟩
theorem isWidth_no (v : Int) (h1 : v ≠ 1) (h2 : v ≠ 2) (h4 : v ≠ 4) (w : World) : Calls Try.prog 53 #[.int .i64 v] w fun e w' => e = .returned (.bool false) ∧ w = w' := by
  have e1 : (v == 1) = false := by simpa using h1
  have e2 : (v == 2) = false := by simpa using h2
  have e4 : (v == 4) = false := by simpa using h4
  go_enter Try.func53, Try.ntmps53
  go_wp2
  go_ret
  exact ⟨rfl, rfl⟩
set_option maxHeartbeats 400000 in
theorem implReadLittle_yes (g a v c n : Nat) (f : Nat → Int) (w : World) (hf : ∀ i, 0 ≤ f i ∧ f i ≤ 255) (hn : n ≤ 4000) (hv : v = 1 ∨ v = 2 ∨ v = 4) (ha : a + v ≤ n) (hown : Own w g n fun i => .int .u8 (f i)) :
    Calls Try.prog 28 #[.slice (some ⟨g, 0, none⟩) n c, .int .i64 a, .int .i64 v] w fun e w' => e = .returned (.tuple #[.int .i64 (rdTop f a v v), .bool true]) ∧ w = w' := by
  have hW := isWidth_any v hv w
  have hv4 : v ≤ 4 := by omega
  have HW := Lib.hid hW
  have HC := Lib.hid hown
  have HF := Lib.hid hf
  clear hown hf hW hv
  have hd0 : decide (4000 < (n : Int)) = false := decide_eq_false (by omega)
  have hd1 : decide ((a : Int) < 0) = false := decide_eq_false (by omega)
  have hd2 : decide ((n : Int) - (v : Int) < (a : Int)) = false := decide_eq_false (by omega)
  go_enter Try.func28, Try.ntmps28
  go_wp2_with (go_at_call 53; refine HW.out.mono ?_; rintro e w1 ⟨rfl, rfl⟩)
  go_loop [8, 9] (fun x i => ∃ j : Nat, j ≤ v ∧ x = .int .i64 (rdTop f a v j) ∧ i = .int .i64 ((v : Int) - 1 - j)) (fun _ i => (intOf i + 1).toNat)
  case atStart => exact ⟨0, Nat.zero_le _, rfl, by simp⟩
  case round =>
    obtain ⟨j, hj, rfl, rfl⟩ := hrel
    have hb := rdTop_bd f HF.out a v j (by omega)
    by_cases hlt : j < v
    · have hc := HC.out.cell (i := a + (v - 1 - j)) (by omega)
      have hfb := HF.out (a + (v - 1 - j))
      have hor := or_byte (rdTop f a v j) (f (a + (v - 1 - j))) hb.1 (by omega) hfb.1 hfb.2
      go_wp2
      go_round
      case rel => exact ⟨j + 1, by omega, rfl, by go_num⟩
      case measure => simp [intOf]; omega
    · have hjv : v = j := by omega
      have HJ := Lib.hid hjv
      clear hjv
      go_wp2
      go_ret2
      obtain rfl := HJ.out
      exact ⟨rfl, rfl⟩
/-- When ReadLittle succeeds, and what it returns. -/
def rlOk (n : Nat) (a v : Int) : Bool := decide (n ≤ 4000 ∧ (v = 1 ∨ v = 2 ∨ v = 4) ∧ 0 ≤ a ∧ a + v ≤ n)
def rlV (f : Nat → Int) (n : Nat) (a v : Int) : Int := if rlOk n a v then rdTop f a.toNat v.toNat v.toNat else 0
set_option maxHeartbeats 1000000 in
theorem implReadLittle_any (g c n : Nat) (a v : Int) (f : Nat → Int) (w : World) (hf : ∀ i, 0 ≤ f i ∧ f i ≤ 255) (hn : n ≤ 1048576) (hown : Own w g n fun i => .int .u8 (f i)) :
    Calls Try.prog 28 #[.slice (some ⟨g, 0, none⟩) n c, .int .i64 a, .int .i64 v] w fun e w' => e = .returned (.tuple #[.int .i64 (rlV f n a v), .bool (rlOk n a v)]) ∧ w = w' := by
  by_cases hok : n ≤ 4000 ∧ (v = 1 ∨ v = 2 ∨ v = 4) ∧ 0 ≤ a ∧ a + v ≤ n
  · have e1 : rlOk n a v = true := by simpa [rlOk] using hok
    obtain ⟨x, rfl⟩ := Int.eq_ofNat_of_zero_le (show 0 ≤ a by omega)
    obtain ⟨y, rfl⟩ := Int.eq_ofNat_of_zero_le (show 0 ≤ v by omega)
    rw [rlV, e1, if_pos rfl]
    exact implReadLittle_yes g x y c n f w hf (by omega) (by omega) (by omega) hown
  · have e1 : rlOk n a v = false := by simpa [rlOk] using hok
    rw [rlV, e1, if_neg (by simp)]
    clear hown hf e1
    by_cases h1 : 4000 < (n : Int)
    · clear hok
      go_enter Try.func28, Try.ntmps28
      go_wp2
      go_ret2
      exact ⟨rfl, rfl⟩
    · have hd0 : decide (4000 < (n : Int)) = false := decide_eq_false h1
      by_cases h2 : v = 1 ∨ v = 2 ∨ v = 4
      · obtain ⟨y, rfl⟩ := Int.eq_ofNat_of_zero_le (show 0 ≤ v by omega)
        have hW := Lib.hid (isWidth_any y (by omega) w)
        by_cases h3 : a < 0
        · clear hok h2
          go_enter Try.func28, Try.ntmps28
          go_wp2_with (go_at_call 53; refine hW.out.mono ?_; rintro e w1 ⟨rfl, rfl⟩)
          go_ret2
          exact ⟨rfl, rfl⟩
        · have h4 : decide ((n : Int) - (y : Int) < a) = true := decide_eq_true (by omega)
          have h5 : y ≤ 4 := by omega
          clear hok h2
          go_enter Try.func28, Try.ntmps28
          go_wp2_with (go_at_call 53; refine hW.out.mono ?_; rintro e w1 ⟨rfl, rfl⟩)
          go_ret2
          exact ⟨rfl, rfl⟩
      · have hW := Lib.hid (isWidth_no v (by omega) (by omega) (by omega) w)
        clear hok h2
        go_enter Try.func28, Try.ntmps28
        go_wp2_with (go_at_call 53; refine hW.out.mono ?_; rintro e w1 ⟨rfl, rfl⟩)
        go_ret2
        exact ⟨rfl, rfl⟩
set_option maxHeartbeats 1000000 in
theorem specReadLittle_any (g c n : Nat) (a v : Int) (f : Nat → Int) (w : World) (hf : ∀ i, 0 ≤ f i ∧ f i ≤ 255) (hn : n ≤ 1048576) (hown : Own w g n fun i => .int .u8 (f i)) :
    Calls Try.prog 27 #[.slice (some ⟨g, 0, none⟩) n c, .int .i64 a, .int .i64 v] w fun e w' => e = .returned (.tuple #[.int .i64 (rlV f n a v), .bool (rlOk n a v)]) ∧ w = w' := by
  by_cases hok : n ≤ 4000 ∧ (v = 1 ∨ v = 2 ∨ v = 4) ∧ 0 ≤ a ∧ a + v ≤ n
  · have e1 : rlOk n a v = true := by simpa [rlOk] using hok
    obtain ⟨x, rfl⟩ := Int.eq_ofNat_of_zero_le (show 0 ≤ a by omega)
    obtain ⟨y, rfl⟩ := Int.eq_ofNat_of_zero_le (show 0 ≤ v by omega)
    rw [rlV, e1, if_pos rfl]
    have hW := Lib.hid (scWidth_any y (by omega) w)
    have hR := Lib.hid (scRead_any g x y c n f w hf (by omega) (by omega) (by omega) hown)
    have h0 : (n : Int) ≤ 4000 := by omega
    have h1 : (x : Int) ≤ (n : Int) - (y : Int) := by omega
    have h2 : y ≤ 4 := by omega
    clear hown hf e1 hok
    go_enter Try.func27, Try.ntmps27
    go_wp2_with (first | (go_at_call 43; refine (l1In_yes _ _ _ _ (by omega) (by omega)).mono ?_; rintro e w1 ⟨rfl, rfl⟩) | (go_at_call 43; refine (l1In_no _ _ _ _ (by omega)).mono ?_; rintro e w1 ⟨rfl, rfl⟩) | (go_at_call 51; refine hW.out.mono ?_; rintro e w1 ⟨rfl, rfl⟩) | (go_at_call 52; refine hR.out.mono ?_; rintro e w1 ⟨rfl, rfl⟩) | go_in)
    go_ret2
    exact ⟨rfl, rfl⟩
  · have e1 : rlOk n a v = false := by simpa [rlOk] using hok
    rw [rlV, e1, if_neg (by simp)]
    clear hown hf e1
    by_cases h1 : 4000 < (n : Int)
    · have hd0 : decide ((n : Int) ≤ 4000) = false := decide_eq_false (by omega)
      clear hok
      go_enter Try.func27, Try.ntmps27
      go_wp2_with (first | fail | go_in)
      go_ret2
      exact ⟨rfl, rfl⟩
    · have hd0 : (n : Int) ≤ 4000 := by omega
      by_cases h2 : v = 1 ∨ v = 2 ∨ v = 4
      · obtain ⟨y, rfl⟩ := Int.eq_ofNat_of_zero_le (show 0 ≤ v by omega)
        have hW := Lib.hid (scWidth_any y (by omega) w)
        have h4 : a < 0 ∨ (n : Int) - (y : Int) < a := by omega
        have h5 : y ≤ 4 := by omega
        clear hok h2
        go_enter Try.func27, Try.ntmps27
        go_wp2_with (first | (go_at_call 43; refine (l1In_yes _ _ _ _ (by omega) (by omega)).mono ?_; rintro e w1 ⟨rfl, rfl⟩) | (go_at_call 43; refine (l1In_no _ _ _ _ (by omega)).mono ?_; rintro e w1 ⟨rfl, rfl⟩) | (go_at_call 51; refine hW.out.mono ?_; rintro e w1 ⟨rfl, rfl⟩) | go_in)
        go_ret2
        exact ⟨rfl, rfl⟩
      · have hW := Lib.hid (scWidth_no v (by omega) (by omega) (by omega) w)
        clear hok h2
        go_enter Try.func27, Try.ntmps27
        go_wp2_with (first | (go_at_call 51; refine hW.out.mono ?_; rintro e w1 ⟨rfl, rfl⟩) | go_in)
        go_ret2
        exact ⟨rfl, rfl⟩
set_option maxHeartbeats 1000000 in
theorem fnExactReadLittle_walk (w : World) (A : Option Addr) (n c : Nat) (f : Nat → Int) (hf : ∀ i, 0 ≤ f i ∧ f i ≤ 255) (hn : n ≤ maxLen) (hr : Row w w.heap.size A n fun i => .int .u8 (f i))
    (a : Int) (_ : -9223372036854775808 ≤ a) (_ : a ≤ 9223372036854775807) (v : Int) (_ : -9223372036854775808 ≤ v) (_ : v ≤ 9223372036854775807) :
    Calls Try.prog 8 #[.slice A n c, .int .i64 a, .int .i64 v] w fun e w' => e = .returned (.bool true) ∧ Below w.heap.size w w' := by
  unfold maxLen at hn
  have HF := Lib.hid hf
  have HR := Lib.hid hr
  clear hf hr
  by_cases hbig : 1048576 < (n : Int)
  · go_enter Try.func8, Try.ntmps8
    go_wp2
    go_ret
    exact ⟨rfl, Below.refl _ _⟩
  · go_enter Try.func8, Try.ntmps8
    go_wp2_with fail
    refine (toByteS_any A n c f _ (by omega) HR.out).mono ?_
    rintro e w1 ⟨rfl, hr1, hb1⟩
    have O1 := Lib.hid (Own.of_row hr1)
    have B1 := Lib.hid hb1
    clear hr1 hb1
    go_wp2_with fail
    refine (specReadLittle_any _ _ n _ _ f _ HF.out (by omega) O1.out).mono ?_
    rintro e w2 ⟨rfl, rfl⟩
    go_wp2_with fail
    refine (toByteS_any A n c f _ (by omega) ((HR.out.below B1.out).more B1.out.size)).mono ?_
    rintro e w2 ⟨rfl, hr2, hb2⟩
    have O2 := Lib.hid (Own.of_row hr2)
    have B2 := Lib.hid (B1.out.trans (hb2.mono B1.out.size))
    clear hr2 hb2
    go_wp2_with fail
    refine (implReadLittle_any _ _ n _ _ f _ HF.out (by omega) O2.out).mono ?_
    rintro e w3 ⟨rfl, rfl⟩
    go_wp2_with fail
    refine (toByteS_any A n c f _ (by omega) ((HR.out.below B2.out).more B2.out.size)).mono ?_
    rintro e w3 ⟨rfl, hr3, hb3⟩
    have O3 := Lib.hid (Own.of_row hr3)
    have O2' := Lib.hid (O2.out.later hb3)
    have B3 := Lib.hid (B2.out.trans (hb3.mono B2.out.size))
    clear hr3 hb3
    go_wp2_with fail
    refine (eqByteS_any _ _ _ _ n f _ _ _ (by omega) O2'.out.row O3.out.row).mono ?_
    rintro e w4 ⟨rfl, hb4⟩
    have B4 := Lib.hid (B3.out.trans (hb4.mono B3.out.size))
    clear hb4
    go_wp2_with fail
    go_ret
    exact ⟨rfl, B4.out⟩
end Go.Proofs.Ytfddfhobkfkmiaa
