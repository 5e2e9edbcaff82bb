/-
  AddValues, the program's and the reference's: both return the sum if no sum on the way is too great; the walk of FnExactAddValues.
-/
import Derived.Test.YtkcigdcjpnojnaaValue
import Derived.Test.YtkcigdcjpnojnaaAll
import Derived.Test.YtkcigdcjpnojnaaIntS
namespace Go.Proofs.Ytkcigdcjpnojnaa
open Go.RowKit
/-- The sum of the first k. -/
def sumV (f : Nat → Int) : Nat → Int
  | 0 => 0
  | k + 1 => sumV f k + f k
def smallB (f : Nat → Int) (i : Nat) : Bool := decide (sumV f (i + 1) ≤ 1000000000)
def addOk (f : Nat → Int) (n : Nat) : Bool := decide (n ≤ 40) && allV (inB f 0 1000000000) n && allV (smallB f) n
def addV (f : Nat → Int) (n : Nat) : Int := if addOk f n then sumV f n else 0
theorem addNo {f : Nat → Int} {n : Nat} (h : addOk f n = false) (w : World) : (fun (e : Ending) w' => e = .returned (.tuple #[.int .i64 0, .bool false]) ∧ w = w') = (fun (e : Ending) w' => e = .returned (.tuple #[.int .i64 (addV f n), .bool (addOk f n)]) ∧ w = w') := by
  rw [addV, h]; rfl
theorem addYes {f : Nat → Int} {n : Nat} (h : addOk f n = true) : Ending.returned (.tuple #[.int .i64 (sumV f n), .bool true]) = .returned (.tuple #[.int .i64 (addV f n), .bool (addOk f n)]) := by
  rw [addV, h]; rfl
theorem addNo' {f : Nat → Int} {n : Nat} (h : addOk f n = false) : Ending.returned (.tuple #[.int .i64 0, .bool false]) = .returned (.tuple #[.int .i64 (addV f n), .bool (addOk f n)]) := by
  rw [addV, h]; rfl
set_option maxHeartbeats 1000000 in
theorem specAddValues_any (g c n : Nat) (f : Nat → Int) (w : World) (hf : ∀ i, -9223372036854775808 ≤ f i ∧ f i ≤ 9223372036854775807) (hn : n ≤ 1048576) (hown : Own w g n fun i => .int .i64 (f i)) :
    Calls Try.prog 17 #[.slice (some ⟨g, 0, none⟩) n c] w fun e w' => e = .returned (.tuple #[.int .i64 (addV f n), .bool (addOk f n)]) ∧ w = w' := by
  have HL := Lib.hid (l1All_any g c n f 0 1000000000 w hf hn hown)
  have HC := Lib.hid hown
  clear hown
  by_cases h40 : n ≤ 40
  · have hd40 : decide (40 < (n : Int)) = false := decide_eq_false (by omega)
    by_cases hal : allV (inB f 0 1000000000) n = true
    · rw [hal] at HL
      have HAL := Lib.hid hal
      clear hal hf
      go_enter Try.func17, Try.ntmps17
      go_wp2_with (go_at_call 35; refine HL.out.mono ?_; rintro e w1 ⟨rfl, rfl⟩)
      go_loop [4, 6, 17] (fun x _ i => ∃ k : Nat, k ≤ n ∧ x = .int .i64 (sumV f k) ∧ i = .int .i64 k ∧ allV (smallB f) k = true ∧ 0 ≤ sumV f k ∧ sumV f k ≤ 1000000000) (fun _ _ i => n - (intOf i).toNat)
      case atStart => exact ⟨0, Nat.zero_le _, rfl, rfl, rfl, by simp [sumV], by simp [sumV]⟩
      case round =>
        obtain ⟨k, hk, rfl, rfl, hsm, hs0, hs9⟩ := hrel
        have HS := Lib.hid hsm
        clear hsm
        by_cases hlt : k < n
        · have hc := HC.out.cell hlt
          have hfb : 0 ≤ f k ∧ f k ≤ 1000000000 := inB_iff.1 <| allV_at HAL.out k hlt
          obtain ⟨hf0, hf9⟩ := hfb
          by_cases hb : 1000000000 < sumV f k + f k
          · have HF : Hid (addOk f n = false) := by
              show addOk f n = false
              rw [addOk, allV_no (p := smallB f) (k := k) (decide_eq_false (by simp only [sumV]; omega)) hlt, Bool.and_false]
            go_wp2
            go_ret2
            exact ⟨addNo' HF.out, rfl⟩
          · go_wp2
            go_round
            case rel => exact ⟨k + 1, by omega, rfl, by go_num, by rw [allV, HS.out]; exact decide_eq_true (by simp only [sumV]; omega), by simp only [sumV]; omega, by simp only [sumV]; omega⟩
            case measure => simp [intOf]; omega
        · have HK := Lib.hid (show n = k by omega)
          have h40' := Lib.hid h40
          clear h40
          go_wp2
          go_ret2
          obtain rfl := HK.out
          exact ⟨addYes (by rw [addOk, HAL.out, HS.out, decide_eq_true h40'.out]; rfl), rfl⟩
    · have hal' : allV (inB f 0 1000000000) n = false := by simpa using hal
      rw [hal'] at HL
      rw [← addNo (by rw [addOk, hal', Bool.and_false, Bool.false_and]) w]
      clear hal hal' hf
      go_enter Try.func17, Try.ntmps17
      go_wp2_with (go_at_call 35; refine HL.out.mono ?_; rintro e w1 ⟨rfl, rfl⟩)
      go_ret2
      exact ⟨rfl, rfl⟩
  · have hd40 : decide (40 < (n : Int)) = true := decide_eq_true (by omega)
    rw [← addNo (by rw [addOk, decide_eq_false h40, Bool.false_and, Bool.false_and]) w]
    clear hf
    go_enter Try.func17, Try.ntmps17
    go_wp2_with fail
    go_ret2
    exact ⟨rfl, rfl⟩
set_option maxHeartbeats 1000000 in
theorem implAddValues_any (g c n : Nat) (f : Nat → Int) (w : World) (hf : ∀ i, -9223372036854775808 ≤ f i ∧ f i ≤ 9223372036854775807) (hn : n ≤ 1048576) (hown : Own w g n fun i => .int .i64 (f i)) :
    Calls Try.prog 19 #[.slice (some ⟨g, 0, none⟩) n c] w fun e w' => e = .returned (.tuple #[.int .i64 (addV f n), .bool (addOk f n)]) ∧ w = w' := by
  have HC := Lib.hid hown
  have HFB := Lib.hid hf
  clear hown hf
  by_cases h40 : n ≤ 40
  · have hd40 : decide (40 < (n : Int)) = false := decide_eq_false (by omega)
    go_enter Try.func19, Try.ntmps19
    go_wp2_with fail
    go_loop [5, 14] (fun _ i => ∃ k : Nat, k ≤ n ∧ i = .int .i64 k ∧ allV (inB f 0 1000000000) k = true) (fun _ i => n - (intOf i).toNat)
    case atStart => exact ⟨0, Nat.zero_le _, rfl, rfl⟩
    case round =>
      obtain ⟨k, hk, rfl, hal⟩ := hrel
      have HA := Lib.hid hal
      clear hal
      by_cases hlt : k < n
      · have hc := HC.out.cell hlt
        obtain ⟨hf0, hf9⟩ := HFB.out k
        by_cases hin : 0 ≤ f k ∧ f k ≤ 1000000000
        · obtain ⟨h1, h2⟩ := hin
          go_wp2_with (first | (go_at_call 30; refine (isValue_yes _ _ (by omega) (by omega)).mono ?_; rintro e w1 ⟨rfl, rfl⟩) | (go_at_call 30; refine (isValue_no _ _ (by omega)).mono ?_; rintro e w1 ⟨rfl, rfl⟩))
          go_round
          case rel => exact ⟨k + 1, by omega, by go_num, by rw [allV, HA.out]; exact decide_eq_true ⟨h1, h2⟩⟩
          case measure => simp [intOf]; omega
        · have h1 : f k < 0 ∨ 1000000000 < f k := by omega
          clear hin
          have HF : Hid (addOk f n = false) := by
            show addOk f n = false
            rw [addOk, allV_no (p := inB f 0 1000000000) (k := k) (decide_eq_false (by omega)) hlt, Bool.and_false, Bool.false_and]
          go_wp2_with (first | (go_at_call 30; refine (isValue_yes _ _ (by omega) (by omega)).mono ?_; rintro e w1 ⟨rfl, rfl⟩) | (go_at_call 30; refine (isValue_no _ _ (by omega)).mono ?_; rintro e w1 ⟨rfl, rfl⟩))
          go_ret2
          exact ⟨addNo' HF.out, rfl⟩
      · have HK := Lib.hid (show k = n by omega)
        have HAL : Hid (allV (inB f 0 1000000000) n = true) := by
          show allV _ n = true
          rw [← HK.out]; exact HA.out
        go_wp2_with fail
        go_loop [6, 8, 24] (fun x _ i => ∃ k : Nat, k ≤ n ∧ x = .int .i64 (sumV f k) ∧ i = .int .i64 k ∧ allV (smallB f) k = true ∧ 0 ≤ sumV f k ∧ sumV f k ≤ 1000000000) (fun _ _ i => n - (intOf i).toNat)
        case atStart => exact ⟨0, Nat.zero_le _, rfl, rfl, rfl, by simp [sumV], by simp [sumV]⟩
        case round =>
          obtain ⟨j, hj, rfl, rfl, hsm, hs0, hs9⟩ := hrel
          have HS := Lib.hid hsm
          clear hsm
          by_cases hlt : j < n
          · have hc := HC.out.cell hlt
            have hfb : 0 ≤ f j ∧ f j ≤ 1000000000 := inB_iff.1 <| allV_at HAL.out j hlt
            obtain ⟨hf0, hf9⟩ := hfb
            by_cases hb : 1000000000 < sumV f j + f j
            · have HF : Hid (addOk f n = false) := by
                show addOk f n = false
                rw [addOk, allV_no (p := smallB f) (k := j) (decide_eq_false (by simp only [sumV]; omega)) hlt, Bool.and_false]
              go_wp2
              go_ret2
              exact ⟨addNo' HF.out, rfl⟩
            · go_wp2
              go_round
              case rel => exact ⟨j + 1, by omega, rfl, by go_num, by rw [allV, HS.out]; exact decide_eq_true (by simp only [sumV]; omega), by simp only [sumV]; omega, by simp only [sumV]; omega⟩
              case measure => simp [intOf]; omega
          · have HJ := Lib.hid (show n = j by omega)
            have h40' := Lib.hid h40
            clear h40
            go_wp2
            go_ret2
            obtain rfl := HJ.out
            exact ⟨addYes (by rw [addOk, HAL.out, HS.out, decide_eq_true h40'.out]; rfl), rfl⟩
  · have hd40 : decide (40 < (n : Int)) = true := decide_eq_true (by omega)
    rw [← addNo (by rw [addOk, decide_eq_false h40, Bool.false_and, Bool.false_and]) w]
    go_enter Try.func19, Try.ntmps19
    go_wp2_with fail
    go_ret2
    exact ⟨rfl, rfl⟩
set_option maxHeartbeats 1000000 in
theorem fnExactAddValues_walk (w : World) (A : Option Addr) (n c : Nat) (f : Nat → Int) (hf : ∀ i, -9223372036854775808 ≤ f i ∧ f i ≤ 9223372036854775807) (hn : n ≤ maxLen) (hr : Row w w.heap.size A n fun i => .int .i64 (f i))
     :
    Calls Try.prog 6 #[.slice A n c] w fun e w' => e = .returned (.bool true) ∧ Below w.heap.size w w' := by
  unfold maxLen at hn
  have HF := Lib.hid hf
  have HR := Lib.hid hr
  clear hf hr
  by_cases hbig : 1048576 < (n : Int)
  · go_enter Try.func6, Try.ntmps6
    go_wp2
    go_ret
    exact ⟨rfl, Below.refl _ _⟩
  · go_enter Try.func6, Try.ntmps6
    go_wp2_with fail
    refine (toIntS_any A n c f _ (by omega) HR.out).mono ?_
    rintro e w1 ⟨rfl, hr1, hb1⟩
    have O1 := Lib.hid (Own.of_row hr1)
    have B1 := Lib.hid hb1
    clear hr1 hb1
    go_wp2_with fail
    refine (specAddValues_any _ _ n f _ HF.out (by omega) O1.out).mono ?_
    rintro e w2 ⟨rfl, rfl⟩
    go_wp2_with fail
    refine (toIntS_any A n c f _ (by omega) ((HR.out.below B1.out).more B1.out.size)).mono ?_
    rintro e w2 ⟨rfl, hr2, hb2⟩
    have O2 := Lib.hid (Own.of_row hr2)
    have B2 := Lib.hid (B1.out.trans (hb2.mono B1.out.size))
    clear hr2 hb2
    go_wp2_with fail
    refine (implAddValues_any _ _ n f _ HF.out (by omega) O2.out).mono ?_
    rintro e w3 ⟨rfl, rfl⟩
    go_wp2_with fail
    refine (toIntS_any A n c f _ (by omega) ((HR.out.below B2.out).more B2.out.size)).mono ?_
    rintro e w3 ⟨rfl, hr3, hb3⟩
    have O3 := Lib.hid (Own.of_row hr3)
    have O2' := Lib.hid (O2.out.later hb3)
    have B3 := Lib.hid (B2.out.trans (hb3.mono B2.out.size))
    clear hr3 hb3
    go_wp2_with fail
    refine (eqIntS_any _ _ _ _ n f _ _ _ (by omega) O2'.out.row O3.out.row).mono ?_
    rintro e w4 ⟨rfl, hb4⟩
    have B4 := Lib.hid (B3.out.trans (hb4.mono B3.out.size))
    clear hb4
    go_wp2_with fail
    go_ret
    exact ⟨rfl, B4.out⟩
end Go.Proofs.Ytkcigdcjpnojnaa
