/-
  FirstBad, the program's and the reference's: both return where the scan over plain bytes stops; the walk of FnExactFirstBad.
-/
import Derived.Test.YtfddfhobkfkmiaaPlain
import Derived.Test.YtfddfhobkfkmiaaIn
namespace Go.Proofs.Ytfddfhobkfkmiaa
open Go.RowKit
/-- Where the plain bytes from the start end. -/
def badAt (s : ByteArray) : Nat := stop (fun i => plainB (byt s i)) 0 s.size
set_option maxHeartbeats 400000 in
theorem implFirstBad_yes (s : ByteArray) (w : World) (hs : s.size ≤ 4000) :
    Calls Try.prog 20 #[.string s] w fun e w' => e = .returned (.tuple #[.int .i64 (badAt s), .bool true]) ∧ w = w' := by
  go_enter Try.func20, Try.ntmps20
  go_wp2
  go_loop [4] (fun i => ∃ k : Nat, k ≤ s.size ∧ i = .int .i64 k ∧ badAt s = stop (fun i => plainB (byt s i)) k (s.size - k)) (fun i => s.size - (intOf i).toNat)
  case atStart => exact ⟨0, Nat.zero_le _, rfl, rfl⟩
  case round =>
    obtain ⟨k, hk, rfl, hb⟩ := hrel
    have HB := Lib.hid hb
    clear hb
    by_cases hlt : k < s.size
    · by_cases hp : plainB (byt s k) = true
      · have hp' := hp
        rw [byt_eq hlt] at hp'
        have HP := Lib.hid hp
        clear hp
        go_wp2_with (go_at_call 48; refine (isPlain_yes _ _ hp').mono ?_; rintro e w1 ⟨rfl, rfl⟩)
        go_round
        case rel => exact ⟨k + 1, by omega, by go_num, by rw [HB.out, stop_go hlt HP.out]⟩
        case measure => simp [intOf]; omega
      · have hp' : plainB (s[k].toNat : Int) = false := by rw [← byt_eq hlt]; simpa using hp
        have HP := Lib.hid hp
        clear hp
        go_wp2_with (go_at_call 48; refine (isPlain_no _ _ hp').mono ?_; rintro e w1 ⟨rfl, rfl⟩)
        go_ret2
        exact ⟨by rw [HB.out, stop_no _ (by simpa using HP.out)]; rfl, rfl⟩
    · go_wp2_with fail
      go_ret2
      refine ⟨?_, rfl⟩
      rw [HB.out, show s.size - k = 0 by omega, stop_end, show k = s.size by omega]; rfl
set_option maxHeartbeats 400000 in
theorem scBad_any (s : ByteArray) (w : World) (hs : s.size ≤ 4000) :
    Calls Try.prog 47 #[.string s] w fun e w' => e = .returned (.int .i64 (badAt s)) ∧ w = w' := by
  go_enter Try.func47, Try.ntmps47
  go_wp2
  go_loop [3] (fun i => ∃ k : Nat, k ≤ s.size ∧ i = .int .i64 k ∧ badAt s = stop (fun i => plainB (byt s i)) k (s.size - k)) (fun i => s.size - (intOf i).toNat)
  case atStart => exact ⟨0, Nat.zero_le _, rfl, rfl⟩
  case round =>
    obtain ⟨k, hk, rfl, hb⟩ := hrel
    have HB := Lib.hid hb
    clear hb
    by_cases hlt : k < s.size
    · by_cases hp : plainB (byt s k) = true
      · have hp' := hp
        rw [byt_eq hlt] at hp'
        have HP := Lib.hid hp
        clear hp
        go_wp2_with (go_at_call 64; refine (scPlain_yes _ _ hp').mono ?_; rintro e w1 ⟨rfl, rfl⟩)
        go_round
        case rel => exact ⟨k + 1, by omega, by go_num, by rw [HB.out, stop_go hlt HP.out]⟩
        case measure => simp [intOf]; omega
      · have hp' : plainB (s[k].toNat : Int) = false := by rw [← byt_eq hlt]; simpa using hp
        have HP := Lib.hid hp
        clear hp
        go_wp2_with (go_at_call 64; refine (scPlain_no _ _ hp').mono ?_; rintro e w1 ⟨rfl, rfl⟩)
        go_ret
        exact ⟨by rw [HB.out, stop_no _ (by simpa using HP.out)]; rfl, rfl⟩
    · have hd : decide (k < s.size) = false := decide_eq_false hlt
      go_wp2_with fail
      go_ret
      refine ⟨?_, rfl⟩
      rw [HB.out, show s.size - k = 0 by omega, stop_end]; rfl
theorem fnExactFirstBad_walk (s : ByteArray) (hs : s.size ≤ maxLen) (w : World) :
    Calls Try.prog 5 #[.string s] w fun e w' => e = .returned (.bool true) ∧ Below w.heap.size w w' := by
  unfold maxLen at hs
  have hcases : 1048576 < (s.size : Int) ∨ ((s.size : Int) ≤ 1048576 ∧ 4000 < (s.size : Int)) ∨ (s.size : Int) ≤ 4000 := by omega
  rcases hcases with h | ⟨h1, h2⟩ | h
  · go_enter Try.func5, Try.ntmps5
    go_wp2
    go_ret
    exact ⟨rfl, Below.refl _ _⟩
  · have hd : decide ((s.size : Int) ≤ 4000) = false := decide_eq_false (by omega)
    go_enter Try.func5, Try.ntmps5
    go_wp2
    go_ret
    exact ⟨rfl, Below.refl _ _⟩
  · go_enter Try.func5, Try.ntmps5
    go_wp2_with (first | (go_at_call 20; refine (implFirstBad_yes _ _ (by omega)).mono ?_; rintro e w1 ⟨rfl, rfl⟩) | (go_at_call 47; refine (scBad_any _ _ (by omega)).mono ?_; rintro e w1 ⟨rfl, rfl⟩) | go_in)
    go_ret
    exact ⟨rfl, Below.refl _ _⟩
end Go.Proofs.Ytfddfhobkfkmiaa
