/-
  LineOf, the program's and the reference's: both return the line and the column; the walk of FnExactLineOf.
-/
import Derived.Test.YtdnncmhfmpiocaaLinesImpl
import Derived.Test.YtdnncmhfmpiocaaIn
namespace Go.Proofs.Ytdnncmhfmpiocaa
open Go.RowKit
set_option maxHeartbeats 1000000 in
theorem specLineOfNO (s : ByteArray) (x : Int) (_ : -9223372036854775808 ≤ x) (_ : x ≤ 9223372036854775807) (w : World) (hs : (s.size : Int) ≤ 1048576) (h : 6000 < (s.size : Int) ∨ x < 0 ∨ (s.size : Int) < x) :
    Calls Try.prog 26 #[.string s, .int .i64 x] w fun e w' => e = .returned (.tuple #[.int .i64 0, .int .i64 0, .bool false]) ∧ w = w' := by
  rcases (show 6000 < (s.size : Int) ∨ ((s.size : Int) ≤ 6000 ∧ x < 0) ∨ ((s.size : Int) ≤ 6000 ∧ 0 ≤ x ∧ (s.size : Int) < x) by omega) with h1 | ⟨h1, h2⟩ | ⟨h1, h2, h3⟩
  · have hd : decide ((s.size : Int) ≤ 6000) = false := by simp; omega
    clear h
    go_enter Try.func26, Try.ntmps26
    go_wp2_with (first | (go_at_call 32; refine (l1In_yes _ _ _ _ (by omega) (by omega)).mono ?_; rintro e w1 ⟨rfl, rfl⟩) | (go_at_call 32; refine (l1In_no _ _ _ _ (by omega)).mono ?_; rintro e w1 ⟨rfl, rfl⟩) | go_in)
    go_ret3
    exact ⟨rfl, rfl⟩
  · clear h
    go_enter Try.func26, Try.ntmps26
    go_wp2_with (first | (go_at_call 32; refine (l1In_yes _ _ _ _ (by omega) (by omega)).mono ?_; rintro e w1 ⟨rfl, rfl⟩) | (go_at_call 32; refine (l1In_no _ _ _ _ (by omega)).mono ?_; rintro e w1 ⟨rfl, rfl⟩) | go_in)
    go_ret3
    exact ⟨rfl, rfl⟩
  · clear h
    go_enter Try.func26, Try.ntmps26
    go_wp2_with (first | (go_at_call 32; refine (l1In_yes _ _ _ _ (by omega) (by omega)).mono ?_; rintro e w1 ⟨rfl, rfl⟩) | (go_at_call 32; refine (l1In_no _ _ _ _ (by omega)).mono ?_; rintro e w1 ⟨rfl, rfl⟩) | go_in)
    go_ret3
    exact ⟨rfl, rfl⟩
set_option maxHeartbeats 1000000 in
theorem specLineOfYES (s : ByteArray) (a : Nat) (w : World) (hs : s.size ≤ 6000) (ha : a ≤ s.size) :
    Calls Try.prog 26 #[.string s, .int .i64 a] w fun e w' => e = .returned (.tuple #[.int .i64 (nlC s a + 1), .int .i64 (a - nlL s a), .bool true]) ∧ w = w' := by
  have hC := nlC_bd s a
  have hL := nlL_bd s a
  go_enter Try.func26, Try.ntmps26
  go_wp2_with (first | (go_at_call 32; refine (l1In_yes _ _ _ _ (by omega) (by omega)).mono ?_; rintro e w1 ⟨rfl, rfl⟩) | (go_at_call 32; refine (l1In_no _ _ _ _ (by omega)).mono ?_; rintro e w1 ⟨rfl, rfl⟩) | (go_at_call 33; refine (erLine_any s a _ (by omega) (by omega)).mono ?_; rintro e w1 ⟨rfl, rfl⟩) | (go_at_call 34; refine (lineOf_any s a _ (by omega) (by omega)).mono ?_; rintro e w1 ⟨rfl, rfl⟩) | go_in)
  go_ret3
  exact ⟨rfl, rfl⟩
set_option maxHeartbeats 1000000 in
theorem implLineOfNO (s : ByteArray) (x : Int) (_ : -9223372036854775808 ≤ x) (_ : x ≤ 9223372036854775807) (w : World) (hs : (s.size : Int) ≤ 1048576) (h : 6000 < (s.size : Int) ∨ x < 0 ∨ (s.size : Int) < x) :
    Calls Try.prog 27 #[.string s, .int .i64 x] w fun e w' => e = .returned (.tuple #[.int .i64 0, .int .i64 0, .bool false]) ∧ w = w' := by
  rcases (show 6000 < (s.size : Int) ∨ ((s.size : Int) ≤ 6000 ∧ x < 0) ∨ ((s.size : Int) ≤ 6000 ∧ 0 ≤ x ∧ (s.size : Int) < x) by omega) with h1 | ⟨h1, h2⟩ | ⟨h1, h2, h3⟩
  · have hd : decide ((s.size : Int) ≤ 6000) = false := by simp; omega
    clear h
    go_enter Try.func27, Try.ntmps27
    go_wp2_with (first | (go_at_call 32; refine (l1In_yes _ _ _ _ (by omega) (by omega)).mono ?_; rintro e w1 ⟨rfl, rfl⟩) | (go_at_call 32; refine (l1In_no _ _ _ _ (by omega)).mono ?_; rintro e w1 ⟨rfl, rfl⟩) | go_in)
    go_ret3
    exact ⟨rfl, rfl⟩
  · clear h
    go_enter Try.func27, Try.ntmps27
    go_wp2_with (first | (go_at_call 32; refine (l1In_yes _ _ _ _ (by omega) (by omega)).mono ?_; rintro e w1 ⟨rfl, rfl⟩) | (go_at_call 32; refine (l1In_no _ _ _ _ (by omega)).mono ?_; rintro e w1 ⟨rfl, rfl⟩) | go_in)
    go_ret3
    exact ⟨rfl, rfl⟩
  · clear h
    go_enter Try.func27, Try.ntmps27
    go_wp2_with (first | (go_at_call 32; refine (l1In_yes _ _ _ _ (by omega) (by omega)).mono ?_; rintro e w1 ⟨rfl, rfl⟩) | (go_at_call 32; refine (l1In_no _ _ _ _ (by omega)).mono ?_; rintro e w1 ⟨rfl, rfl⟩) | go_in)
    go_ret3
    exact ⟨rfl, rfl⟩
set_option maxHeartbeats 1000000 in
theorem implLineOfYES (s : ByteArray) (a : Nat) (w : World) (hs : s.size ≤ 6000) (ha : a ≤ s.size) :
    Calls Try.prog 27 #[.string s, .int .i64 a] w fun e w' => e = .returned (.tuple #[.int .i64 (nlC s a + 1), .int .i64 (a - nlL s a), .bool true]) ∧ w = w' := by
  have hC := nlC_bd s a
  have hL := nlL_bd s a
  go_enter Try.func27, Try.ntmps27
  go_wp2_with (first | (go_at_call 32; refine (l1In_yes _ _ _ _ (by omega) (by omega)).mono ?_; rintro e w1 ⟨rfl, rfl⟩) | (go_at_call 32; refine (l1In_no _ _ _ _ (by omega)).mono ?_; rintro e w1 ⟨rfl, rfl⟩) | (go_at_call 33; refine (erLine_any s a _ (by omega) (by omega)).mono ?_; rintro e w1 ⟨rfl, rfl⟩) | (go_at_call 34; refine (lineOf_any s a _ (by omega) (by omega)).mono ?_; rintro e w1 ⟨rfl, rfl⟩) | go_in)
  go_ret3
  exact ⟨rfl, rfl⟩
set_option maxHeartbeats 2000000 in
theorem fnExactLineOf_walk (s : ByteArray) (hs : s.size ≤ maxLen) (x : Int) (_ : -9223372036854775808 ≤ x) (_ : x ≤ 9223372036854775807) (w : World) :
    Calls Try.prog 8 #[.string s, .int .i64 x] w fun e w' => e = .returned (.bool true) ∧ Below w.heap.size w w' := by
  unfold maxLen at hs
  rcases (show 1048576 < (s.size : Int) ∨ ((s.size : Int) ≤ 1048576 ∧ (6000 < (s.size : Int) ∨ x < 0 ∨ (s.size : Int) < x)) ∨ ((s.size : Int) ≤ 6000 ∧ 0 ≤ x ∧ x ≤ (s.size : Int)) by omega) with h | ⟨h, h1⟩ | ⟨h, h1, h2⟩
  · go_enter Try.func8, Try.ntmps8
    go_wp2_with fail
    go_ret
    exact ⟨rfl, Below.refl _ _⟩
  · go_enter Try.func8, Try.ntmps8
    go_wp2_with (first | (go_at_call 26; refine (specLineOfNO s x (by omega) (by omega) _ (by omega) h1).mono ?_; rintro e w1 ⟨rfl, rfl⟩) | (go_at_call 27; refine (implLineOfNO s x (by omega) (by omega) _ (by omega) h1).mono ?_; rintro e w1 ⟨rfl, rfl⟩))
    go_ret
    exact ⟨rfl, Below.refl _ _⟩
  · obtain ⟨a, rfl⟩ : ∃ a : Nat, x = a := ⟨x.toNat, by omega⟩
    go_enter Try.func8, Try.ntmps8
    go_wp2_with (first | (go_at_call 26; refine (specLineOfYES s a _ (by omega) (by omega)).mono ?_; rintro e w1 ⟨rfl, rfl⟩) | (go_at_call 27; refine (implLineOfYES s a _ (by omega) (by omega)).mono ?_; rintro e w1 ⟨rfl, rfl⟩))
    go_ret
    exact ⟨rfl, Below.refl _ _⟩
end Go.Proofs.Ytdnncmhfmpiocaa
