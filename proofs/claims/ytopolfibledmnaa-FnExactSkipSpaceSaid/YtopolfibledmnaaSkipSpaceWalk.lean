/-
  The walk of FnExactSkipSpace: it returns true and leaves old memory as it was.
-/
import Derived.Test.YtopolfibledmnaaSkip
import Derived.Test.YtopolfibledmnaaScBytes
namespace Go.Proofs.Ytopolfibledmnaa
open Go.RowKit
set_option maxHeartbeats 1000000 in
theorem fnExactSkipSpace_walk (s : ByteArray) (hs : s.size ≤ maxLen) (a : Int) (_ : -9223372036854775808 ≤ a) (_ : a ≤ 9223372036854775807) (w : World) :
    Calls Try.prog 3 #[.string s, .int .i64 a] w fun e w' => e = .returned (.bool true) ∧ Below w.heap.size w w' := by
  unfold maxLen at hs
  rcases (show 1048576 < (s.size : Int) ∨ ((s.size : Int) ≤ 1048576 ∧ 4000 < (s.size : Int)) ∨ ((s.size : Int) ≤ 4000 ∧ a < 0) ∨ ((s.size : Int) ≤ 4000 ∧ 0 ≤ a ∧ (s.size : Int) < a) ∨ ((s.size : Int) ≤ 4000 ∧ 0 ≤ a ∧ a ≤ s.size) by omega) with h | ⟨h1, h2⟩ | ⟨h1, h2⟩ | ⟨h1, h2, h3⟩ | ⟨h1, h2, h3⟩
  · go_enter Try.func3, Try.ntmps3
    go_wp2
    go_ret
    exact ⟨rfl, Below.refl _ _⟩
  · have hd : decide ((s.size : Int) ≤ 4000) = false := decide_eq_false (by omega)
    go_enter Try.func3, Try.ntmps3
    go_wp2_with (first | (go_at_call 10; refine (scBytes_yes _ _ (by omega)).mono ?_; rintro e w1 ⟨rfl, rfl⟩) | (go_at_call 10; refine (scBytes_no _ _ (by omega)).mono ?_; rintro e w1 ⟨rfl, rfl⟩) | (go_at_call 11; refine (l1In_yes _ _ _ _ (by omega) (by omega)).mono ?_; rintro e w1 ⟨rfl, rfl⟩) | (go_at_call 11; refine (l1In_no _ _ _ _ (by omega)).mono ?_; rintro e w1 ⟨rfl, rfl⟩) | go_in)
    go_ret
    exact ⟨rfl, Below.refl _ _⟩
  · have hd : decide (0 ≤ a) = false := decide_eq_false (by omega)
    go_enter Try.func3, Try.ntmps3
    go_wp2_with (first | (go_at_call 10; refine (scBytes_yes _ _ (by omega)).mono ?_; rintro e w1 ⟨rfl, rfl⟩) | (go_at_call 10; refine (scBytes_no _ _ (by omega)).mono ?_; rintro e w1 ⟨rfl, rfl⟩) | (go_at_call 11; refine (l1In_yes _ _ _ _ (by omega) (by omega)).mono ?_; rintro e w1 ⟨rfl, rfl⟩) | (go_at_call 11; refine (l1In_no _ _ _ _ (by omega)).mono ?_; rintro e w1 ⟨rfl, rfl⟩) | go_in)
    go_ret
    exact ⟨rfl, Below.refl _ _⟩
  · have hd : decide (a ≤ (s.size : Int)) = false := decide_eq_false (by omega)
    go_enter Try.func3, Try.ntmps3
    go_wp2_with (first | (go_at_call 10; refine (scBytes_yes _ _ (by omega)).mono ?_; rintro e w1 ⟨rfl, rfl⟩) | (go_at_call 10; refine (scBytes_no _ _ (by omega)).mono ?_; rintro e w1 ⟨rfl, rfl⟩) | (go_at_call 11; refine (l1In_yes _ _ _ _ (by omega) (by omega)).mono ?_; rintro e w1 ⟨rfl, rfl⟩) | (go_at_call 11; refine (l1In_no _ _ _ _ (by omega)).mono ?_; rintro e w1 ⟨rfl, rfl⟩) | go_in)
    go_ret
    exact ⟨rfl, Below.refl _ _⟩
  · obtain ⟨x, rfl⟩ := Int.eq_ofNat_of_zero_le h2
    have H1 : Hid (∀ W, _) := fun W => tkSkip_any s x W (by omega) (by omega)
    have H2 : Hid (∀ W, _) := fun W => skipSpace_any s x W (by omega) (by omega)
    generalize skp s x = y at H1 H2
    go_enter Try.func3, Try.ntmps3
    go_wp2_with (first | (go_at_call 10; refine (scBytes_yes _ _ (by omega)).mono ?_; rintro e w1 ⟨rfl, rfl⟩) | (go_at_call 10; refine (scBytes_no _ _ (by omega)).mono ?_; rintro e w1 ⟨rfl, rfl⟩) | (go_at_call 11; refine (l1In_yes _ _ _ _ (by omega) (by omega)).mono ?_; rintro e w1 ⟨rfl, rfl⟩) | (go_at_call 11; refine (l1In_no _ _ _ _ (by omega)).mono ?_; rintro e w1 ⟨rfl, rfl⟩) | (go_at_call 7; refine (H1.out _).mono ?_; rintro e w1 ⟨rfl, rfl⟩) | (go_at_call 9; refine (H2.out _).mono ?_; rintro e w1 ⟨rfl, rfl⟩) | go_in)
    go_ret
    exact ⟨rfl, Below.refl _ _⟩
end Go.Proofs.Ytopolfibledmnaa
