/-
  The walk of FnExactNumberText: it returns true and leaves old memory as it was.
-/
import Derived.Test.YtkcigdcjpnojnaaDoorNumText
namespace Go.Proofs.YtkcigdcjpnojnaaDoor
open Go.RowKit
set_option maxHeartbeats 1000000 in
theorem fnExactNumberText_walk (x : Int) (_ : -9223372036854775808 ≤ x) (_ : x ≤ 9223372036854775807) (w : World) (hL : laidMetH Tryd.prog Rows.fnExactNumberTextRow.laid w) :
    Calls Tryd.prog 3 #[.int .i64 x] w fun e w' => e = .returned (.bool true) ∧ Below w.heap.size w w' := by
  have HT := Lib.hid (pow10_of hL (by simp [Rows.fnExactNumberTextRow]))
  clear hL
  rcases (show (x < 0 ∨ 1000000000 < x) ∨ (0 ≤ x ∧ x ≤ 1000000000) by omega) with h | ⟨h0, h1⟩
  · go_enter Tryd.func3, Tryd.ntmps3
    go_wp2_with (first | (go_at_call 15; refine (nuValue_no _ _ h).mono ?_; rintro e w1 ⟨rfl, rfl⟩) | (go_at_call 17; refine (isValue_no _ _ h).mono ?_; rintro e w1 ⟨rfl, rfl⟩) | go_in)
    go_ret
    exact ⟨rfl, Below.refl _ _⟩
  · obtain ⟨n, rfl⟩ : ∃ n : Nat, x = n := ⟨x.toNat, by omega⟩
    have HS := Lib.hid (fun W => nuText_any n W (by omega))
    have HI := Lib.hid (fun W => numberText_any n W (by omega))
    go_enter Tryd.func3, Tryd.ntmps3
    go_wp2_with (first | (go_at_call 15; refine (nuValue_yes _ _ h0 h1).mono ?_; rintro e w1 ⟨rfl, rfl⟩) | (go_at_call 17; refine (isValue_yes _ _ h0 h1).mono ?_; rintro e w1 ⟨rfl, rfl⟩) | (go_at_call 16; refine (HS.out _).mono ?_; rintro e w1 ⟨rfl, hb1⟩; have HB := Lib.hid hb1; have HT1 := Lib.hid (HT.out.later hb1); clear hb1) | (go_at_call 18; refine (HI.out _ HT1.out).mono ?_; rintro e w2 ⟨rfl, hb2⟩; have HB2 := Lib.hid (belNext HB.out hb2); clear hb2) | go_in)
    go_ret
    exact ⟨rfl, HB2.out⟩
end Go.Proofs.YtkcigdcjpnojnaaDoor
