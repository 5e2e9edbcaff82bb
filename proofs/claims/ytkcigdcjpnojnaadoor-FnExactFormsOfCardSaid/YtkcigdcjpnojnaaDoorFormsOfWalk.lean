/-
  The walk of FnExactFormsOf: it returns true and leaves old memory as it was.
-/
import Derived.Test.YtkcigdcjpnojnaaDoorFormsOf
namespace Go.Proofs.YtkcigdcjpnojnaaDoor
open Go.RowKit
set_option maxHeartbeats 1000000 in
theorem fnExactFormsOf_walk (x : Int) (_ : -9223372036854775808 ≤ x) (_ : x ≤ 9223372036854775807) (w : World) (hL : laidMetH Tryd.prog Rows.fnExactFormsOfRow.laid w) :
    Calls Tryd.prog 4 #[.int .i64 x] w fun e w' => e = .returned (.bool true) ∧ Below w.heap.size w w' := by
  have HT := Lib.hid (pow10_of hL (by simp [Rows.fnExactFormsOfRow]))
  clear hL
  rcases (show (x < 0 ∨ 1000000000 < x) ∨ (0 ≤ x ∧ x ≤ 1000000000) by omega) with h | ⟨h0, h1⟩
  · go_enter Tryd.func4, Tryd.ntmps4
    go_wp2_with (first | (go_at_call 15; refine (nuValue_no _ _ h).mono ?_; rintro e w1 ⟨rfl, rfl⟩) | (go_at_call 17; refine (isValue_no _ _ h).mono ?_; rintro e w1 ⟨rfl, rfl⟩) | (go_at_call 8; go_in) | (go_at_call 9; go_in) | (go_at_call 10; refine (eqStringS_nil _).mono ?_; rintro e w1 ⟨rfl, rfl⟩) | (go_at_call 11; refine (markStringS_nil _).mono ?_; rintro e w1 ⟨rfl, rfl⟩) | (go_at_call 12; refine (heldStringS_nil _).mono ?_; rintro e w1 ⟨rfl, rfl⟩))
    go_ret
    exact ⟨rfl, Below.refl _ _⟩
  · obtain ⟨n, rfl⟩ : ∃ n : Nat, x = n := ⟨x.toNat, by omega⟩
    have HS := Lib.hid (fun W => specFormsOf_yes n W (by omega))
    have HI := Lib.hid (fun W => implFormsOf_yes n W (by omega))
    have hl := fl_len n 3
    have hp := fl3_pos n
    generalize fl n 3 = ss at *
    obtain ⟨m, hm⟩ : ∃ m, ss.length = m := ⟨_, rfl⟩
    unfold StrsOut at HS HI
    rw [hm] at HS HI hl hp
    clear hm
    go_enter Tryd.func4, Tryd.ntmps4
    go_wp2_with fail
    refine (HS.out _).mono ?_
    rintro e w1 ⟨v, rfl, gS, cS, rfl, _, hgS, hoS, hb1⟩
    have OS1 := Lib.hid hoS
    have B1 := Lib.hid hb1
    clear hoS hb1
    go_wp2_with fail
    refine (HI.out _ (HT.out.later B1.out)).mono ?_
    rintro e w2 ⟨v, rfl, gG, cG, rfl, _, hgG, hoG, hb2⟩
    have hne : gS ≠ gG := by have := OS1.out.1; omega
    have HNE := Lib.hid hne
    have OG2 := Lib.hid hoG
    have OS2 := Lib.hid (OS1.out.later hb2)
    have hgB : w.heap.size ≤ gG := by have := B1.out.size; omega
    have B2 := Lib.hid (belNext B1.out hb2)
    clear hoG hb2 hne OS1
    go_wp2_with fail
    refine (eqStringS_any gG cG gS cS m ss _ (by omega) OG2.out OS2.out).mono ?_
    rintro e w3 ⟨rfl, hb3⟩
    have OG3 := Lib.hid (OG2.out.later hb3)
    have OS3 := Lib.hid (OS2.out.later hb3)
    have B3 := Lib.hid (belNext B2.out hb3)
    clear hb3 OG2 OS2
    go_wp2_with fail
    refine (markStringS_own gG m cG ss _ (by omega) OG3.out).mono ?_
    rintro e w4 ⟨rfl, ho4, hb4, hs4, ht4⟩
    have OS4 := Lib.hid (OS3.out.keep_ hs4 (ht4 gS HNE.out OS3.out.1))
    have OG4 := Lib.hid ho4
    have B4 := Lib.hid (B3.out.trans (hb4 w.heap.size hgB B3.out.size))
    clear ho4 hb4 hs4 ht4 OG3 OS3
    go_wp2_with fail
    refine (heldStringS_own gG m cG _ _ (by omega) OG4.out).mono ?_
    rintro e w5 ⟨rfl, hb5⟩
    have OG5 := Lib.hid (OG4.out.later hb5)
    have OS5 := Lib.hid (OS4.out.later hb5)
    have B5 := Lib.hid (belNext B4.out hb5)
    clear hb5 OG4 OS4
    go_wp2_with fail
    refine (HI.out _ (HT.out.later B5.out)).mono ?_
    rintro e w6 ⟨v, rfl, gH, cH, rfl, _, hgH, hoH, hb6⟩
    have OH6 := Lib.hid hoH
    have OG6 := Lib.hid (OG5.out.later hb6)
    have OS6 := Lib.hid (OS5.out.later hb6)
    have B6 := Lib.hid (belNext B5.out hb6)
    clear hoH hb6 OG5 OS5 hgH
    go_wp2_with fail
    refine (eqStringS_any gH cH gS cS m ss _ (by omega) OH6.out OS6.out).mono ?_
    rintro e w7 ⟨rfl, hb7⟩
    have OG7 := Lib.hid (OG6.out.later hb7)
    have B7 := Lib.hid (belNext B6.out hb7)
    clear hb7 OG6 OS6 OH6
    go_wp2_with fail
    refine (heldStringS_own gG m cG _ _ (by omega) OG7.out).mono ?_
    rintro e w8 ⟨rfl, hb8⟩
    have B8 := Lib.hid (belNext B7.out hb8)
    clear hb8
    go_wp2_with fail
    go_ret
    exact ⟨rfl, B8.out⟩
end Go.Proofs.YtkcigdcjpnojnaaDoor
