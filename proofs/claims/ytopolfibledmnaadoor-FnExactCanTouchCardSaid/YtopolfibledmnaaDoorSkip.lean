/-
  SkipSpace, the program's and the reference's: both return the plain skp; the two skipping functions, walked once each.
-/
import Derived.Test.YtopolfibledmnaaDoorPlain
import Derived.Test.YtopolfibledmnaaDoorIn
namespace Go.Proofs.YtopolfibledmnaaDoor
open Go.RowKit
/-- A byte within a comment. -/
def cmB (s : ByteArray) (i : Nat) : Bool := !decide (byt s i = 10) && plainB (byt s i)
/-- Where a comment that goes on at a ends. -/
def cmEnd (s : ByteArray) (a : Nat) : Nat := stop (cmB s) a (s.size - a)
theorem cmEnd_ge (s : ByteArray) (a : Nat) : a ≤ cmEnd s a := stop_ge _ _ _
theorem cmEnd_le (s : ByteArray) {a : Nat} (h : a ≤ s.size) : cmEnd s a ≤ s.size := stop_le' _ h
theorem cmEnd_back (s : ByteArray) {k : Nat} (h : k < s.size) (hb : byt s k = 35) : cmEnd s (k + 1) = stop (cmB s) k (s.size - k) := by
  rw [stop_go h (by rw [cmB, hb]; decide)]; rfl
/-- Where no space begins, from a on. -/
def skp (s : ByteArray) (a : Nat) : Nat :=
  if a < s.size then
    if byt s a = 32 ∨ byt s a = 9 ∨ byt s a = 10 then skp s (a + 1)
    else if byt s a = 92 ∧ a + 1 < s.size ∧ byt s (a + 1) = 10 then skp s (a + 2)
    else if byt s a = 35 then skp s (cmEnd s (a + 1)) else a
  else a
termination_by s.size - a
decreasing_by
  all_goals (try have := cmEnd_ge s (a + 1)); omega
theorem skp_end (s : ByteArray) {k : Nat} (h : ¬ k < s.size) : skp s k = k := by rw [skp, if_neg h]
theorem skp_cases (s : ByteArray) (k : Nat) (h : k < s.size) :
    (byt s k = 32 ∧ skp s k = skp s (k + 1)) ∨ (byt s k = 9 ∧ skp s k = skp s (k + 1)) ∨ (byt s k = 10 ∧ skp s k = skp s (k + 1)) ∨ (byt s k = 92 ∧ k + 1 < s.size ∧ byt s (k + 1) = 10 ∧ skp s k = skp s (k + 2)) ∨
    (byt s k = 92 ∧ ¬ k + 1 < s.size ∧ skp s k = k) ∨ (byt s k = 92 ∧ k + 1 < s.size ∧ byt s (k + 1) ≠ 10 ∧ skp s k = k) ∨ (byt s k = 35 ∧ skp s k = skp s (cmEnd s (k + 1))) ∨
    ((byt s k ≠ 32 ∧ byt s k ≠ 9 ∧ byt s k ≠ 10 ∧ byt s k ≠ 92 ∧ byt s k ≠ 35) ∧ skp s k = k) := by
  by_cases h32 : byt s k = 32
  · exact .inl ⟨h32, by rw [skp, if_pos h, if_pos (.inl h32)]⟩
  by_cases h9 : byt s k = 9
  · exact .inr (.inl ⟨h9, by rw [skp, if_pos h, if_pos (.inr (.inl h9))]⟩)
  by_cases h10 : byt s k = 10
  · exact .inr (.inr (.inl ⟨h10, by rw [skp, if_pos h, if_pos (.inr (.inr h10))]⟩))
  have hn : ¬ (byt s k = 32 ∨ byt s k = 9 ∨ byt s k = 10) := by omega
  by_cases h92 : byt s k = 92
  · by_cases h1 : k + 1 < s.size
    · by_cases h2 : byt s (k + 1) = 10
      · exact .inr (.inr (.inr (.inl ⟨h92, h1, h2, by rw [skp, if_pos h, if_neg hn, if_pos ⟨h92, h1, h2⟩]⟩)))
      · exact .inr (.inr (.inr (.inr (.inr (.inl ⟨h92, h1, h2, by rw [skp, if_pos h, if_neg hn, if_neg (fun hh => h2 hh.2.2), if_neg (by omega)]⟩)))))
    · exact .inr (.inr (.inr (.inr (.inl ⟨h92, h1, by rw [skp, if_pos h, if_neg hn, if_neg (fun hh => h1 hh.2.1), if_neg (by omega)]⟩))))
  by_cases h35 : byt s k = 35
  · exact .inr (.inr (.inr (.inr (.inr (.inr (.inl ⟨h35, by rw [skp, if_pos h, if_neg hn, if_neg (fun hh => h92 hh.1), if_pos h35]⟩))))))
  · exact .inr (.inr (.inr (.inr (.inr (.inr (.inr ⟨⟨h32, h9, h10, h92, h35⟩, by rw [skp, if_pos h, if_neg hn, if_neg (fun hh => h92 hh.1), if_neg h35]⟩))))))
set_option maxHeartbeats 2000000 in
theorem skipSpace_any (s : ByteArray) (a : Nat) (w : World) (hs : s.size ≤ 4000) (ha : a ≤ s.size) :
    Calls Tryd.prog 50 #[.string s, .int .i64 a] w fun e w' => e = .returned (.int .i64 (skp s a)) ∧ w = w' := by
  go_enter Tryd.func50, Tryd.ntmps50
  go_wp2
  go_loop [1, 10, 29, 50] (fun at_ _ _ _ => ∃ k : Nat, k ≤ s.size ∧ at_ = .int .i64 k ∧ skp s a = skp s k) (fun at_ _ _ _ => s.size - (intOf at_).toNat)
  case atStart => exact ⟨a, ha, rfl, rfl⟩
  case round =>
    obtain ⟨k, hk, rfl, hst⟩ := hrel
    have HS := Lib.hid hst
    clear hst
    by_cases hlt : k < s.size
    · have hbe := byt_eq hlt
      rcases skp_cases s k hlt with ⟨hb, hv⟩ | ⟨hb, hv⟩ | ⟨hb, hv⟩ | ⟨hb, h1, h2, hv⟩ | ⟨hb, h1, hv⟩ | ⟨hb, h1, h2, hv⟩ | ⟨hb, hv⟩ | ⟨hb, hv⟩
      · have HV := Lib.hid hv
        clear hv
        have e32 : ((s[k].toNat : Int) == 32) = true := by rw [← hbe]; rw [hb]; rfl
        clear hbe hb
        go_wp2_with fail
        go_round
        case rel => exact ⟨k + 1, by omega, by go_num, by rw [HS.out, HV.out]⟩
        case measure => simp [intOf]; omega
      · have HV := Lib.hid hv
        clear hv
        have e32 : ((s[k].toNat : Int) == 32) = false := by rw [← hbe]; simp; omega
        have e9 : ((s[k].toNat : Int) == 9) = true := by rw [← hbe]; rw [hb]; rfl
        clear hbe hb
        go_wp2_with fail
        go_round
        case rel => exact ⟨k + 1, by omega, by go_num, by rw [HS.out, HV.out]⟩
        case measure => simp [intOf]; omega
      · have HV := Lib.hid hv
        clear hv
        have e32 : ((s[k].toNat : Int) == 32) = false := by rw [← hbe]; simp; omega
        have e9 : ((s[k].toNat : Int) == 9) = false := by rw [← hbe]; simp; omega
        have e10 : ((s[k].toNat : Int) == 10) = true := by rw [← hbe]; rw [hb]; rfl
        clear hbe hb
        go_wp2_with fail
        go_round
        case rel => exact ⟨k + 1, by omega, by go_num, by rw [HS.out, HV.out]⟩
        case measure => simp [intOf]; omega
      · have HV := Lib.hid hv
        clear hv
        have e32 : ((s[k].toNat : Int) == 32) = false := by rw [← hbe]; simp; omega
        have e9 : ((s[k].toNat : Int) == 9) = false := by rw [← hbe]; simp; omega
        have e10 : ((s[k].toNat : Int) == 10) = false := by rw [← hbe]; simp; omega
        have e92 : ((s[k].toNat : Int) == 92) = true := by rw [← hbe]; rw [hb]; rfl
        clear hbe hb
        have hbe1 := byt_eq h1
        have e1 : ((s[k + 1].toNat : Int) == 10) = true := by rw [← hbe1, h2]; rfl
        have h1i : (k : Int) + 1 < (s.size : Int) := by omega
        clear hbe1 h2
        go_wp2_with fail
        go_round
        case rel => exact ⟨k + 2, by omega, by go_num, by rw [HS.out, HV.out]⟩
        case measure => simp [intOf]; omega
      · have HV := Lib.hid hv
        clear hv
        have e32 : ((s[k].toNat : Int) == 32) = false := by rw [← hbe]; simp; omega
        have e9 : ((s[k].toNat : Int) == 9) = false := by rw [← hbe]; simp; omega
        have e10 : ((s[k].toNat : Int) == 10) = false := by rw [← hbe]; simp; omega
        have e92 : ((s[k].toNat : Int) == 92) = true := by rw [← hbe]; rw [hb]; rfl
        have e35 : ((s[k].toNat : Int) == 35) = false := by rw [← hbe]; simp; omega
        clear hbe hb
        have d1 : decide (k + 1 < s.size) = false := decide_eq_false h1
        have d2 : decide ((k : Int) + 1 < (s.size : Int)) = false := decide_eq_false (by omega)
        go_wp2_with fail
        go_ret
        exact ⟨by rw [HS.out, HV.out]; rfl, rfl⟩
      · have HV := Lib.hid hv
        clear hv
        have e32 : ((s[k].toNat : Int) == 32) = false := by rw [← hbe]; simp; omega
        have e9 : ((s[k].toNat : Int) == 9) = false := by rw [← hbe]; simp; omega
        have e10 : ((s[k].toNat : Int) == 10) = false := by rw [← hbe]; simp; omega
        have e92 : ((s[k].toNat : Int) == 92) = true := by rw [← hbe]; rw [hb]; rfl
        have e35 : ((s[k].toNat : Int) == 35) = false := by rw [← hbe]; simp; omega
        clear hbe hb
        have hbe1 := byt_eq h1
        have e1 : ((s[k + 1].toNat : Int) == 10) = false := by rw [← hbe1]; simpa using h2
        have h1i : (k : Int) + 1 < (s.size : Int) := by omega
        clear hbe1 h2
        go_wp2_with fail
        go_ret
        exact ⟨by rw [HS.out, HV.out]; rfl, rfl⟩
      · have HV := Lib.hid hv
        clear hv
        have e32 : ((s[k].toNat : Int) == 32) = false := by rw [← hbe]; simp; omega
        have e9 : ((s[k].toNat : Int) == 9) = false := by rw [← hbe]; simp; omega
        have e10 : ((s[k].toNat : Int) == 10) = false := by rw [← hbe]; simp; omega
        have e92 : ((s[k].toNat : Int) == 92) = false := by rw [← hbe]; simp; omega
        have e35 : ((s[k].toNat : Int) == 35) = true := by rw [← hbe]; rw [hb]; rfl
        clear hbe hb
        go_wp2_with fail
        go_loop [1] (fun at_ => ∃ j : Nat, k + 1 ≤ j ∧ j ≤ s.size ∧ at_ = .int .i64 j ∧ cmEnd s (k + 1) = stop (cmB s) j (s.size - j)) (fun at_ => s.size - (intOf at_).toNat)
        case atStart => exact ⟨k + 1, Nat.le_refl _, by omega, by go_num, rfl⟩
        case round =>
          obtain ⟨j, hj0, hj, rfl, hcm⟩ := hrel
          have HCM := Lib.hid hcm
          clear hcm
          by_cases hjl : j < s.size
          · have hbj := byt_eq hjl
            by_cases hten : byt s j = 10
            · have HE : Hid (cmEnd s (k + 1) = j) := HCM.out.trans (stop_no _ (by simp [cmB, hten]))
              have ej : ((s[j].toNat : Int) != 10) = false := by rw [← hbj, hten]; rfl
              have hge := cmEnd_ge s (k + 1)
              have hgj : k + 1 ≤ j := by rw [HE.out] at hge; exact hge
              clear hbj hten hge
              go_wp2_with fail
              go_round
              case rel => exact ⟨j, hj, rfl, by rw [HS.out, HV.out, HE.out]⟩
              case measure => simp [intOf]; omega
            · have ej : ((s[j].toNat : Int) != 10) = true := by rw [← hbj]; simpa using hten
              by_cases hp : plainB (byt s j) = true
              · have hp2 : plainB (s[j].toNat : Int) = true := by rw [← hbj]; exact hp
                have HP := Lib.hid hp2
                have HG : Hid (cmEnd s (k + 1) = stop (cmB s) (j + 1) (s.size - (j + 1))) := HCM.out.trans (stop_go hjl (by simp [cmB, hten, hp]))
                clear hbj hten hp hp2
                go_wp2_with (go_at_call 70; refine (isPlain_yes _ _ HP.out).mono ?_; rintro e w1 ⟨rfl, rfl⟩)
                go_round
                case rel => exact ⟨j + 1, by omega, by omega, by go_num, HG.out⟩
                case measure => simp [intOf]; omega
              · have hp2 : plainB (s[j].toNat : Int) = false := by rw [← hbj]; simpa using hp
                have HP := Lib.hid hp2
                have HE : Hid (cmEnd s (k + 1) = j) := HCM.out.trans (stop_no _ (by simp [cmB, hp]))
                have hge := cmEnd_ge s (k + 1)
                have hgj : k + 1 ≤ j := by rw [HE.out] at hge; exact hge
                clear hbj hten hp hp2 hge
                go_wp2_with (go_at_call 70; refine (isPlain_no _ _ HP.out).mono ?_; rintro e w1 ⟨rfl, rfl⟩)
                go_round
                case rel => exact ⟨j, hj, rfl, by rw [HS.out, HV.out, HE.out]⟩
                case measure => simp [intOf]; omega
          · have hd : decide (j < s.size) = false := decide_eq_false hjl
            have HE : Hid (cmEnd s (k + 1) = j) := HCM.out.trans (by rw [show s.size - j = 0 by omega]; rfl)
            go_wp2_with fail
            go_round
            case rel => exact ⟨j, hj, rfl, by rw [HS.out, HV.out, HE.out]⟩
            case measure => simp [intOf]; omega
      · have HV := Lib.hid hv
        clear hv
        have e32 : ((s[k].toNat : Int) == 32) = false := by rw [← hbe]; simp; omega
        have e9 : ((s[k].toNat : Int) == 9) = false := by rw [← hbe]; simp; omega
        have e10 : ((s[k].toNat : Int) == 10) = false := by rw [← hbe]; simp; omega
        have e92 : ((s[k].toNat : Int) == 92) = false := by rw [← hbe]; simp; omega
        have e35 : ((s[k].toNat : Int) == 35) = false := by rw [← hbe]; simp; omega
        clear hbe hb
        go_wp2_with fail
        go_ret
        exact ⟨by rw [HS.out, HV.out]; rfl, rfl⟩
    · have hd : decide (k < s.size) = false := decide_eq_false hlt
      have HV := Lib.hid (skp_end s hlt)
      go_wp2_with fail
      go_ret
      exact ⟨by rw [HS.out, HV.out]; rfl, rfl⟩
set_option maxHeartbeats 2000000 in
theorem tkSkip_any (s : ByteArray) (a : Nat) (w : World) (hs : s.size ≤ 4000) (ha : a ≤ s.size) :
    Calls Tryd.prog 68 #[.string s, .int .i64 a] w fun e w' => e = .returned (.int .i64 (skp s a)) ∧ w = w' := by
  go_enter Tryd.func68, Tryd.ntmps68
  go_wp2
  go_loop [1, 10, 29, 50] (fun at_ _ _ _ => ∃ k : Nat, k ≤ s.size ∧ at_ = .int .i64 k ∧ skp s a = skp s k) (fun at_ _ _ _ => s.size - (intOf at_).toNat)
  case atStart => exact ⟨a, ha, rfl, rfl⟩
  case round =>
    obtain ⟨k, hk, rfl, hst⟩ := hrel
    have HS := Lib.hid hst
    clear hst
    by_cases hlt : k < s.size
    · have hbe := byt_eq hlt
      rcases skp_cases s k hlt with ⟨hb, hv⟩ | ⟨hb, hv⟩ | ⟨hb, hv⟩ | ⟨hb, h1, h2, hv⟩ | ⟨hb, h1, hv⟩ | ⟨hb, h1, h2, hv⟩ | ⟨hb, hv⟩ | ⟨hb, hv⟩
      · have HV := Lib.hid hv
        clear hv
        have e32 : ((s[k].toNat : Int) == 32) = true := by rw [← hbe]; rw [hb]; rfl
        clear hbe hb
        go_wp2_with fail
        go_round
        case rel => exact ⟨k + 1, by omega, by go_num, by rw [HS.out, HV.out]⟩
        case measure => simp [intOf]; omega
      · have HV := Lib.hid hv
        clear hv
        have e32 : ((s[k].toNat : Int) == 32) = false := by rw [← hbe]; simp; omega
        have e9 : ((s[k].toNat : Int) == 9) = true := by rw [← hbe]; rw [hb]; rfl
        clear hbe hb
        go_wp2_with fail
        go_round
        case rel => exact ⟨k + 1, by omega, by go_num, by rw [HS.out, HV.out]⟩
        case measure => simp [intOf]; omega
      · have HV := Lib.hid hv
        clear hv
        have e32 : ((s[k].toNat : Int) == 32) = false := by rw [← hbe]; simp; omega
        have e9 : ((s[k].toNat : Int) == 9) = false := by rw [← hbe]; simp; omega
        have e10 : ((s[k].toNat : Int) == 10) = true := by rw [← hbe]; rw [hb]; rfl
        clear hbe hb
        go_wp2_with fail
        go_round
        case rel => exact ⟨k + 1, by omega, by go_num, by rw [HS.out, HV.out]⟩
        case measure => simp [intOf]; omega
      · have HV := Lib.hid hv
        clear hv
        have e32 : ((s[k].toNat : Int) == 32) = false := by rw [← hbe]; simp; omega
        have e9 : ((s[k].toNat : Int) == 9) = false := by rw [← hbe]; simp; omega
        have e10 : ((s[k].toNat : Int) == 10) = false := by rw [← hbe]; simp; omega
        have e92 : ((s[k].toNat : Int) == 92) = true := by rw [← hbe]; rw [hb]; rfl
        clear hbe hb
        have hbe1 := byt_eq h1
        have e1 : ((s[k + 1].toNat : Int) == 10) = true := by rw [← hbe1, h2]; rfl
        have h1i : (k : Int) + 1 < (s.size : Int) := by omega
        clear hbe1 h2
        go_wp2_with fail
        go_round
        case rel => exact ⟨k + 2, by omega, by go_num, by rw [HS.out, HV.out]⟩
        case measure => simp [intOf]; omega
      · have HV := Lib.hid hv
        clear hv
        have e32 : ((s[k].toNat : Int) == 32) = false := by rw [← hbe]; simp; omega
        have e9 : ((s[k].toNat : Int) == 9) = false := by rw [← hbe]; simp; omega
        have e10 : ((s[k].toNat : Int) == 10) = false := by rw [← hbe]; simp; omega
        have e92 : ((s[k].toNat : Int) == 92) = true := by rw [← hbe]; rw [hb]; rfl
        have e35 : ((s[k].toNat : Int) == 35) = false := by rw [← hbe]; simp; omega
        clear hbe hb
        have d1 : decide (k + 1 < s.size) = false := decide_eq_false h1
        have d2 : decide ((k : Int) + 1 < (s.size : Int)) = false := decide_eq_false (by omega)
        go_wp2_with fail
        go_ret
        exact ⟨by rw [HS.out, HV.out]; rfl, rfl⟩
      · have HV := Lib.hid hv
        clear hv
        have e32 : ((s[k].toNat : Int) == 32) = false := by rw [← hbe]; simp; omega
        have e9 : ((s[k].toNat : Int) == 9) = false := by rw [← hbe]; simp; omega
        have e10 : ((s[k].toNat : Int) == 10) = false := by rw [← hbe]; simp; omega
        have e92 : ((s[k].toNat : Int) == 92) = true := by rw [← hbe]; rw [hb]; rfl
        have e35 : ((s[k].toNat : Int) == 35) = false := by rw [← hbe]; simp; omega
        clear hbe hb
        have hbe1 := byt_eq h1
        have e1 : ((s[k + 1].toNat : Int) == 10) = false := by rw [← hbe1]; simpa using h2
        have h1i : (k : Int) + 1 < (s.size : Int) := by omega
        clear hbe1 h2
        go_wp2_with fail
        go_ret
        exact ⟨by rw [HS.out, HV.out]; rfl, rfl⟩
      · have HV := Lib.hid hv
        clear hv
        have HC := Lib.hid (cmEnd_back s hlt hb)
        have e32 : ((s[k].toNat : Int) == 32) = false := by rw [← hbe]; simp; omega
        have e9 : ((s[k].toNat : Int) == 9) = false := by rw [← hbe]; simp; omega
        have e10 : ((s[k].toNat : Int) == 10) = false := by rw [← hbe]; simp; omega
        have e92 : ((s[k].toNat : Int) == 92) = false := by rw [← hbe]; simp; omega
        have e35 : ((s[k].toNat : Int) == 35) = true := by rw [← hbe]; rw [hb]; rfl
        clear hbe hb
        go_wp2_with fail
        go_loop [1] (fun at_ => ∃ j : Nat, k ≤ j ∧ j ≤ s.size ∧ at_ = .int .i64 j ∧ cmEnd s (k + 1) = stop (cmB s) j (s.size - j)) (fun at_ => s.size - (intOf at_).toNat)
        case atStart => exact ⟨k, Nat.le_refl _, by omega, rfl, HC.out⟩
        case round =>
          obtain ⟨j, hj0, hj, rfl, hcm⟩ := hrel
          have HCM := Lib.hid hcm
          clear hcm
          by_cases hjl : j < s.size
          · have hbj := byt_eq hjl
            by_cases hten : byt s j = 10
            · have HE : Hid (cmEnd s (k + 1) = j) := HCM.out.trans (stop_no _ (by simp [cmB, hten]))
              have ej : ((s[j].toNat : Int) != 10) = false := by rw [← hbj, hten]; rfl
              have hge := cmEnd_ge s (k + 1)
              have hgj : k + 1 ≤ j := by rw [HE.out] at hge; exact hge
              clear hbj hten hge
              go_wp2_with fail
              go_round
              case rel => exact ⟨j, hj, rfl, by rw [HS.out, HV.out, HE.out]⟩
              case measure => simp [intOf]; omega
            · have ej : ((s[j].toNat : Int) != 10) = true := by rw [← hbj]; simpa using hten
              by_cases hp : plainB (byt s j) = true
              · have hp2 : plainB (s[j].toNat : Int) = true := by rw [← hbj]; exact hp
                have HP := Lib.hid hp2
                have HG : Hid (cmEnd s (k + 1) = stop (cmB s) (j + 1) (s.size - (j + 1))) := HCM.out.trans (stop_go hjl (by simp [cmB, hten, hp]))
                clear hbj hten hp hp2
                go_wp2_with (go_at_call 82; refine (scPlain_yes _ _ HP.out).mono ?_; rintro e w1 ⟨rfl, rfl⟩)
                go_round
                case rel => exact ⟨j + 1, by omega, by omega, by go_num, HG.out⟩
                case measure => simp [intOf]; omega
              · have hp2 : plainB (s[j].toNat : Int) = false := by rw [← hbj]; simpa using hp
                have HP := Lib.hid hp2
                have HE : Hid (cmEnd s (k + 1) = j) := HCM.out.trans (stop_no _ (by simp [cmB, hp]))
                have hge := cmEnd_ge s (k + 1)
                have hgj : k + 1 ≤ j := by rw [HE.out] at hge; exact hge
                clear hbj hten hp hp2 hge
                go_wp2_with (go_at_call 82; refine (scPlain_no _ _ HP.out).mono ?_; rintro e w1 ⟨rfl, rfl⟩)
                go_round
                case rel => exact ⟨j, hj, rfl, by rw [HS.out, HV.out, HE.out]⟩
                case measure => simp [intOf]; omega
          · have hd : decide (j < s.size) = false := decide_eq_false hjl
            have HE : Hid (cmEnd s (k + 1) = j) := HCM.out.trans (by rw [show s.size - j = 0 by omega]; rfl)
            go_wp2_with fail
            go_round
            case rel => exact ⟨j, hj, rfl, by rw [HS.out, HV.out, HE.out]⟩
            case measure => simp [intOf]; omega
      · have HV := Lib.hid hv
        clear hv
        have e32 : ((s[k].toNat : Int) == 32) = false := by rw [← hbe]; simp; omega
        have e9 : ((s[k].toNat : Int) == 9) = false := by rw [← hbe]; simp; omega
        have e10 : ((s[k].toNat : Int) == 10) = false := by rw [← hbe]; simp; omega
        have e92 : ((s[k].toNat : Int) == 92) = false := by rw [← hbe]; simp; omega
        have e35 : ((s[k].toNat : Int) == 35) = false := by rw [← hbe]; simp; omega
        clear hbe hb
        go_wp2_with fail
        go_ret
        exact ⟨by rw [HS.out, HV.out]; rfl, rfl⟩
    · have hd : decide (k < s.size) = false := decide_eq_false hlt
      have HV := Lib.hid (skp_end s hlt)
      go_wp2_with fail
      go_ret
      exact ⟨by rw [HS.out, HV.out]; rfl, rfl⟩
end Go.Proofs.YtopolfibledmnaaDoor
