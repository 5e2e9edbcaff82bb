/-
  Numbers read from digits with a bound on each step: the plain function numO; the reference's nuDigits, walked once.
-/
import Derived.Test.YtopolfibledmnaaDoorDigits
import Derived.Test.YtopolfibledmnaaDoorAll
import Derived.Test.YtopolfibledmnaaDoorPre0x
namespace Go.Proofs.YtopolfibledmnaaDoor
open Go.RowKit
/-- The number of the first j digits. -/
def numV (c : Nat → Int) (base : Int) : Nat → Int
  | 0 => 0
  | j + 1 => base * numV c base j + dgV (c j) base
def dgB (c : Nat → Int) (base : Int) (i : Nat) : Bool := decide (0 ≤ dgV (c i) base)
def leB (c : Nat → Int) (base most : Int) (i : Nat) : Bool := decide (numV c base (i + 1) ≤ most)
/-- Whether the n bytes of c are digits without a needless zero and each of their numbers is at most the bound. -/
def numO (c : Nat → Int) (n : Nat) (base most : Int) : Bool := decide (0 < n) && !(decide (c 0 = 48) && decide (1 < n)) && allV (dgB c base) n && allV (leB c base most) n
def numD (c : Nat → Int) (n : Nat) (base most : Int) : Int := if numO c n base most then numV c base n else -1
theorem numO_bad {c : Nat → Int} {n k : Nat} {base most : Int} (hk : k < n) (h : dgV (c k) base < 0) : numO c n base most = false := by
  rw [numO, allV_no (p := dgB c base) (k := k) (decide_eq_false (by omega)) hk, Bool.and_false, Bool.false_and]
theorem numO_big {c : Nat → Int} {n k : Nat} {base most : Int} (hk : k < n) (h : most < numV c base (k + 1)) : numO c n base most = false := by
  rw [numO, allV_no (p := leB c base most) (k := k) (decide_eq_false (by omega)) hk, Bool.and_false]
theorem numO_zero {c : Nat → Int} {n : Nat} {base most : Int} (h : n = 0 ∨ (c 0 = 48 ∧ 1 < n)) : numO c n base most = false := by
  rcases h with rfl | ⟨h1, h2⟩
  · rfl
  · rw [numO, decide_eq_true h1, decide_eq_true h2]; simp
theorem numO_yes {c : Nat → Int} {n : Nat} {base most : Int} (h0 : 0 < n) (h1 : ¬ (c 0 = 48 ∧ 1 < n)) (h2 : allV (dgB c base) n = true) (h3 : allV (leB c base most) n = true) : numO c n base most = true := by
  have : (decide (c 0 = 48) && decide (1 < n)) = false := by simpa using h1
  rw [numO, h2, h3, decide_eq_true h0, this]; rfl
theorem numD_no {c : Nat → Int} {n : Nat} {base most : Int} (h : numO c n base most = false) : numD c n base most = -1 := by rw [numD, h]; rfl
theorem numD_yes {c : Nat → Int} {n : Nat} {base most : Int} (h : numO c n base most = true) : numD c n base most = numV c base n := by rw [numD, h]; rfl
theorem numV_lo {c : Nat → Int} {base : Int} (hb : 0 ≤ base) : ∀ {n : Nat}, allV (dgB c base) n = true → 0 ≤ numV c base n
  | 0, _ => by simp [numV]
  | n + 1, h => by
    simp only [allV, Bool.and_eq_true] at h
    have h1 := numV_lo hb h.1
    have h2 : 0 ≤ dgV (c n) base := by simpa [dgB] using h.2
    have := Int.mul_nonneg hb h1
    simp only [numV]; omega
theorem dgV_lt (x base : Int) (hb : 0 < base) : dgV x base ≤ base - 1 := by unfold dgV; split <;> omega
theorem hexV_dig {x : Int} (h1 : 48 ≤ x) (h2 : x ≤ 57) : hexV x = x - 48 := by rw [hexV, if_pos ⟨h1, h2⟩]
theorem hexV_let {x : Int} (h1 : 97 ≤ x) (h2 : x ≤ 102) : hexV x = x - 97 + 10 := by rw [hexV, if_neg (by omega), if_pos ⟨h1, h2⟩]
theorem hexV_other {x : Int} (h1 : ¬ (48 ≤ x ∧ x ≤ 57)) (h2 : ¬ (97 ≤ x ∧ x ≤ 102)) : hexV x = -1 := by rw [hexV, if_neg h1, if_neg h2]
set_option maxHeartbeats 2000000 in
/-- The digits of a text, whose bytes are given by c. -/
theorem nuDigits_any (t : ByteArray) (c : Nat → Int) (base most : Int) (w : World) (ht : t.size ≤ 1048576) (hc : ∀ i, i < t.size → byt t i = c i) (hb0 : 10 ≤ base) (hb : base ≤ 16) (hm0 : 0 ≤ most) (hm : most ≤ 1000000000) :
    Calls Tryd.prog 93 #[.string t, .int .i64 base, .int .i64 most] w fun e w' => e = .returned (.int .i64 (numD c t.size base most)) ∧ w = w' := by
  have HC := Lib.hid hc
  clear hc
  rcases Nat.eq_zero_or_pos t.size with hz | hpos
  · rw [numD_no (numO_zero (.inl hz))]
    have hemp := empty_yes hz
    go_enter Tryd.func93, Tryd.ntmps93
    go_wp2
    go_ret
    exact ⟨rfl, rfl⟩
  have hemp := empty_no hpos
  have hb0' := byt_eq hpos
  have hc0 := HC.out 0 hpos
  by_cases hlead : c 0 = 48 ∧ 1 < t.size
  · rw [numD_no (numO_zero (.inr hlead))]
    obtain ⟨h1, h2⟩ := hlead
    have e1 : ((t[0].toNat : Int) == 48) = true := by rw [← hb0', hc0, h1]; rfl
    have e2 : 1 < (t.size : Int) := by omega
    clear h1 hc0 hb0'
    go_enter Tryd.func93, Tryd.ntmps93
    go_wp2
    go_ret
    exact ⟨rfl, rfl⟩
  have hlead' : ((t[0].toNat : Int) == 48) = false ∨ (((t[0].toNat : Int) == 48) = true ∧ decide (1 < (t.size : Int)) = false) := by
    by_cases h : c 0 = 48
    · exact .inr ⟨by rw [← hb0', hc0, h]; rfl, decide_eq_false (by omega)⟩
    · exact .inl (by rw [← hb0', hc0]; simpa using h)
  have HLD := Lib.hid hlead
  clear hlead hb0' hc0
  rcases hlead' with e1 | ⟨e1, e2⟩
  all_goals
    go_enter Tryd.func93, Tryd.ntmps93
    go_wp2
    go_loop [7, 8, 9, 28, 44] (fun x i _ _ _ => ∃ k : Nat, k ≤ t.size ∧ x = .int .i64 (numV c base k) ∧ i = .int .i64 k ∧ allV (dgB c base) k = true ∧ (0 < k → numV c base (k - 1) ≤ most) ∧ allV (leB c base most) (k - 1) = true ∧ numV c base k ≤ 17000000000) (fun _ i _ _ _ => t.size - (intOf i).toNat)
    case atStart => exact ⟨0, Nat.zero_le _, rfl, rfl, rfl, fun h => absurd h (by omega), rfl, by simp [numV]⟩
    case round =>
      obtain ⟨k, hk, rfl, rfl, hdg, hpr, hle, hhi⟩ := hrel
      have hlo := numV_lo (show 0 ≤ base by omega) hdg
      have HDG := Lib.hid hdg
      have HPR := Lib.hid hpr
      have HLE := Lib.hid hle
      clear hdg hpr hle
      have HLE' : Hid (numV c base k ≤ most → allV (leB c base most) k = true) := by
        intro h
        cases k with
        | zero => rfl
        | succ j => rw [allV, show allV (leB c base most) j = true from HLE.out]; exact decide_eq_true h
      by_cases hlt : k < t.size
      · have hby := byt_eq hlt
        have hcb := HC.out k hlt
        rw [hby] at hcb
        have h255 := byt_hi t k
        rw [hby] at h255
        have HCB := Lib.hid hcb
        clear hcb hby
        by_cases hbad : dgV (c k) base < 0
        · have HNO := Lib.hid (numD_no (numO_bad (most := most) hlt hbad))
          have hcase : (97 ≤ (t[k].toNat : Int) ∧ (t[k].toNat : Int) ≤ 102 ∧ base ≤ (t[k].toNat : Int) - 97 + 10) ∨ (t[k].toNat : Int) < 48 ∨ (57 < (t[k].toNat : Int) ∧ (t[k].toNat : Int) < 97) ∨ 102 < (t[k].toNat : Int) := by
            rw [← HCB.out] at hbad
            unfold dgV at hbad
            by_cases h1 : 48 ≤ (t[k].toNat : Int) ∧ (t[k].toNat : Int) ≤ 57
            · rw [hexV_dig h1.1 h1.2, if_neg (by omega)] at hbad; omega
            · by_cases h2 : 97 ≤ (t[k].toNat : Int) ∧ (t[k].toNat : Int) ≤ 102
              · rw [hexV_let h2.1 h2.2] at hbad
                left
                refine ⟨h2.1, h2.2, ?_⟩
                by_cases h3 : base ≤ (t[k].toNat : Int) - 97 + 10
                · exact h3
                · rw [if_neg h3] at hbad; omega
              · omega
          clear hbad
          rcases hcase with ⟨g1, g2, g3⟩ | g1 | ⟨g1, g2⟩ | g1
          · have d1 : decide ((t[k].toNat : Int) ≤ 57) = false := decide_eq_false (by omega)
            go_wp2
            go_ret
            exact ⟨by rw [HNO.out]; rfl, rfl⟩
          · have d1 : decide (48 ≤ (t[k].toNat : Int)) = false := decide_eq_false (by omega)
            have d2 : decide (97 ≤ (t[k].toNat : Int)) = false := decide_eq_false (by omega)
            go_wp2
            go_ret
            exact ⟨by rw [HNO.out]; rfl, rfl⟩
          · have d1 : decide ((t[k].toNat : Int) ≤ 57) = false := decide_eq_false (by omega)
            have d2 : decide (97 ≤ (t[k].toNat : Int)) = false := decide_eq_false (by omega)
            go_wp2
            go_ret
            exact ⟨by rw [HNO.out]; rfl, rfl⟩
          · have d1 : decide ((t[k].toNat : Int) ≤ 57) = false := decide_eq_false (by omega)
            have d2 : decide ((t[k].toNat : Int) ≤ 102) = false := decide_eq_false (by omega)
            go_wp2
            go_ret
            exact ⟨by rw [HNO.out]; rfl, rfl⟩
        · have hcase : ((48 ≤ (t[k].toNat : Int) ∧ (t[k].toNat : Int) ≤ 57) ∧ dgV (c k) base = (t[k].toNat : Int) - 48) ∨ ((97 ≤ (t[k].toNat : Int) ∧ (t[k].toNat : Int) ≤ 102 ∧ (t[k].toNat : Int) - 97 + 10 < base) ∧ dgV (c k) base = (t[k].toNat : Int) - 97 + 10) := by
            rw [← HCB.out] at hbad ⊢
            unfold dgV at hbad ⊢
            by_cases h1 : 48 ≤ (t[k].toNat : Int) ∧ (t[k].toNat : Int) ≤ 57
            · rw [hexV_dig h1.1 h1.2, if_neg (by omega)]; exact .inl ⟨h1, rfl⟩
            · by_cases h2 : 97 ≤ (t[k].toNat : Int) ∧ (t[k].toNat : Int) ≤ 102
              · rw [hexV_let h2.1 h2.2] at hbad ⊢
                by_cases h3 : base ≤ (t[k].toNat : Int) - 97 + 10
                · rw [if_pos h3] at hbad; omega
                · rw [if_neg h3]; exact .inr ⟨⟨h2.1, h2.2, by omega⟩, rfl⟩
              · rw [hexV_other h1 h2, if_neg (by omega)] at hbad; omega
          have HDG' : Hid (allV (dgB c base) (k + 1) = true) := by
            show _ = true
            rw [allV, HDG.out]; exact decide_eq_true (by omega)
          clear hbad
          by_cases hov : most < numV c base k
          · have HNO : Hid (numD c t.size base most = -1) := by
              show _ = _
              cases k with
              | zero => simp [numV] at hov; omega
              | succ j => exact numD_no (numO_big (k := j) (by omega) hov)
            rcases hcase with ⟨⟨g1, g2⟩, gv⟩ | ⟨⟨g1, g2, g3⟩, gv⟩
            · clear gv
              go_wp2
              go_ret
              exact ⟨by rw [HNO.out]; rfl, rfl⟩
            · clear gv
              have d1 : decide ((t[k].toNat : Int) ≤ 57) = false := decide_eq_false (by omega)
              go_wp2
              go_ret
              exact ⟨by rw [HNO.out]; rfl, rfl⟩
          · have hmul : 0 ≤ numV c base k * base ∧ numV c base k * base ≤ 16000000000 := by
              refine ⟨Int.mul_nonneg hlo (by omega), ?_⟩
              have := Int.mul_le_mul (show numV c base k ≤ 1000000000 by omega) hb (by omega) (by omega : (0:Int) ≤ 1000000000)
              omega
            obtain ⟨hmu0, hmu1⟩ := hmul
            have hcm := Lib.hid (Int.mul_comm (numV c base k) base)
            rcases hcase with ⟨⟨g1, g2⟩, gv⟩ | ⟨⟨g1, g2, g3⟩, gv⟩
            · have GV := Lib.hid gv
              clear gv
              go_wp2
              go_round
              case rel => exact ⟨k + 1, by omega, by rw [numV, GV.out, ← hcm.out], by go_num, HDG'.out, fun _ => by show numV c base k ≤ most; omega, by show allV _ k = true; exact HLE'.out (by omega), by rw [numV, GV.out, ← hcm.out]; omega⟩
              case measure => simp [intOf]; omega
            · have GV := Lib.hid gv
              clear gv
              have d1 : decide ((t[k].toNat : Int) ≤ 57) = false := decide_eq_false (by omega)
              go_wp2
              go_round
              case rel => exact ⟨k + 1, by omega, by rw [numV, GV.out, ← hcm.out], by go_num, HDG'.out, fun _ => by show numV c base k ≤ most; omega, by show allV _ k = true; exact HLE'.out (by omega), by rw [numV, GV.out, ← hcm.out]; omega⟩
              case measure => simp [intOf]; omega
      · have hd : decide (k < t.size) = false := decide_eq_false hlt
        have HK := Lib.hid (show k = t.size by omega)
        by_cases hov : most < numV c base k
        · have HNO : Hid (numD c t.size base most = -1) := by
            show _ = _
            cases k with
            | zero => simp [numV] at hov; omega
            | succ j => exact numD_no (numO_big (k := j) (by omega) hov)
          go_wp2
          go_ret
          exact ⟨by rw [HNO.out]; rfl, rfl⟩
        · have HYES : Hid (numD c t.size base most = numV c base k) := by
            show _ = _
            rw [← HK.out]
            exact numD_yes (numO_yes (by omega) (by rw [HK.out]; exact HLD.out) HDG.out (HLE'.out (by omega)))
          go_wp2
          go_ret
          exact ⟨by rw [HYES.out]; rfl, rfl⟩
end Go.Proofs.YtopolfibledmnaaDoor
