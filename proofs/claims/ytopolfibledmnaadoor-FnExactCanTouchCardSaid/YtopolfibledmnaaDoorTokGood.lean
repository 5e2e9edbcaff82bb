/-
  Which tokens are good, in plain words: the program's way of saying it and the reference's say the same.
-/
import Derived.Test.YtopolfibledmnaaDoorTokAt
import Derived.Test.YtopolfibledmnaaDoorTokenS
namespace Go.Proofs.YtopolfibledmnaaDoor
open Go.RowKit
/-- As the program has it. -/
def gdB (x : Tk) : Bool := decide (0 ≤ x.a ∧ x.a ≤ 4000) && (if x.k = 1 ∨ x.k = 2 then decide (x.v = 0) && decide (wkD x.t = x.k) else if x.k = 3 then decide (0 ≤ raD x.t) && decide (raD x.t = x.v) else if x.k = 4 then hasS signNs x.t && decide (x.v = 0) else false)
/-- As the reference has it. -/
def gsB (x : Tk) : Bool := decide (0 ≤ x.a ∧ x.a ≤ 4000) && (if x.t.size = 0 then false else if hasS signNs x.t then decide (x.k = 4) && decide (x.v = 0) else decide (alEnd x.t 0 = x.t.size) && decide (mkF x.t = 0) && decide (mkK x.t = x.k) && decide (mkV x.t = x.v))
theorem hasS_at {t : ByteArray} (h : hasS signNs t = true) : ∃ k, k < 6 ∧ t = strAt signNs k := by
  have h1 : tabI signNs t < 6 := of_decide_eq_true h
  have h2 := fstOf_holds (tabP signNs t) 6 0 (by unfold tabI at h1; exact Nat.lt_of_lt_of_eq h1 (by rfl))
  refine ⟨tabI signNs t, h1, ?_⟩
  have h3 : ((strAt signNs (tabI signNs t)).toList == t.toList) = true := h2
  have h4 := eq_of_beq h3
  rw [ByteArray.toList_eq, ByteArray.toList_eq] at h4
  exact (ByteArray.ext (Array.ext' h4)).symm
theorem dgB_al {c : Nat → Int} {base : Int} {i : Nat} (h : dgB c base i = true) : alB (c i) = true := by
  have h1 := of_decide_eq_true h
  unfold dgV hexV at h1
  unfold alB
  refine decide_eq_true ?_
  by_cases h2 : 48 ≤ c i ∧ c i ≤ 57
  · exact .inr h2
  · rw [if_neg h2] at h1
    by_cases h3 : 97 ≤ c i ∧ c i ≤ 102
    · exact .inl (by omega)
    · rw [if_neg h3] at h1
      split at h1 <;> omega
theorem numD_dig {c : Nat → Int} {n : Nat} {base most : Int} (h : 0 ≤ numD c n base most) : 0 < n ∧ (∀ i, i < n → dgB c base i = true) ∧ (∀ i, i < n → leB c base most i = true) ∧ ¬ (c 0 = 48 ∧ 1 < n) := by
  cases ho : numO c n base most with
  | false => rw [numD_no ho] at h; omega
  | true =>
    unfold numO at ho
    simp only [Bool.and_eq_true, decide_eq_true_eq] at ho
    obtain ⟨⟨⟨h0, h1⟩, h2⟩, h3⟩ := ho
    refine ⟨h0, allV_at h2, allV_at h3, fun hh => ?_⟩
    rw [decide_eq_true hh.1, decide_eq_true hh.2] at h1
    cases h1
theorem numV_grows {c : Nat → Int} {base : Int} (hb : 2 ≤ base) (n : Nat) (hd : ∀ i, i < n → dgB c base i = true) (h0 : 0 < dgV (c 0) base) : ∀ i, i < n → (2 : Int) ^ i ≤ numV c base (i + 1) := by
  intro i
  induction i with
  | zero =>
    intro _
    have e : numV c base 1 = base * numV c base 0 + dgV (c 0) base := rfl
    have e0 : numV c base 0 = 0 := rfl
    rw [e, e0]
    simp
    omega
  | succ i ih =>
    intro hi
    have h1 := ih (by omega)
    have h2 := of_decide_eq_true (hd (i + 1) hi)
    have e : numV c base (i + 1 + 1) = base * numV c base (i + 1) + dgV (c (i + 1)) base := rfl
    have h3 : (0 : Int) ≤ numV c base (i + 1) := Int.le_trans (by have : (0 : Int) < 2 ^ i := Int.pow_pos (by omega); omega) h1
    have h4 : 2 * numV c base (i + 1) ≤ base * numV c base (i + 1) := Int.mul_le_mul_of_nonneg_right hb h3
    have h5 : (2 : Int) ^ (i + 1) = 2 ^ i * 2 := Int.pow_succ 2 i
    rw [e, h5]
    omega
theorem numD_short {c : Nat → Int} {n : Nat} {base most : Int} (hb : 2 ≤ base) (hm : most ≤ 1000000000) (h : 0 ≤ numD c n base most) : n ≤ 32 := by
  obtain ⟨h0, hd, hl, hz⟩ := numD_dig h
  rcases Nat.lt_or_ge 32 n with h32 | h32
  · exfalso
    have hne : c 0 ≠ 48 := fun e => hz ⟨e, by omega⟩
    have hd0 := of_decide_eq_true (hd 0 h0)
    have hpos : 0 < dgV (c 0) base := by
      unfold dgV hexV at hd0 ⊢
      by_cases h2 : 48 ≤ c 0 ∧ c 0 ≤ 57
      · rw [if_pos h2] at hd0 ⊢
        split at hd0
        · omega
        · rename_i hh; rw [if_neg hh]; omega
      · rw [if_neg h2] at hd0 ⊢
        by_cases h3 : 97 ≤ c 0 ∧ c 0 ≤ 102
        · rw [if_pos h3] at hd0 ⊢
          split at hd0
          · omega
          · rename_i hh; rw [if_neg hh]; omega
        · rw [if_neg h3] at hd0
          split at hd0 <;> omega
    have h1 := numV_grows hb n hd hpos 31 (by omega)
    have h2 := of_decide_eq_true (hl 31 (by omega))
    have : (2 : Int) ^ 31 = 2147483648 := by decide
    omega
  · exact h32
/-- A number's text: letters and digits, a digit ahead, not long. -/
theorem raD_text {t : ByteArray} (h : 0 ≤ raD t) : 0 < t.size ∧ t.size ≤ 40 ∧ digB (byt t 0) = true ∧ ∀ i, i < t.size → alB (byt t i) = true := by
  unfold raD at h
  by_cases hx : isHexB t = true
  · rw [if_pos hx, rhD, if_pos hx] at h
    obtain ⟨h2, h3, h4⟩ := of_decide_eq_true hx
    obtain ⟨h0, hd, _, _⟩ := numD_dig h
    have hs := numD_short (by omega) (by omega) h
    refine ⟨by omega, by omega, by rw [h3]; rfl, fun i hi => ?_⟩
    match i, hi with
    | 0, _ => rw [h3]; rfl
    | 1, _ => rw [h4]; rfl
    | i + 2, hi => exact dgB_al (hd i (by omega))
  · rw [if_neg hx] at h
    have dec : ∀ (n : Nat) (most : Int), most ≤ 1000000000 → 0 ≤ numD (byt t) n 10 most → 0 < n ∧ n ≤ 32 ∧ digB (byt t 0) = true ∧ ∀ i, i < n → alB (byt t i) = true := fun n most hm hn => by
      obtain ⟨h0, hd, _, _⟩ := numD_dig hn
      exact ⟨h0, numD_short (by omega) hm hn, (digB_iff _).2 (of_decide_eq_true (hd 0 h0)), fun i hi => dgB_al (hd i hi)⟩
    have sc : ∀ x u : Int, 0 ≤ scaleD x u → 0 ≤ x := fun x u hh => by
      unfold scaleD at hh
      split at hh <;> omega
    have unit : ∀ (most u : Int), most ≤ 1000000000 → 0 < t.size → alB (byt t (t.size - 1)) = true → 0 ≤ scaleD (numD (byt t) (t.size - 1) 10 most) u → 0 < t.size ∧ t.size ≤ 40 ∧ digB (byt t 0) = true ∧ ∀ i, i < t.size → alB (byt t i) = true := fun most u hm hp hl hh => by
      obtain ⟨a, b, c, d⟩ := dec _ most hm (sc _ _ hh)
      refine ⟨by omega, by omega, c, fun i hi => ?_⟩
      rcases Nat.lt_or_ge i (t.size - 1) with h1 | h1
      · exact d i h1
      · have : i = t.size - 1 := by omega
        rw [this]; exact hl
    unfold rnD at h
    split at h
    · rename_i hq
      exact unit 1000 1000000 (by omega) hq.1 (by rw [hq.2]; rfl) h
    · split at h
      · rename_i hq
        exact unit 1000000 1000 (by omega) hq.1 (by rw [hq.2]; rfl) h
      · obtain ⟨a, b, c, d⟩ := dec _ _ (by omega) h
        exact ⟨a, by omega, c, d⟩
theorem alEnd_all {t : ByteArray} (h : ∀ i, i < t.size → alB (byt t i) = true) : alEnd t 0 = t.size := by
  have h1 := alEnd_le t (Nat.zero_le t.size)
  rcases Nat.lt_or_ge (alEnd t 0) t.size with h2 | h2
  · have := stop_at (fun i => alB (byt t i)) (t.size - 0) 0 (by unfold alEnd at h2; omega)
    have h3 := h (alEnd t 0) h2
    rw [show stop (fun i => alB (byt t i)) 0 (t.size - 0) = alEnd t 0 from rfl] at this
    rw [h3] at this
    cases this
  · omega
theorem wdB_text {t : ByteArray} (h : wdB t = true) : 0 < t.size ∧ t.size ≤ 12 ∧ (∀ i, i < t.size → smB (byt t i) = true) := by
  unfold wdB at h
  rw [Bool.and_eq_true] at h
  have h1 := of_decide_eq_true h.1
  have h2 := of_decide_eq_true h.2
  exact ⟨by omega, by omega, fun i hi => stop_all (fun i => smB (byt t i)) t.size 0 i (Nat.zero_le _) (by omega)⟩
theorem al_first {t : ByteArray} (h0 : t.size ≠ 0) (h : alEnd t 0 = t.size) : alB (byt t 0) = true := by
  cases hb : alB (byt t 0) with
  | true => rfl
  | false => rw [alEnd_none hb] at h; omega
theorem mkK_al {t : ByteArray} (hb : alB (byt t 0) = true) : mkK t = 1 ∨ mkK t = 2 ∨ mkK t = 3 := by
  unfold mkK
  cases hs : smB (byt t 0) with
  | true =>
    cases hasS keyNs t with
    | true => exact .inl rfl
    | false => exact .inr (.inl rfl)
  | false =>
    rw [alB_dig hb hs]
    exact .inr (.inr rfl)
theorem gs_gd (x : Tk) : gsB x = gdB x := by
  unfold gsB gdB
  congr 1
  generalize x.k = k
  generalize x.v = v
  generalize x.t = t
  by_cases h0 : t.size = 0
  · rw [if_pos h0]
    have hw : wkD t = 0 := by rw [wkD, wdB, decide_eq_false (p := 1 ≤ t.size ∧ t.size ≤ 12) (by omega), Bool.and_false]; rfl
    have hr : ¬ 0 ≤ raD t := fun h => by have := (raD_text h).1; omega
    have hg : hasS signNs t = false := by
      cases hh : hasS signNs t with
      | false => rfl
      | true =>
        obtain ⟨j, hj, rfl⟩ := hasS_at hh
        have := sign_size hj
        omega
    rw [hw, decide_eq_false hr, hg]
    split
    · rename_i hk
      rw [decide_eq_false (p := (0 : Int) = k) (by omega), Bool.and_false]
    · split
      · rfl
      · split <;> rfl
  rw [if_neg h0]
  cases hg : hasS signNs t with
  | true =>
    obtain ⟨j, hj, rfl⟩ := hasS_at hg
    obtain ⟨h1, h2⟩ := alB_not (sign_first hj)
    have hw : wkD (strAt signNs j) = 0 := by
      rw [wkD]
      cases hh : wdB (strAt signNs j) with
      | false => rfl
      | true =>
        obtain ⟨a, _, c⟩ := wdB_text hh
        rw [c 0 a] at h1
        cases h1
    have hr : ¬ 0 ≤ raD (strAt signNs j) := fun h => by have := (raD_text h).2.2.1; rw [this] at h2; cases h2
    rw [hw, decide_eq_false hr, if_pos rfl]
    split
    · rename_i hk
      rw [decide_eq_false (p := (0 : Int) = k) (by omega), Bool.and_false, decide_eq_false (p := k = 4) (by omega), Bool.false_and]
    · split
      · rename_i hk
        rw [decide_eq_false (p := k = 4) (by omega), Bool.false_and, Bool.false_and]
      · split
        · rename_i hk
          rw [decide_eq_true hk]
        · rename_i hk
          rw [decide_eq_false hk, Bool.false_and]
  | false =>
    rw [if_neg (by simp)]
    by_cases h12 : k = 1 ∨ k = 2
    · rw [if_pos h12, Bool.eq_iff_iff]
      simp only [Bool.and_eq_true, decide_eq_true_eq]
      constructor
      · rintro ⟨⟨⟨e1, e2⟩, e3⟩, e4⟩
        have hal := al_first h0 e1
        cases hs : smB (byt t 0) with
        | false =>
          rw [mkK, hs, alB_dig hal hs] at e3
          exact absurd (show (3 : Int) = k from e3) (by omega)
        | true =>
          cases hw : wdB t with
          | false =>
            rw [mkF, hs, hw] at e2
            exact absurd (show (7 : Int) = 0 from e2) (by omega)
          | true =>
            rw [mkV, hs] at e4
            rw [mkK, hs] at e3
            refine ⟨(show (0 : Int) = v from e4).symm, ?_⟩
            rw [wkD, hw]
            exact e3
      · rintro ⟨e1, e2⟩
        cases hw : wdB t with
        | false =>
          rw [wkD, hw] at e2
          exact absurd (show (0 : Int) = k from e2) (by omega)
        | true =>
          obtain ⟨a, b, c⟩ := wdB_text hw
          have hs := c 0 a
          rw [wkD, hw] at e2
          refine ⟨⟨⟨alEnd_all fun i hi => alB_sm (c i hi), ?_⟩, ?_⟩, ?_⟩
          · rw [mkF, hs, hw]; rfl
          · rw [mkK, hs]; exact e2
          · rw [mkV, hs]; exact e1.symm
    · rw [if_neg h12]
      by_cases h3 : k = 3
      · rw [if_pos h3, Bool.eq_iff_iff]
        simp only [Bool.and_eq_true, decide_eq_true_eq]
        constructor
        · rintro ⟨⟨⟨e1, e2⟩, e3⟩, e4⟩
          have hal := al_first h0 e1
          cases hs : smB (byt t 0) with
          | true =>
            rw [mkK, hs] at e3
            exfalso
            cases hk : hasS keyNs t with
            | true => rw [hk] at e3; exact absurd (show (1 : Int) = k from e3) (by omega)
            | false => rw [hk] at e3; exact absurd (show (2 : Int) = k from e3) (by omega)
          | false =>
            have hd := alB_dig hal hs
            rw [mkV, hs, hd] at e4
            rw [mkF, hs, hd] at e2
            refine ⟨?_, e4⟩
            by_cases hr : raD t < 0
            · rw [if_pos hr] at e2
              exact absurd (show (3 : Int) = 0 from e2) (by omega)
            · omega
        · rintro ⟨e1, e2⟩
          obtain ⟨a, b, c, d⟩ := raD_text e1
          have hs := (digB_al c).2
          refine ⟨⟨⟨alEnd_all d, ?_⟩, ?_⟩, ?_⟩
          · rw [mkF, hs, c]; show (if raD t < 0 then (3 : Int) else 0) = 0; rw [if_neg (by omega)]
          · rw [mkK, hs, c]; exact h3.symm
          · rw [mkV, hs, c]; exact e2
      · rw [if_neg h3]
        have hr : (if k = 4 then false && decide (v = 0) else false) = false := by split <;> rfl
        rw [hr]
        cases hq : (decide (alEnd t 0 = t.size) && decide (mkF t = 0) && decide (mkK t = k) && decide (mkV t = v)) with
        | false => rfl
        | true =>
          simp only [Bool.and_eq_true, decide_eq_true_eq] at hq
          obtain ⟨⟨⟨e1, _⟩, e3⟩, _⟩ := hq
          rcases mkK_al (al_first h0 e1) with h | h | h <;> omega
/-- A good token's text is not long. -/
theorem gd_short {x : Tk} (h : gdB x = true) : x.t.size ≤ 40 := by
  unfold gdB at h
  rw [Bool.and_eq_true] at h
  obtain ⟨_, h⟩ := h
  split at h
  · rename_i hk
    rw [Bool.and_eq_true] at h
    have h2 := of_decide_eq_true h.2
    cases hw : wdB x.t with
    | false => rw [wkD, hw] at h2; exact absurd (show (0 : Int) = x.k from h2) (by omega)
    | true => have := (wdB_text hw).2.1; omega
  · split at h
    · rw [Bool.and_eq_true] at h
      exact (raD_text (of_decide_eq_true h.1)).2.1
    · split at h
      · rw [Bool.and_eq_true] at h
        obtain ⟨j, hj, e⟩ := hasS_at h.1
        have := (sign_size hj).2
        rw [e]; omega
      · cases h
theorem gd_kind {x : Tk} (h : gdB x = true) : 1 ≤ x.k ∧ x.k ≤ 4 := by
  unfold gdB at h
  rw [Bool.and_eq_true] at h
  obtain ⟨_, h⟩ := h
  split at h
  · omega
  · split at h
    · omega
    · split at h
      · omega
      · cases h
end Go.Proofs.YtopolfibledmnaaDoor
