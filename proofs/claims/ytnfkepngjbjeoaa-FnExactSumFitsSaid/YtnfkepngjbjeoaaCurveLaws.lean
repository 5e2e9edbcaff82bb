/-
  Plain laws of curves: equal at the ends of all pieces just where the short forms are equal; a difference that is straight between two neighbouring times stays above once it is; the least time. No walk.
-/
import Derived.Test.YtnfkepngjbjeoaaCurve
import Derived.Test.YtnfkepngjbjeoaaShortCurveWalk
import Derived.Test.YtnfkepngjbjeoaaTimes
namespace Go.Proofs.Ytnfkepngjbjeoaa
theorem cAt_short {f l s t : Int} (ht : 0 ≤ t) (hl : 0 ≤ l) : cAt (shF f l s) (shL f l s) s t = cAt f l s t := by
  unfold shF shL
  by_cases h : l = 0 ∨ f = s
  · rw [if_pos h, if_pos h]
    rcases h with rfl | rfl
    · unfold cAt
      split
      · obtain rfl : t = 0 := by omega
        simp
      · simp
    · unfold cAt
      by_cases h1 : t ≤ 0
      · obtain rfl : t = 0 := by omega
        simp [hl]
      · rw [if_neg h1]
        split
        · simp
        · rw [Int.mul_sub f t l]; simp; omega
  · rw [if_neg h, if_neg h]
theorem cancel {a b c : Int} (h : a * c = b * c) (hc : c ≠ 0) : a = b := Int.eq_of_mul_eq_mul_right hc h
theorem same_le {f l s f' l' s' : Int} (h0 : 0 ≤ l) (h1 : l ≤ l') (h2 : l' ≤ 10000) (a1 : cAt f l s l = cAt f' l' s' l) (a2 : cAt f l s l' = cAt f' l' s' l') (a3 : cAt f l s 100000 = cAt f' l' s' 100000) :
    shF f l s = shF f' l' s' ∧ shL f l s = shL f' l' s' ∧ s = s' := by
  have e1 : f * l = f' * l := by simpa [cAt, h1] using a1
  have e3 : f * l + s * (100000 - l) = f' * l' + s' * (100000 - l') := by
    unfold cAt at a3
    rwa [if_neg (by omega), if_neg (by omega)] at a3
  rcases Int.lt_or_eq_of_le h1 with h | rfl
  · have e2 : f * l + s * (l' - l) = f' * l' := by
      unfold cAt at a2
      rwa [if_neg (by omega), if_pos (by omega)] at a2
    have e4 : s * (100000 - l') = s' * (100000 - l') := by
      rw [Int.mul_sub] at e2 e3 ⊢
      omega
    have es := cancel e4 (by omega)
    subst es
    have hl' : l' ≠ 0 := by omega
    by_cases hl : l = 0
    · subst hl
      have e5 : f' = s := (cancel (a := s) (b := f') (c := l') (by simpa using e2) hl').symm
      subst e5
      simp [shF, shL]
    · have ef := cancel e1 hl
      subst ef
      have e6 : s * (l' - l) = f * (l' - l) := by rw [Int.mul_sub f]; omega
      have e7 := cancel e6 (by omega)
      subst e7
      simp [shF, shL]
  · have e4 : s * (100000 - l) = s' * (100000 - l) := by omega
    have es := cancel e4 (by omega)
    subst es
    by_cases hl : l = 0
    · subst hl
      simp [shF, shL]
    · have ef := cancel e1 hl
      subst ef
      exact ⟨rfl, rfl, rfl⟩
theorem same_iff {f l s f' l' s' : Int} (h0 : 0 ≤ l) (h1 : l ≤ 10000) (h0' : 0 ≤ l') (h1' : l' ≤ 10000) :
    (∀ t, t ∈ times ([0, 100000] ++ [l, l']) → cAt f l s t = cAt f' l' s' t) ↔ (shF f l s = shF f' l' s' ∧ shL f l s = shL f' l' s' ∧ s = s') := by
  constructor
  · intro h
    have b1 := h l ((times_mem _ _).2 (by simp))
    have b2 := h l' ((times_mem _ _).2 (by simp))
    have b3 := h 100000 ((times_mem _ _).2 (by simp))
    rcases Int.le_total l l' with hle | hle
    · exact same_le h0 hle h1' b1 b2 b3
    · obtain ⟨c1, c2, c3⟩ := same_le h0' hle h1 b2.symm b1.symm b3.symm
      exact ⟨c1.symm, c2.symm, c3.symm⟩
  · rintro ⟨c1, c2, rfl⟩ t ht
    have hm := (times_mem _ _).1 ht
    have ht0 : 0 ≤ t := by
      simp at hm
      omega
    rw [← cAt_short ht0 h0, ← cAt_short ht0 h0', c1, c2]
/-- Straight between p and q. -/
theorem cAt_aff {f l s p q : Int} (h : l ≤ p ∨ q ≤ l) : ∃ m : Int, ∀ t, p ≤ t → t ≤ q → cAt f l s t = cAt f l s p + m * (t - p) := by
  rcases h with h | h
  · refine ⟨s, fun t h1 h2 => ?_⟩
    unfold cAt
    by_cases e : p ≤ l
    · obtain rfl : p = l := by omega
      rw [if_pos (Int.le_refl _)]
      split
      · obtain rfl : t = p := by omega
        simp
      · rfl
    · rw [if_neg e, if_neg (by omega), Int.mul_sub, Int.mul_sub, Int.mul_sub]
      omega
  · refine ⟨f, fun t h1 h2 => ?_⟩
    unfold cAt
    rw [if_pos (by omega), if_pos (by omega), Int.mul_sub]
    omega
/-- Where the difference is not above at p, it stays above once it is. -/
theorem above_mono {f l s f' l' s' p q : Int} (h : l ≤ p ∨ q ≤ l) (h' : l' ≤ p ∨ q ≤ l') (hp : cAt f l s p ≤ cAt f' l' s' p) {t u : Int} (ht : p ≤ t) (htu : t ≤ u) (hu : u ≤ q) (ha : cAt f' l' s' t < cAt f l s t) : cAt f' l' s' u < cAt f l s u := by
  obtain ⟨m, hm⟩ := cAt_aff (f := f) (s := s) h
  obtain ⟨m', hm'⟩ := cAt_aff (f := f') (s := s') h'
  have a1 := hm t ht (by omega)
  have a2 := hm' t ht (by omega)
  have a3 := hm u (by omega) hu
  have a4 := hm' u (by omega) hu
  have hpos : 0 < (m - m') * (t - p) := by rw [Int.sub_mul]; omega
  have hM : 0 < m - m' := by
    rcases Int.lt_or_le 0 (m - m') with h1 | h1
    · exact h1
    · have := Int.mul_nonneg (a := -(m - m')) (b := t - p) (by omega) (by omega)
      rw [Int.neg_mul] at this
      omega
  have hle : (m - m') * (t - p) ≤ (m - m') * (u - p) := Int.mul_le_mul_of_nonneg_left (by omega) (by omega)
  rw [Int.sub_mul, Int.sub_mul] at hle
  omega
/-- L is the first of low, .. at which p holds. -/
def Least (p : Int → Bool) (low L : Int) : Prop := low ≤ L ∧ p L = true ∧ ∀ t, low ≤ t → t < L → p t = false
theorem least_ex {p : Int → Bool} {low : Int} : ∀ (n : Nat), p (low + n) = true → ∃ L, Least p low L ∧ L ≤ low + n := by
  intro n
  induction n using Nat.strongRecOn with
  | ind n ih =>
    intro h
    by_cases hx : ∃ m : Nat, m < n ∧ p (low + m) = true
    · obtain ⟨m, hm, hp⟩ := hx
      obtain ⟨L, hL, hle⟩ := ih m hm hp
      exact ⟨L, hL, by omega⟩
    · refine ⟨low + n, ⟨by omega, h, fun t h1 h2 => ?_⟩, Int.le_refl _⟩
      cases hp : p t with
      | false => rfl
      | true => exact absurd ⟨(t - low).toNat, by omega, by rw [show low + ((t - low).toNat : Int) = t by omega]; exact hp⟩ hx
theorem least_one {p : Int → Bool} {low L M : Int} (h : Least p low L) (h' : Least p low M) : L = M := by
  rcases Int.lt_trichotomy L M with e | e | e
  · have := h'.2.2 L h.1 e; rw [h.2.1] at this; cases this
  · exact e
  · have := h.2.2 M h'.1 e; rw [h'.2.1] at this; cases this
theorem cAt_mono {f l s t u : Int} (h : crvB f l s = true) (htu : t ≤ u) : cAt f l s t ≤ cAt f l s u := by
  obtain ⟨⟨h1, h2⟩, ⟨h3, h4⟩, h5, h6⟩ := crvB_iff.1 h
  unfold cAt
  by_cases a : t ≤ l
  · rw [if_pos a]
    by_cases b : u ≤ l
    · rw [if_pos b]; exact Int.mul_le_mul_of_nonneg_left htu h1
    · rw [if_neg b]
      have c1 : f * t ≤ f * l := Int.mul_le_mul_of_nonneg_left a h1
      have c2 : 0 ≤ s * (u - l) := Int.mul_nonneg h5 (by omega)
      omega
  · rw [if_neg a, if_neg (by omega)]
    have c1 : s * (t - l) ≤ s * (u - l) := Int.mul_le_mul_of_nonneg_left (by omega) h5
    omega
end Go.Proofs.Ytnfkepngjbjeoaa
