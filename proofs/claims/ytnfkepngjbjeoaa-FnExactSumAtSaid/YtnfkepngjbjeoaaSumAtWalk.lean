/-
  SumAt, the program's and the reference's: both return the sum of the values; the walk of FnExactSumAt.
-/
import Derived.Test.YtnfkepngjbjeoaaCurveList
namespace Go.Proofs.Ytnfkepngjbjeoaa
open Go.RowKit
def saB (f : Nat → Nat → Int) (n : Nat) (t : Int) : Bool := crvsB f n && decide (0 ≤ t ∧ t ≤ 100000)
def saV (f : Nat → Nat → Int) (n : Nat) (t : Int) : Int := if saB f n t then sumC f t n else 0
set_option maxHeartbeats 1000000 in
theorem implSumAt_any (g c n : Nat) (f : Nat → Nat → Int) (t : Int) (w : World) (_ : ∀ i j, -9223372036854775808 ≤ f i j ∧ f i j ≤ 9223372036854775807) (hn : n ≤ 1048576) (hown : OwnCurveS w g n f) :
    Calls Try.prog 28 #[.slice (some ⟨g, 0, none⟩) n c, .int .i64 t] w fun e w' => e = .returned (.tuple #[.int .i64 (saV f n t), .bool (saB f n t)]) ∧ Below w.heap.size w w' := by
  have HL := Lib.hid (areCurves_any g c n f w hn hown)
  have HT : Hid (∀ W, _) := fun W => isTime_any t W
  have HC := Lib.hid hown
  clear hown
  unfold saV saB
  by_cases h : crvsB f n = true
  · obtain ⟨h12, hall⟩ := crvsB_at h
    rw [h] at HL ⊢
    by_cases ht : 0 ≤ t ∧ t ≤ 100000
    · have HS : Hid (∀ W, OwnCurveS W g n f → _) := fun W ho => sumAt_any g c n f t W h12 hall ht.1 ht.2 ho
      rw [decide_eq_true ht] at HT ⊢
      simp only [Bool.and_self, if_true]
      generalize sumC f t n = x at HS ⊢
      clear h hall ht
      go_enter Try.func28, Try.ntmps28
      go_wp2_with fail
      refine HL.out.mono ?_
      rintro e w1 ⟨rfl, hb1⟩
      have HB1 := Lib.hid hb1
      clear hb1
      go_wp2_with fail
      refine (HT.out _).mono ?_
      rintro e w2 ⟨rfl, rfl⟩
      go_wp2_with fail
      refine (HS.out _ (HC.out.later HB1.out)).mono ?_
      rintro e w2 ⟨rfl, hb2⟩
      have HB2 := Lib.hid (belNext HB1.out hb2)
      clear hb2
      go_wp2_with fail
      go_ret2
      exact ⟨rfl, HB2.out⟩
    · rw [decide_eq_false ht] at HT ⊢
      simp only [Bool.and_false]
      clear h hall ht
      go_enter Try.func28, Try.ntmps28
      go_wp2_with fail
      refine HL.out.mono ?_
      rintro e w1 ⟨rfl, hb1⟩
      go_wp2_with fail
      refine (HT.out _).mono ?_
      rintro e w2 ⟨rfl, rfl⟩
      go_wp2_with fail
      go_ret2
      exact ⟨rfl, hb1⟩
  · have h' : crvsB f n = false := by simpa using h
    rw [h'] at HL ⊢
    simp only [Bool.false_and]
    clear h h'
    go_enter Try.func28, Try.ntmps28
    go_wp2_with fail
    refine HL.out.mono ?_
    rintro e w1 ⟨rfl, hb1⟩
    go_wp2_with fail
    go_ret2
    exact ⟨rfl, hb1⟩
set_option maxHeartbeats 1000000 in
theorem specSumAt_any (g c n : Nat) (f : Nat → Nat → Int) (t : Int) (w : World) (_ : ∀ i j, -9223372036854775808 ≤ f i j ∧ f i j ≤ 9223372036854775807) (hn : n ≤ 1048576) (hown : OwnCurveS w g n f) :
    Calls Try.prog 26 #[.slice (some ⟨g, 0, none⟩) n c, .int .i64 t] w fun e w' => e = .returned (.tuple #[.int .i64 (saV f n t), .bool (saB f n t)]) ∧ Below w.heap.size w w' := by
  have HL := Lib.hid (cuList_any g c n f w hn hown)
  have HT : Hid (∀ W, _) := fun W => cuTime_any t W
  have HC := Lib.hid hown
  clear hown
  unfold saV saB
  by_cases h : crvsB f n = true
  · obtain ⟨h12, hall⟩ := crvsB_at h
    rw [h] at HL ⊢
    by_cases ht : 0 ≤ t ∧ t ≤ 100000
    · have HS : Hid (∀ W, OwnCurveS W g n f → _) := fun W ho => cuSum_any g c n f t W h12 hall ht.1 ht.2 ho
      rw [decide_eq_true ht] at HT ⊢
      simp only [Bool.and_self, if_true]
      generalize sumC f t n = x at HS ⊢
      clear h hall ht
      go_enter Try.func26, Try.ntmps26
      go_wp2_with fail
      refine HL.out.mono ?_
      rintro e w1 ⟨rfl, hb1⟩
      have HB1 := Lib.hid hb1
      clear hb1
      go_wp2_with fail
      refine (HT.out _).mono ?_
      rintro e w2 ⟨rfl, rfl⟩
      go_wp2_with fail
      refine (HS.out _ (HC.out.later HB1.out)).mono ?_
      rintro e w2 ⟨rfl, hb2⟩
      have HB2 := Lib.hid (belNext HB1.out hb2)
      clear hb2
      go_wp2_with fail
      go_ret2
      exact ⟨rfl, HB2.out⟩
    · rw [decide_eq_false ht] at HT ⊢
      simp only [Bool.and_false]
      clear h hall ht
      go_enter Try.func26, Try.ntmps26
      go_wp2_with fail
      refine HL.out.mono ?_
      rintro e w1 ⟨rfl, hb1⟩
      go_wp2_with fail
      refine (HT.out _).mono ?_
      rintro e w2 ⟨rfl, rfl⟩
      go_wp2_with fail
      go_ret2
      exact ⟨rfl, hb1⟩
  · have h' : crvsB f n = false := by simpa using h
    rw [h'] at HL ⊢
    simp only [Bool.false_and]
    clear h h'
    go_enter Try.func26, Try.ntmps26
    go_wp2_with fail
    refine HL.out.mono ?_
    rintro e w1 ⟨rfl, hb1⟩
    go_wp2_with fail
    go_ret2
    exact ⟨rfl, hb1⟩
set_option maxHeartbeats 2000000 in
theorem fnExactSumAt_walk (w : World) (A : Option Addr) (n c : Nat) (f : Nat → Nat → Int) (hn : n ≤ maxLen) (hf : ∀ i j, -9223372036854775808 ≤ f i j ∧ f i j ≤ 9223372036854775807) (hr : Seg w w.heap.size 3 A n fun i j => .int .i64 (f i j))
    (t : Int) (_ : -9223372036854775808 ≤ t) (_ : t ≤ 9223372036854775807) :
    Calls Try.prog 8 #[.slice A n c, .int .i64 t] w fun e w' => e = .returned (.bool true) ∧ Below w.heap.size w w' := by
  unfold maxLen at hn
  have HF := Lib.hid hf
  have HR := Lib.hid hr
  clear hf hr
  by_cases hbig : 1048576 < (n : Int)
  · go_enter Try.func8, Try.ntmps8
    go_wp2_with (go_at_call 25; refine (szCurveS_big _ _ _ _ (by omega) (by omega)).mono ?_; rintro e w0 ⟨rfl, rfl⟩)
    go_ret
    exact ⟨rfl, Below.refl _ _⟩
  · go_enter Try.func8, Try.ntmps8
    go_wp2_with (go_at_call 25; refine (szCurveS_small _ _ _ _ (by omega)).mono ?_; rintro e w0 ⟨rfl, rfl⟩)
    refine (toCurveS_any A n c f _ (by omega) HR.out).mono ?_
    rintro e w1 ⟨rfl, ho1, hb1⟩
    have O1 := Lib.hid ho1
    have B1 := Lib.hid hb1
    clear ho1 hb1
    go_wp2_with fail
    refine (specSumAt_any _ _ n f t _ HF.out (by omega) O1.out).mono ?_
    rintro e w1b ⟨rfl, hbs⟩
    have B1 := Lib.hid (belNext B1.out hbs)
    clear hbs O1
    go_wp2_with fail
    refine (toCurveS_any A n c f _ (by omega) ((HR.out.below B1.out).more B1.out.size)).mono ?_
    rintro e w2 ⟨rfl, ho2, hb2⟩
    have O2 := Lib.hid ho2
    have B2 := Lib.hid (belNext B1.out hb2)
    clear ho2 hb2
    go_wp2_with fail
    refine (implSumAt_any _ _ n f t _ HF.out (by omega) O2.out).mono ?_
    rintro e w2b ⟨rfl, hbs⟩
    have O2 := Lib.hid (O2.out.later hbs)
    have B2 := Lib.hid (belNext B2.out hbs)
    clear hbs
    go_wp2_with fail
    refine (toCurveS_any A n c f _ (by omega) ((HR.out.below B2.out).more B2.out.size)).mono ?_
    rintro e w3 ⟨rfl, ho3, hb3⟩
    have O3 := Lib.hid ho3
    have O2 := Lib.hid (O2.out.later hb3)
    have B3 := Lib.hid (belNext B2.out hb3)
    clear ho3 hb3
    go_wp2_with fail
    refine (eqCurveS_any _ _ _ _ n f _ _ _ (by omega) O2.out.row O3.out.row).mono ?_
    rintro e w4 ⟨rfl, hb4⟩
    have B4 := Lib.hid (belNext B3.out hb4)
    clear hb4
    go_wp2_with fail
    go_ret
    exact ⟨rfl, B4.out⟩
end Go.Proofs.Ytnfkepngjbjeoaa
