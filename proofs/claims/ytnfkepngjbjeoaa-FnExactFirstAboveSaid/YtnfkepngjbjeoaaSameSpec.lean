/-
  SameCurve and CurveBelow of the reference; what both sides say is the same.
-/
import Derived.Test.YtnfkepngjbjeoaaCuFits
import Derived.Test.YtnfkepngjbjeoaaShortCurveWalk
namespace Go.Proofs.Ytnfkepngjbjeoaa
open Go.RowKit
def oneC (f l s : Int) : Nat → Nat → Int := fun _ j => if j = 0 then f else if j = 1 then l else s
theorem own_one (w : World) (b : Nat) (hb : b = w.heap.size) (f l s : Int) : OwnCurveS (w.alloc (.cells #[.int .i64 f, .int .i64 l, .int .i64 s] 25)) b 1 (oneC f l s) := by
  subst hb
  refine Own.lit w _ _ _ _ fun i hi => ?_
  exact (by
    have hi3 : i < 3 := hi
    match i, hi3 with
    | 0, _ => rfl
    | 1, _ => rfl
    | 2, _ => rfl)
theorem fit_one (f l s f' l' s' : Int) : allB (fitT (oneC f l s) 1 f' l' s') (sumLe (oneC f l s) 1 f' l' s') = allB (tms l l') (leT f l s f' l' s') := by
  have e1 : fitT (oneC f l s) 1 f' l' s' = tms l l' := puts_times [l', l] [l, l'] (fun x => by simp [or_comm])
  have e2 : sumLe (oneC f l s) 1 f' l' s' = leT f l s f' l' s' := by
    funext t
    simp [sumLe, leT, sumC, oneC]
  rw [e1, e2]
def shEq (f l s f' l' s' : Int) : Bool := decide (shF f l s = shF f' l' s' ∧ shL f l s = shL f' l' s' ∧ s = s')
theorem same_all {f l s f' l' s' : Int} (h : crvB f l s = true) (h' : crvB f' l' s' = true) : allB (tms l l') (eqT f l s f' l' s') = shEq f l s f' l' s' := by
  obtain ⟨_, ⟨l0, l1⟩, _⟩ := crvB_iff.1 h
  obtain ⟨_, ⟨l0', l1'⟩, _⟩ := crvB_iff.1 h'
  have key := same_iff (f := f) (s := s) (f' := f') (s' := s') l0 l1 l0' l1'
  rw [Bool.eq_iff_iff, allB, List.all_eq_true, shEq, decide_eq_true_eq, ← key]
  exact ⟨fun h t ht => of_decide_eq_true (h t ht), fun h t ht => decide_eq_true (h t ht)⟩
set_option maxHeartbeats 1000000 in
theorem specSameCurve_no (f l s f' l' s' : Int) (w : World) (h : crvB f l s = false ∨ (crvB f l s = true ∧ crvB f' l' s' = false)) :
    Calls Try.prog 30 #[.agg #[.int .i64 f, .int .i64 l, .int .i64 s], .agg #[.int .i64 f', .int .i64 l', .int .i64 s']] w fun e w' => e = .returned (.tuple #[.bool false, .bool false]) ∧ Below w.heap.size w w' := by
  have HG : Hid (∀ W, _) := fun W => cuGood_any f l s W
  have HG' : Hid (∀ W, _) := fun W => cuGood_any f' l' s' W
  rcases h with h | ⟨h, h'⟩
  · rw [h] at HG
    clear h
    go_enter Try.func30, Try.ntmps30
    go_wp2_with fail
    refine (HG.out _).mono ?_
    rintro e w1 ⟨rfl, rfl⟩
    go_wp2_with fail
    go_ret2
    exact ⟨rfl, by (repeat refine belAlloc ?_ _); exact Below.refl _ _⟩
  · rw [h] at HG
    rw [h'] at HG'
    clear h h'
    go_enter Try.func30, Try.ntmps30
    go_wp2_with fail
    refine (HG.out _).mono ?_
    rintro e w1 ⟨rfl, rfl⟩
    go_wp2_with fail
    refine (HG'.out _).mono ?_
    rintro e w1 ⟨rfl, rfl⟩
    go_wp2_with fail
    go_ret2
    exact ⟨rfl, by (repeat refine belAlloc ?_ _); exact Below.refl _ _⟩
set_option maxHeartbeats 1000000 in
theorem specCurveBelow_no (f l s f' l' s' : Int) (w : World) (h : crvB f l s = false ∨ (crvB f l s = true ∧ crvB f' l' s' = false)) :
    Calls Try.prog 32 #[.agg #[.int .i64 f, .int .i64 l, .int .i64 s], .agg #[.int .i64 f', .int .i64 l', .int .i64 s']] w fun e w' => e = .returned (.tuple #[.bool false, .bool false]) ∧ Below w.heap.size w w' := by
  have HG : Hid (∀ W, _) := fun W => cuGood_any f l s W
  have HG' : Hid (∀ W, _) := fun W => cuGood_any f' l' s' W
  rcases h with h | ⟨h, h'⟩
  · rw [h] at HG
    clear h
    go_enter Try.func32, Try.ntmps32
    go_wp2_with fail
    refine (HG.out _).mono ?_
    rintro e w1 ⟨rfl, rfl⟩
    go_wp2_with fail
    go_ret2
    exact ⟨rfl, by (repeat refine belAlloc ?_ _); exact Below.refl _ _⟩
  · rw [h] at HG
    rw [h'] at HG'
    clear h h'
    go_enter Try.func32, Try.ntmps32
    go_wp2_with fail
    refine (HG.out _).mono ?_
    rintro e w1 ⟨rfl, rfl⟩
    go_wp2_with fail
    refine (HG'.out _).mono ?_
    rintro e w1 ⟨rfl, rfl⟩
    go_wp2_with fail
    go_ret2
    exact ⟨rfl, by (repeat refine belAlloc ?_ _); exact Below.refl _ _⟩
set_option maxHeartbeats 1000000 in
theorem specCurveBelow_yes (f l s f' l' s' : Int) (w : World) (h : crvB f l s = true) (h' : crvB f' l' s' = true) :
    Calls Try.prog 32 #[.agg #[.int .i64 f, .int .i64 l, .int .i64 s], .agg #[.int .i64 f', .int .i64 l', .int .i64 s']] w fun e w' => e = .returned (.tuple #[.bool (allB (tms l l') (leT f l s f' l' s')), .bool true]) ∧ Below w.heap.size w w' := by
  have HG : Hid (∀ W, _) := fun W => cuGood_any f l s W
  have HG' : Hid (∀ W, _) := fun W => cuGood_any f' l' s' W
  have HX : Hid (∀ W g c, OwnCurveS W g 1 (oneC f l s) → Calls Try.prog 55 #[.slice (some ⟨g, 0, none⟩) 1 c, .agg #[.int .i64 f', .int .i64 l', .int .i64 s']] W fun e w' => e = .returned (.bool (allB (tms l l') (leT f l s f' l' s'))) ∧ Below W.heap.size W w') := fun W g c ho => by
    rw [← fit_one]
    exact cuFits_any g c 1 (oneC f l s) f' l' s' W (by omega) (fun i _ => h) h' ho
  rw [h] at HG
  rw [h'] at HG'
  clear h h'
  go_enter Try.func32, Try.ntmps32
  go_wp2_with fail
  refine (HG.out _).mono ?_
  rintro e w1 ⟨rfl, rfl⟩
  go_wp2_with fail
  refine (HG'.out _).mono ?_
  rintro e w1 ⟨rfl, rfl⟩
  go_wp2_with fail
  refine (HX.out _ _ _ ?hown).mono ?_
  case hown => exact own_one _ _ (by simp) f l s
  rintro e w1 ⟨rfl, hb1⟩
  have HB := Lib.hid (belNext (w := w) (by (repeat refine belAlloc ?_ _); exact Below.refl _ _) hb1)
  clear hb1
  go_wp2_with fail
  go_ret2
  exact ⟨rfl, HB.out⟩
set_option maxHeartbeats 2000000 in
theorem specSameCurve_yes (f l s f' l' s' : Int) (w : World) (h : crvB f l s = true) (h' : crvB f' l' s' = true) :
    Calls Try.prog 30 #[.agg #[.int .i64 f, .int .i64 l, .int .i64 s], .agg #[.int .i64 f', .int .i64 l', .int .i64 s']] w fun e w' => e = .returned (.tuple #[.bool (shEq f l s f' l' s'), .bool true]) ∧ Below w.heap.size w w' := by
  have HG : Hid (∀ W, _) := fun W => cuGood_any f l s W
  have HG' : Hid (∀ W, _) := fun W => cuGood_any f' l' s' W
  obtain ⟨⟨f0, f1⟩, _, s0, s1⟩ := crvB_iff.1 h
  obtain ⟨⟨f0', f1'⟩, _, s0', s1'⟩ := crvB_iff.1 h'
  have HE := Lib.hid (fun W => cuShort_any f l s W (by omega) (by omega))
  have HE' := Lib.hid (fun W => cuShort_any f' l' s' W (by omega) (by omega))
  rw [h] at HG
  rw [h'] at HG'
  clear h h'
  obtain ⟨a, ha⟩ : ∃ a, shF f l s = a := ⟨_, rfl⟩
  obtain ⟨b, hb⟩ : ∃ b, shL f l s = b := ⟨_, rfl⟩
  obtain ⟨a', ha'⟩ : ∃ a, shF f' l' s' = a := ⟨_, rfl⟩
  obtain ⟨b', hb'⟩ : ∃ b, shL f' l' s' = b := ⟨_, rfl⟩
  have e : shEq f l s f' l' s' = decide (a = a' ∧ b = b' ∧ s = s') := by rw [shEq, ha, hb, ha', hb']
  rw [ha, hb] at HE
  rw [ha', hb'] at HE'
  rw [e]
  clear e ha hb ha' hb'
  have HR : ∀ v : Bool, v = decide (a = a' ∧ b = b' ∧ s = s') → ((a == a') = true ∧ (b == b') = true ∧ (s == s') = true ∧ v = true) ∨ ((a == a') = false ∧ v = false) ∨ ((a == a') = true ∧ (b == b') = false ∧ v = false) ∨ ((a == a') = true ∧ (b == b') = true ∧ (s == s') = false ∧ v = false) := by
    intro v hv
    by_cases h1 : a = a' <;> by_cases h2 : b = b' <;> by_cases h3 : s = s' <;> simp [h1, h2, h3] at hv ⊢ <;> simp [hv]
  generalize hv : decide (a = a' ∧ b = b' ∧ s = s') = v
  rcases HR v hv.symm with ⟨c1, c2, c3, rfl⟩ | ⟨c1, rfl⟩ | ⟨c1, c2, rfl⟩ | ⟨c1, c2, c3, rfl⟩
  all_goals
    clear HR hv
    go_enter Try.func30, Try.ntmps30
    go_wp2_with fail
    refine (HG.out _).mono ?_
    rintro e w1 ⟨rfl, rfl⟩
    go_wp2_with fail
    refine (HG'.out _).mono ?_
    rintro e w1 ⟨rfl, rfl⟩
    go_wp2_with fail
    go_region_with ((first | (go_at_call 49; (with_reducible refine (HE.out _).mono ?_); rintro e w2 ⟨rfl, rfl⟩) | (go_at_call 49; (with_reducible refine (HE'.out _).mono ?_); rintro e w2 ⟨rfl, rfl⟩)))
    all_goals
      go_wp2_with fail
      go_ret2
      exact ⟨rfl, by repeat (first | exact Below.refl _ _ | assumption | refine Below.alloc ?_ (by simp; try omega) _ | refine Below.setCell ?_ (by simp; try omega) _ | refine Below.drew ?_)⟩
end Go.Proofs.Ytnfkepngjbjeoaa
