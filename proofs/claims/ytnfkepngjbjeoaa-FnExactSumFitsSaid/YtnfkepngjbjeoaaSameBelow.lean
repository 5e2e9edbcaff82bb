/-
  SameCurve and CurveBelow of the program: both look at all times of bends.
-/
import Derived.Test.YtnfkepngjbjeoaaBends
import Derived.Test.YtnfkepngjbjeoaaCurveBel
import Derived.Test.YtnfkepngjbjeoaaCurveLaws
import Derived.Test.YtnfkepngjbjeoaaFirstTime
namespace Go.Proofs.Ytnfkepngjbjeoaa
open Go.RowKit
def allB (zs : List Int) (p : Int → Bool) : Bool := zs.all p
theorem all_no {zs : List Int} {p : Int → Bool} {j : Nat} (hj : j < zs.length) (h : p (zs.getD j 0) = false) : allB zs p = false := by
  rw [allB, List.all_eq_false]
  refine ⟨zs.getD j 0, ?_, by rw [h]; exact Bool.false_ne_true⟩
  rw [List.getD_eq_getElem?_getD, List.getElem?_eq_getElem hj]
  simp
theorem all_yes {zs : List Int} {p : Int → Bool} (h : ∀ j, j < zs.length → p (zs.getD j 0) = true) : allB zs p = true := by
  rw [allB, List.all_eq_true]
  intro x hx
  obtain ⟨i, hi, rfl⟩ := List.getElem_of_mem hx
  have := h i hi
  rwa [List.getD_eq_getElem?_getD, List.getElem?_eq_getElem hi] at this
theorem getD_mem {zs : List Int} {j : Nat} (hj : j < zs.length) : zs.getD j 0 ∈ zs := by
  rw [List.getD_eq_getElem?_getD, List.getElem?_eq_getElem hj]
  simp
/-- Two curves side by side, as the rows of a slice. -/
def two (f l s f' l' s' : Int) : Nat → Nat → Int := fun i j => if i = 0 then (if j = 0 then f else if j = 1 then l else s) else (if j = 0 then f' else if j = 1 then l' else s')
theorem lens_two (f l s f' l' s' : Int) : lens (two f l s f' l' s') 2 = [l, l'] := rfl
def eqT (f l s f' l' s' z : Int) : Bool := decide (cAt f l s z = cAt f' l' s' z)
def leT (f l s f' l' s' z : Int) : Bool := decide (cAt f l s z ≤ cAt f' l' s' z)
def tms (l l' : Int) : List Int := times ([0, 100000] ++ [l, l'])
theorem tms_bd {l l' : Int} (h0 : 0 ≤ l) (h1 : l ≤ 10000) (h0' : 0 ≤ l') (h1' : l' ≤ 10000) {j : Nat} (hj : j < (tms l l').length) : 0 ≤ (tms l l').getD j 0 ∧ (tms l l').getD j 0 ≤ 100000 := by
  have hm : (tms l l').getD j 0 ∈ [0, 100000] ++ [l, l'] := (times_mem _ _).1 (getD_mem hj)
  simp only [List.mem_append, List.mem_cons, List.not_mem_nil, or_false] at hm
  omega
theorem times_len (zs : List Int) : (times zs).length ≤ zs.length := by
  have h1 := compact_len (zs.mergeSort fun x y => decide (x ≤ y))
  have h2 := List.length_mergeSort (le := fun x y : Int => decide (x ≤ y)) zs
  unfold times
  omega
theorem tms_len (l l' : Int) : (tms l l').length ≤ 4 := times_len ([0, 100000] ++ [l, l'])
theorem bends_two (g c : Nat) (f l s f' l' s' : Int) (w : World) (hown : OwnCurveS w g 2 (two f l s f' l' s')) : Calls Try.prog 54 #[.slice (some ⟨g, 0, none⟩) 2 c] w (TimesOut w (tms l l')) := bends_any g c 2 (two f l s f' l' s') w (by omega) hown
theorem own_two (w : World) (b : Nat) (hb : b = w.heap.size) (f l s f' l' s' : Int) : OwnCurveS (w.alloc (.cells #[.int .i64 f, .int .i64 l, .int .i64 s, .int .i64 f', .int .i64 l', .int .i64 s'] 25)) b 2 (two f l s f' l' s') := by
  subst hb
  refine Own.lit w _ _ _ _ fun i hi => ?_
  exact (by
    have hi6 : i < 6 := hi
    match i, hi6 with
    | 0, _ => rfl
    | 1, _ => rfl
    | 2, _ => rfl
    | 3, _ => rfl
    | 4, _ => rfl
    | 5, _ => rfl)
set_option maxHeartbeats 1000000 in
theorem implSameCurve_no (f l s f' l' s' : Int) (w : World) (h : crvB f l s = false ∨ (crvB f l s = true ∧ crvB f' l' s' = false)) :
    Calls Try.prog 31 #[.agg #[.int .i64 f, .int .i64 l, .int .i64 s], .agg #[.int .i64 f', .int .i64 l', .int .i64 s']] w fun e w' => e = .returned (.tuple #[.bool false, .bool false]) ∧ Below w.heap.size w w' := by
  have HG : Hid (∀ W, _) := fun W => isCurve_any f l s W
  have HG' : Hid (∀ W, _) := fun W => isCurve_any f' l' s' W
  rcases h with h | ⟨h, h'⟩
  · rw [h] at HG
    clear h
    go_enter Try.func31, Try.ntmps31
    go_wp2_with fail
    refine (HG.out _).mono ?_
    rintro e w1 ⟨rfl, rfl⟩
    go_wp2_with fail
    go_ret2
    exact ⟨rfl, by (repeat refine belAlloc ?_ _); exact Below.refl _ _⟩
  · rw [h] at HG
    rw [h'] at HG'
    clear h h'
    go_enter Try.func31, Try.ntmps31
    go_wp2_with fail
    refine (HG.out _).mono ?_
    rintro e w1 ⟨rfl, rfl⟩
    go_wp2_with fail
    refine (HG'.out _).mono ?_
    rintro e w1 ⟨rfl, rfl⟩
    go_wp2_with fail
    go_ret2
    exact ⟨rfl, by (repeat refine belAlloc ?_ _); exact Below.refl _ _⟩
set_option maxHeartbeats 4000000 in
theorem implSameCurve_yes (f l s f' l' s' : Int) (w : World) (h : crvB f l s = true) (h' : crvB f' l' s' = true) :
    Calls Try.prog 31 #[.agg #[.int .i64 f, .int .i64 l, .int .i64 s], .agg #[.int .i64 f', .int .i64 l', .int .i64 s']] w fun e w' => e = .returned (.tuple #[.bool (allB (tms l l') (eqT f l s f' l' s')), .bool true]) ∧ Below w.heap.size w w' := by
  have HG : Hid (∀ W, _) := fun W => isCurve_any f l s W
  have HG' : Hid (∀ W, _) := fun W => isCurve_any f' l' s' W
  have HA := Lib.hid h
  have HA' := Lib.hid h'
  rw [h] at HG
  rw [h'] at HG'
  obtain ⟨_, ⟨l0, l1⟩, _⟩ := crvB_iff.1 h
  obtain ⟨_, ⟨l0', l1'⟩, _⟩ := crvB_iff.1 h'
  clear h h'
  have HBD : Hid (∀ j, j < (tms l l').length → 0 ≤ (tms l l').getD j 0 ∧ (tms l l').getD j 0 ≤ 100000) := fun j hj => tms_bd l0 l1 l0' l1' hj
  have HLN := Lib.hid (tms_len l l')
  have HBE := Lib.hid (fun W g c => bends_two g c f l s f' l' s' W)
  have HX : Hid (∀ W : World, Below ((w.alloc (.cells #[.int .i64 f, .int .i64 l, .int .i64 s] 25)).alloc (.cells #[.int .i64 f', .int .i64 l', .int .i64 s'] 25)).heap.size ((w.alloc (.cells #[.int .i64 f, .int .i64 l, .int .i64 s] 25)).alloc (.cells #[.int .i64 f', .int .i64 l', .int .i64 s'] 25)) W →
      IsCrv W w.heap.size f l s ∧ IsCrv W (w.heap.size + 1) f' l' s') := fun W hb =>
    ⟨IsCrv.later ⟨by simp; omega, by simp [go_sem], by simp [go_sem], by simp [go_sem]⟩ hb, IsCrv.later ⟨by simp, by simp [go_sem], by simp [go_sem], by simp [go_sem]⟩ hb⟩
  go_enter Try.func31, Try.ntmps31
  go_wp2_with fail
  refine (HG.out _).mono ?_
  rintro e w1 ⟨rfl, rfl⟩
  go_wp2_with fail
  refine (HG'.out _).mono ?_
  rintro e w1 ⟨rfl, rfl⟩
  go_wp2_with fail
  refine (HBE.out _ _ _ ?hown).mono ?_
  case hown => exact own_two _ _ (by simp) f l s f' l' s'
  clear HBE HG HG'
  generalize hzz : tms l l' = zs at *
  have HZZ := Lib.hid hzz
  clear hzz
  rintro e w1 ⟨g1, c1, rfl, hcap, hown1, hb1⟩
  have HC := Lib.hid (HX.out w1 (belNext (by repeat (first | exact Below.refl _ _ | assumption | refine Below.alloc ?_ (by simp; try omega) _ | refine Below.setCell ?_ (by simp; try omega) _ | refine Below.drew ?_)) hb1))
  have HB := Lib.hid (belNext (w := w) (by repeat (first | exact Below.refl _ _ | assumption | refine Below.alloc ?_ (by simp; try omega) _ | refine Below.setCell ?_ (by simp; try omega) _ | refine Below.drew ?_)) hb1)
  have HO := Lib.hid hown1
  clear hb1 hown1 HX hcap
  go_wp2_with fail
  go_loopw [21] (fun i wr => ∃ k : Nat, k ≤ zs.length ∧ i = .int .i64 k ∧ (∀ j, j < k → eqT f l s f' l' s' (zs.getD j 0) = true) ∧ Below w1.heap.size w1 wr) (fun i _ => zs.length - (intOf i).toNat)
  case atStart => exact ⟨0, Nat.zero_le _, rfl, fun j hj => absurd hj (by omega), Below.refl _ _⟩
  case round =>
    obtain ⟨k, hk, rfl, hall, hb⟩ := hrel
    have HAL := Lib.hid hall
    have HB1 := Lib.hid hb
    obtain ⟨⟨kg, k0, k1, k2⟩, kg', k0', k1', k2'⟩ := (show IsCrv wr w.heap.size f l s ∧ IsCrv wr (w.heap.size + 1) f' l' s' from ⟨HC.out.1.later hb, HC.out.2.later hb⟩)
    have hln := HLN.out
    clear hall hb
    by_cases hlt : k < zs.length
    · have hcell : wr.cell? ⟨g1, k, none⟩ = some (.int .i64 (zs.getD k 0)) := (HO.out.later HB1.out).cell hlt
      obtain ⟨z0, z1⟩ := HBD.out k hlt
      obtain ⟨z, hz⟩ : ∃ z, zs.getD k 0 = z := ⟨_, rfl⟩
      rw [hz] at hcell z0 z1
      have HZ := Lib.hid hz
      clear hz
      have HE := Lib.hid (fun W => curveAt_any f l s z W HA.out z0 z1)
      have HE' := Lib.hid (fun W => curveAt_any f' l' s' z W HA'.out z0 z1)
      by_cases hp : eqT f l s f' l' s' z = true
      · have HP := Lib.hid hp
        have hd : (cAt f l s z != cAt f' l' s' z) = false := by have := of_decide_eq_true hp; simp; omega
        clear hp
        go_wp2_with fail
        go_region_with ((first | (go_at_call 42; (with_reducible refine (HE.out _).mono ?_); rintro e w2 ⟨rfl, rfl⟩) | (go_at_call 42; (with_reducible refine (HE'.out _).mono ?_); rintro e w2 ⟨rfl, rfl⟩)))
        all_goals
          go_wp2_with fail
          go_roundw
          case rel => exact ⟨k + 1, by omega, by go_num, fun j hj => by rcases Nat.lt_succ_iff_lt_or_eq.1 hj with h | rfl; exact HAL.out j h; rw [HZ.out]; exact HP.out, belNext HB1.out (by repeat (first | exact Below.refl _ _ | assumption | refine Below.alloc ?_ (by simp; try omega) _ | refine Below.setCell ?_ (by simp; try omega) _ | refine Below.drew ?_))⟩
          case measure => simp [intOf]; omega
      · have hp' : eqT f l s f' l' s' z = false := by simpa using hp
        have HN : Hid (allB zs (eqT f l s f' l' s') = false) := all_no hlt (by rw [HZ.out]; exact hp')
        have hd : (cAt f l s z != cAt f' l' s' z) = true := by have := of_decide_eq_false hp'; simp; omega
        clear hp hp'
        go_wp2_with fail
        go_region_with ((first | (go_at_call 42; (with_reducible refine (HE.out _).mono ?_); rintro e w2 ⟨rfl, rfl⟩) | (go_at_call 42; (with_reducible refine (HE'.out _).mono ?_); rintro e w2 ⟨rfl, rfl⟩)))
        all_goals
          go_wp2_with fail
          go_ret2
          exact ⟨by rw [HZZ.out, HN.out]; rfl, belNext HB.out (belNext HB1.out (by repeat (first | exact Below.refl _ _ | assumption | refine Below.alloc ?_ (by simp; try omega) _ | refine Below.setCell ?_ (by simp; try omega) _ | refine Below.drew ?_)))⟩
    · have HN : Hid (allB zs (eqT f l s f' l' s') = true) := all_yes (fun j hj => HAL.out j (by omega))
      go_wp2_with fail
      go_ret2
      exact ⟨by rw [HZZ.out, HN.out]; rfl, belNext HB.out HB1.out⟩
set_option maxHeartbeats 1000000 in
theorem implCurveBelow_no (f l s f' l' s' : Int) (w : World) (h : crvB f l s = false ∨ (crvB f l s = true ∧ crvB f' l' s' = false)) :
    Calls Try.prog 33 #[.agg #[.int .i64 f, .int .i64 l, .int .i64 s], .agg #[.int .i64 f', .int .i64 l', .int .i64 s']] w fun e w' => e = .returned (.tuple #[.bool false, .bool false]) ∧ Below w.heap.size w w' := by
  have HG : Hid (∀ W, _) := fun W => isCurve_any f l s W
  have HG' : Hid (∀ W, _) := fun W => isCurve_any f' l' s' W
  rcases h with h | ⟨h, h'⟩
  · rw [h] at HG
    clear h
    go_enter Try.func33, Try.ntmps33
    go_wp2_with fail
    refine (HG.out _).mono ?_
    rintro e w1 ⟨rfl, rfl⟩
    go_wp2_with fail
    go_ret2
    exact ⟨rfl, by (repeat refine belAlloc ?_ _); exact Below.refl _ _⟩
  · rw [h] at HG
    rw [h'] at HG'
    clear h h'
    go_enter Try.func33, Try.ntmps33
    go_wp2_with fail
    refine (HG.out _).mono ?_
    rintro e w1 ⟨rfl, rfl⟩
    go_wp2_with fail
    refine (HG'.out _).mono ?_
    rintro e w1 ⟨rfl, rfl⟩
    go_wp2_with fail
    go_ret2
    exact ⟨rfl, by (repeat refine belAlloc ?_ _); exact Below.refl _ _⟩
set_option maxHeartbeats 4000000 in
theorem implCurveBelow_yes (f l s f' l' s' : Int) (w : World) (h : crvB f l s = true) (h' : crvB f' l' s' = true) :
    Calls Try.prog 33 #[.agg #[.int .i64 f, .int .i64 l, .int .i64 s], .agg #[.int .i64 f', .int .i64 l', .int .i64 s']] w fun e w' => e = .returned (.tuple #[.bool (allB (tms l l') (leT f l s f' l' s')), .bool true]) ∧ Below w.heap.size w w' := by
  have HG : Hid (∀ W, _) := fun W => isCurve_any f l s W
  have HG' : Hid (∀ W, _) := fun W => isCurve_any f' l' s' W
  have HA := Lib.hid h
  have HA' := Lib.hid h'
  rw [h] at HG
  rw [h'] at HG'
  obtain ⟨_, ⟨l0, l1⟩, _⟩ := crvB_iff.1 h
  obtain ⟨_, ⟨l0', l1'⟩, _⟩ := crvB_iff.1 h'
  clear h h'
  have HBD : Hid (∀ j, j < (tms l l').length → 0 ≤ (tms l l').getD j 0 ∧ (tms l l').getD j 0 ≤ 100000) := fun j hj => tms_bd l0 l1 l0' l1' hj
  have HLN := Lib.hid (tms_len l l')
  have HBE := Lib.hid (fun W g c => bends_two g c f l s f' l' s' W)
  have HX : Hid (∀ W : World, Below ((w.alloc (.cells #[.int .i64 f, .int .i64 l, .int .i64 s] 25)).alloc (.cells #[.int .i64 f', .int .i64 l', .int .i64 s'] 25)).heap.size ((w.alloc (.cells #[.int .i64 f, .int .i64 l, .int .i64 s] 25)).alloc (.cells #[.int .i64 f', .int .i64 l', .int .i64 s'] 25)) W →
      IsCrv W w.heap.size f l s ∧ IsCrv W (w.heap.size + 1) f' l' s') := fun W hb =>
    ⟨IsCrv.later ⟨by simp; omega, by simp [go_sem], by simp [go_sem], by simp [go_sem]⟩ hb, IsCrv.later ⟨by simp, by simp [go_sem], by simp [go_sem], by simp [go_sem]⟩ hb⟩
  go_enter Try.func33, Try.ntmps33
  go_wp2_with fail
  refine (HG.out _).mono ?_
  rintro e w1 ⟨rfl, rfl⟩
  go_wp2_with fail
  refine (HG'.out _).mono ?_
  rintro e w1 ⟨rfl, rfl⟩
  go_wp2_with fail
  refine (HBE.out _ _ _ ?hown).mono ?_
  case hown => exact own_two _ _ (by simp) f l s f' l' s'
  clear HBE HG HG'
  generalize hzz : tms l l' = zs at *
  have HZZ := Lib.hid hzz
  clear hzz
  rintro e w1 ⟨g1, c1, rfl, hcap, hown1, hb1⟩
  have HC := Lib.hid (HX.out w1 (belNext (by repeat (first | exact Below.refl _ _ | assumption | refine Below.alloc ?_ (by simp; try omega) _ | refine Below.setCell ?_ (by simp; try omega) _ | refine Below.drew ?_)) hb1))
  have HB := Lib.hid (belNext (w := w) (by repeat (first | exact Below.refl _ _ | assumption | refine Below.alloc ?_ (by simp; try omega) _ | refine Below.setCell ?_ (by simp; try omega) _ | refine Below.drew ?_)) hb1)
  have HO := Lib.hid hown1
  clear hb1 hown1 HX hcap
  go_wp2_with fail
  go_loopw [21] (fun i wr => ∃ k : Nat, k ≤ zs.length ∧ i = .int .i64 k ∧ (∀ j, j < k → leT f l s f' l' s' (zs.getD j 0) = true) ∧ Below w1.heap.size w1 wr) (fun i _ => zs.length - (intOf i).toNat)
  case atStart => exact ⟨0, Nat.zero_le _, rfl, fun j hj => absurd hj (by omega), Below.refl _ _⟩
  case round =>
    obtain ⟨k, hk, rfl, hall, hb⟩ := hrel
    have HAL := Lib.hid hall
    have HB1 := Lib.hid hb
    obtain ⟨⟨kg, k0, k1, k2⟩, kg', k0', k1', k2'⟩ := (show IsCrv wr w.heap.size f l s ∧ IsCrv wr (w.heap.size + 1) f' l' s' from ⟨HC.out.1.later hb, HC.out.2.later hb⟩)
    have hln := HLN.out
    clear hall hb
    by_cases hlt : k < zs.length
    · have hcell : wr.cell? ⟨g1, k, none⟩ = some (.int .i64 (zs.getD k 0)) := (HO.out.later HB1.out).cell hlt
      obtain ⟨z0, z1⟩ := HBD.out k hlt
      obtain ⟨z, hz⟩ : ∃ z, zs.getD k 0 = z := ⟨_, rfl⟩
      rw [hz] at hcell z0 z1
      have HZ := Lib.hid hz
      clear hz
      have HE := Lib.hid (fun W => curveAt_any f l s z W HA.out z0 z1)
      have HE' := Lib.hid (fun W => curveAt_any f' l' s' z W HA'.out z0 z1)
      by_cases hp : leT f l s f' l' s' z = true
      · have HP := Lib.hid hp
        have hd : decide (cAt f' l' s' z < cAt f l s z) = false := by have := of_decide_eq_true hp; simp; omega
        clear hp
        go_wp2_with fail
        go_region_with ((first | (go_at_call 42; (with_reducible refine (HE.out _).mono ?_); rintro e w2 ⟨rfl, rfl⟩) | (go_at_call 42; (with_reducible refine (HE'.out _).mono ?_); rintro e w2 ⟨rfl, rfl⟩)))
        all_goals
          go_wp2_with fail
          go_roundw
          case rel => exact ⟨k + 1, by omega, by go_num, fun j hj => by rcases Nat.lt_succ_iff_lt_or_eq.1 hj with h | rfl; exact HAL.out j h; rw [HZ.out]; exact HP.out, belNext HB1.out (by repeat (first | exact Below.refl _ _ | assumption | refine Below.alloc ?_ (by simp; try omega) _ | refine Below.setCell ?_ (by simp; try omega) _ | refine Below.drew ?_))⟩
          case measure => simp [intOf]; omega
      · have hp' : leT f l s f' l' s' z = false := by simpa using hp
        have HN : Hid (allB zs (leT f l s f' l' s') = false) := all_no hlt (by rw [HZ.out]; exact hp')
        have hd : decide (cAt f' l' s' z < cAt f l s z) = true := by have := of_decide_eq_false hp'; simp; omega
        clear hp hp'
        go_wp2_with fail
        go_region_with ((first | (go_at_call 42; (with_reducible refine (HE.out _).mono ?_); rintro e w2 ⟨rfl, rfl⟩) | (go_at_call 42; (with_reducible refine (HE'.out _).mono ?_); rintro e w2 ⟨rfl, rfl⟩)))
        all_goals
          go_wp2_with fail
          go_ret2
          exact ⟨by rw [HZZ.out, HN.out]; rfl, belNext HB.out (belNext HB1.out (by repeat (first | exact Below.refl _ _ | assumption | refine Below.alloc ?_ (by simp; try omega) _ | refine Below.setCell ?_ (by simp; try omega) _ | refine Below.drew ?_)))⟩
    · have HN : Hid (allB zs (leT f l s f' l' s') = true) := all_yes (fun j hj => HAL.out j (by omega))
      go_wp2_with fail
      go_ret2
      exact ⟨by rw [HZZ.out, HN.out]; rfl, belNext HB.out HB1.out⟩
set_option maxHeartbeats 1000000 in
theorem implFirstAbove_no (f l s f' l' s' : Int) (w : World) (h : crvB f l s = false ∨ (crvB f l s = true ∧ crvB f' l' s' = false)) :
    Calls Try.prog 35 #[.agg #[.int .i64 f, .int .i64 l, .int .i64 s], .agg #[.int .i64 f', .int .i64 l', .int .i64 s']] w fun e w' => e = .returned (.tuple #[.int .i64 0, .bool false]) ∧ Below w.heap.size w w' := by
  have HG : Hid (∀ W, _) := fun W => isCurve_any f l s W
  have HG' : Hid (∀ W, _) := fun W => isCurve_any f' l' s' W
  rcases h with h | ⟨h, h'⟩
  · rw [h] at HG
    clear h
    go_enter Try.func35, Try.ntmps35
    go_wp2_with fail
    refine (HG.out _).mono ?_
    rintro e w1 ⟨rfl, rfl⟩
    go_wp2_with fail
    go_ret2
    exact ⟨rfl, by (repeat refine belAlloc ?_ _); exact Below.refl _ _⟩
  · rw [h] at HG
    rw [h'] at HG'
    clear h h'
    go_enter Try.func35, Try.ntmps35
    go_wp2_with fail
    refine (HG.out _).mono ?_
    rintro e w1 ⟨rfl, rfl⟩
    go_wp2_with fail
    refine (HG'.out _).mono ?_
    rintro e w1 ⟨rfl, rfl⟩
    go_wp2_with fail
    go_ret2
    exact ⟨rfl, by (repeat refine belAlloc ?_ _); exact Below.refl _ _⟩
end Go.Proofs.Ytnfkepngjbjeoaa
