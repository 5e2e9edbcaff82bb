/-
  FirstAbove, the program's and the reference's: both return the first time at which one curve is above the other.
-/
import Derived.Test.YtnfkepngjbjeoaaSameSpec
import Derived.Test.YtnfkepngjbjeoaaTabs
namespace Go.Proofs.Ytnfkepngjbjeoaa
open Go.RowKit
def abB (f l s f' l' s' t : Int) : Bool := decide (cAt f' l' s' t < cAt f l s t)
def frm (zs : List Int) (k : Nat) : Int := if k = 0 then 0 else zs.getD (k - 1) 0
/-- K is the first place of a time at which the curve is above, L the first time. -/
structure Abv (f l s f' l' s' : Int) (zs : List Int) (K : Nat) (L : Int) : Prop where
  lt : K < zs.length
  no : ∀ j, j < K → abB f l s f' l' s' (zs.getD j 0) = false
  yes : abB f l s f' l' s' (zs.getD K 0) = true
  low : 0 ≤ frm zs K
  le : frm zs K ≤ L
  ge : L ≤ zs.getD K 0
  top : zs.getD K 0 ≤ 100000
  all : ∀ t, frm zs K ≤ t → t ≤ zs.getD K 0 → abB f l s f' l' s' t = geB L t
theorem abB_leT {f l s f' l' s' t : Int} : abB f l s f' l' s' t = !leT f l s f' l' s' t := by
  unfold abB leT
  by_cases h : cAt f l s t ≤ cAt f' l' s' t
  · rw [decide_eq_false (by omega), decide_eq_true h]; rfl
  · rw [decide_eq_true (by omega), decide_eq_false h]; rfl
theorem tms_zero {l l' : Int} (h0 : 0 ≤ l) (h0' : 0 ≤ l') : 0 < (tms l l').length ∧ (tms l l').getD 0 0 = 0 := by
  have hm : (0 : Int) ∈ tms l l' := (times_mem _ _).2 (by simp)
  have hr : Rises (tms l l') := times_rises _
  have hall : ∀ x ∈ tms l l', 0 ≤ x := fun x hx => by
    have := (times_mem _ _).1 hx
    simp only [List.mem_append, List.mem_cons, List.not_mem_nil, or_false] at this
    omega
  match h : tms l l', hm, hr, hall with
  | [], hm, _, _ => simp at hm
  | a :: r, hm, hr, hall =>
    refine ⟨by simp, ?_⟩
    simp only [List.getD_cons_zero]
    have h1 := hall a (by simp)
    rcases List.mem_cons.1 hm with e | e
    · exact e.symm
    · have := (List.pairwise_cons.1 hr).1 0 e
      omega
theorem rises_get {zs : List Int} (h : Rises zs) {i j : Nat} (hij : i < j) (hj : j < zs.length) : zs.getD i 0 < zs.getD j 0 := by
  have := List.pairwise_iff_getElem.1 h i j (by omega) hj hij
  rw [List.getD_eq_getElem?_getD, List.getD_eq_getElem?_getD, List.getElem?_eq_getElem hj, List.getElem?_eq_getElem (by omega)]
  exact this
theorem rises_gap {zs : List Int} (h : Rises zs) {k : Nat} (hk : k + 1 < zs.length) {x : Int} (hx : x ∈ zs) : x ≤ zs.getD k 0 ∨ zs.getD (k + 1) 0 ≤ x := by
  obtain ⟨i, hi, rfl⟩ := List.getElem_of_mem hx
  have e : zs[i] = zs.getD i 0 := by rw [List.getD_eq_getElem?_getD, List.getElem?_eq_getElem hi]; rfl
  rw [e]
  rcases Nat.lt_trichotomy i k with h1 | h1 | h1
  · exact .inl (Int.le_of_lt (rises_get h h1 (by omega)))
  · exact .inl (by rw [h1]; exact Int.le_refl _)
  · rcases Nat.eq_or_lt_of_le (show k + 1 ≤ i from h1) with h2 | h2
    · exact .inr (by rw [h2]; exact Int.le_refl _)
    · exact .inr (Int.le_of_lt (rises_get h h2 hi))
theorem cAt_zero {f l s : Int} (h : 0 ≤ l) : cAt f l s 0 = 0 := by simp [cAt, h]
theorem abv_ex {f l s f' l' s' : Int} (h : crvB f l s = true) (h' : crvB f' l' s' = true) (hn : allB (tms l l') (leT f l s f' l' s') = false) : ∃ K L, Abv f l s f' l' s' (tms l l') K L := by
  obtain ⟨_, ⟨l0, l1⟩, _⟩ := crvB_iff.1 h
  obtain ⟨_, ⟨l0', l1'⟩, _⟩ := crvB_iff.1 h'
  have hr : Rises (tms l l') := times_rises _
  obtain ⟨hz, hz0⟩ := tms_zero l0 l0'
  have hbd := fun j (hj : j < (tms l l').length) => tms_bd l0 l1 l0' l1' hj
  have hl : l ∈ tms l l' := (times_mem _ _).2 (by simp)
  have hl' : l' ∈ tms l l' := (times_mem _ _).2 (by simp)
  generalize tms l l' = zs at *
  have hF : fstOf (fun j => abB f l s f' l' s' (zs.getD j 0)) 0 zs.length < zs.length := by
    rcases Nat.lt_or_ge (fstOf (fun j => abB f l s f' l' s' (zs.getD j 0)) 0 zs.length) zs.length with h1 | h1
    · exact h1
    · have : allB zs (leT f l s f' l' s') = true := all_yes fun j hj => by
        have := fstOf_before (fun j => abB f l s f' l' s' (zs.getD j 0)) zs.length 0 j (Nat.zero_le _) (by omega)
        simp only [abB_leT, Bool.not_eq_false'] at this
        exact this
      rw [this] at hn
      cases hn
  have hy := fstOf_holds (fun j => abB f l s f' l' s' (zs.getD j 0)) zs.length 0 (by omega)
  have hb := fun j => fstOf_before (fun j => abB f l s f' l' s' (zs.getD j 0)) zs.length 0 j (Nat.zero_le _)
  generalize fstOf (fun j => abB f l s f' l' s' (zs.getD j 0)) 0 zs.length = K at *
  cases K with
  | zero =>
    simp only [hz0] at hy
    rw [abB, cAt_zero l0, cAt_zero l0'] at hy
    simp at hy
  | succ k =>
    have hp := hb k (by omega)
    have hlt := rises_get hr (show k < k + 1 by omega) hF
    have hfrm : frm zs (k + 1) = zs.getD k 0 := by simp [frm]
    have g1 := rises_gap hr hF hl
    have g2 := rises_gap hr hF hl'
    have hpn : cAt f l s (zs.getD k 0) ≤ cAt f' l' s' (zs.getD k 0) := by
      have := of_decide_eq_false hp
      omega
    obtain ⟨L, ⟨a1, a2, a3⟩, a4⟩ := least_ex (p := abB f l s f' l' s') (low := zs.getD k 0) (zs.getD (k + 1) 0 - zs.getD k 0).toNat (by rw [show zs.getD k 0 + ((zs.getD (k + 1) 0 - zs.getD k 0).toNat : Int) = zs.getD (k + 1) 0 by omega]; exact hy)
    have b1 := hbd k (by omega)
    have b2 := hbd (k + 1) hF
    refine ⟨k + 1, L, ⟨hF, hb, hy, by rw [hfrm]; exact b1.1, by rw [hfrm]; exact a1, by omega, b2.2, fun t t0 t1 => ?_⟩⟩
    rw [hfrm] at t0
    by_cases ht : L ≤ t
    · rw [geB, decide_eq_true ht]
      exact decide_eq_true (above_mono (p := zs.getD k 0) (q := zs.getD (k + 1) 0) g1 g2 hpn a1 ht t1 (of_decide_eq_true a2))
    · rw [geB, decide_eq_false ht]
      exact a3 t t0 (by omega)
set_option maxHeartbeats 2000000 in
theorem above1_any (f l s f' l' s' t : Int) (g1 g2 : Nat) (w : World) (h : crvB f l s = true) (h' : crvB f' l' s' = true) (t0 : 0 ≤ t) (t1 : t ≤ 100000) (hc : IsCrv w g1 f l s) (hc' : IsCrv w g2 f' l' s') :
    Calls Try.prog 57 #[.int .i64 t, .pointer (some ⟨g1, 0, none⟩), .pointer (some ⟨g2, 0, none⟩)] w fun e w' => e = .returned (.bool (abB f l s f' l' s' t)) ∧ Below w.heap.size w w' := by
  obtain ⟨hg1, c0, c1, c2⟩ := hc
  obtain ⟨hg2, d0, d1, d2⟩ := hc'
  have H := Lib.hid (fun W => curveAt_any f l s t W h t0 t1)
  have H' := Lib.hid (fun W => curveAt_any f' l' s' t W h' t0 t1)
  clear h h'
  unfold abB
  go_enter Try.func57, Try.ntmps57
  go_wp2_with fail
  go_region_with ((first | (go_at_call 42; (with_reducible refine (H.out _).mono ?_); rintro e w1 ⟨rfl, rfl⟩) | (go_at_call 42; (with_reducible refine (H'.out _).mono ?_); rintro e w1 ⟨rfl, rfl⟩)))
  all_goals
    go_wp2_with fail
    go_ret
    exact ⟨rfl, by repeat (first | exact Below.refl _ _ | assumption | refine Below.alloc ?_ (by simp; try omega) _ | refine Below.setCell ?_ (by simp; try omega) _ | refine Below.drew ?_)⟩
set_option maxHeartbeats 4000000 in
theorem implFirstAbove_some (f l s f' l' s' : Int) (K : Nat) (L : Int) (w : World) (h : crvB f l s = true) (h' : crvB f' l' s' = true) (hK : Abv f l s f' l' s' (tms l l') K L) :
    Calls Try.prog 35 #[.agg #[.int .i64 f, .int .i64 l, .int .i64 s], .agg #[.int .i64 f', .int .i64 l', .int .i64 s']] w fun e w' => e = .returned (.tuple #[.int .i64 L, .bool true]) ∧ Below w.heap.size w w' := by
  have HG : Hid (∀ W, _) := fun W => isCurve_any f l s W
  have HG' : Hid (∀ W, _) := fun W => isCurve_any f' l' s' W
  have HA := Lib.hid h
  have HA' := Lib.hid h'
  rw [h] at HG
  rw [h'] at HG'
  obtain ⟨_, ⟨l0, l1⟩, _⟩ := crvB_iff.1 h
  obtain ⟨_, ⟨l0', l1'⟩, _⟩ := crvB_iff.1 h'
  clear h h'
  have HBD : Hid (∀ j, j < (tms l l').length → 0 ≤ (tms l l').getD j 0 ∧ (tms l l').getD j 0 ≤ 100000) := fun j hj => tms_bd l0 l1 l0' l1' hj
  have HLN := Lib.hid (tms_len l l')
  have HBE := Lib.hid (fun W g c => bends_two g c f l s f' l' s' W)
  have HKK := Lib.hid hK
  clear hK
  have HX : Hid (∀ W : World, Below ((w.alloc (.cells #[.int .i64 f, .int .i64 l, .int .i64 s] 25)).alloc (.cells #[.int .i64 f', .int .i64 l', .int .i64 s'] 25)).heap.size ((w.alloc (.cells #[.int .i64 f, .int .i64 l, .int .i64 s] 25)).alloc (.cells #[.int .i64 f', .int .i64 l', .int .i64 s'] 25)) W →
      IsCrv W w.heap.size f l s ∧ IsCrv W (w.heap.size + 1) f' l' s') := fun W hb =>
    ⟨IsCrv.later ⟨by simp; omega, by simp [go_sem], by simp [go_sem], by simp [go_sem]⟩ hb, IsCrv.later ⟨by simp, by simp [go_sem], by simp [go_sem], by simp [go_sem]⟩ hb⟩
  go_enter Try.func35, Try.ntmps35
  go_wp2_with fail
  refine (HG.out _).mono ?_
  rintro e w1 ⟨rfl, rfl⟩
  go_wp2_with fail
  refine (HG'.out _).mono ?_
  rintro e w1 ⟨rfl, rfl⟩
  go_wp2_with fail
  refine (HBE.out _ _ _ ?hown).mono ?_
  case hown => exact own_two _ _ (by simp) f l s f' l' s'
  clear HBE HG HG'
  generalize tms l l' = zs at *
  rintro e w1 ⟨g1, c1, rfl, hcap, hown1, hb1⟩
  have HC := Lib.hid (HX.out w1 (belNext (by repeat (first | exact Below.refl _ _ | assumption | refine Below.alloc ?_ (by simp; try omega) _ | refine Below.setCell ?_ (by simp; try omega) _ | refine Below.drew ?_)) hb1))
  have HB := Lib.hid (belNext (w := w) (by repeat (first | exact Below.refl _ _ | assumption | refine Below.alloc ?_ (by simp; try omega) _ | refine Below.setCell ?_ (by simp; try omega) _ | refine Below.drew ?_)) hb1)
  have HO := Lib.hid hown1
  clear hb1 hown1 HX hcap
  go_wp2_with fail
  go_loopw [7, 24] (fun v i wr => ∃ k : Nat, k ≤ K ∧ i = .int .i64 k ∧ v = .int .i64 (frm zs k) ∧ Below w1.heap.size w1 wr) (fun _ i _ => zs.length - (intOf i).toNat)
  case atStart => exact ⟨0, Nat.zero_le _, rfl, rfl, Below.refl _ _⟩
  case round =>
    obtain ⟨k, hk, rfl, rfl, hb⟩ := hrel
    have HB1 := Lib.hid hb
    have hln := HLN.out
    have hKl := HKK.out.lt
    clear hb
    have hlt : k < zs.length := by omega
    have hcell : wr.cell? ⟨g1, k, none⟩ = some (.int .i64 (zs.getD k 0)) := (HO.out.later HB1.out).cell hlt
    have HF : Hid (frm zs (k + 1) = zs.getD k 0) := by show frm zs (k + 1) = _; simp [frm]
    obtain ⟨z0, z1⟩ := HBD.out k hlt
    obtain ⟨z, hz⟩ : ∃ z, zs.getD k 0 = z := ⟨_, rfl⟩
    rw [hz] at hcell z0 z1
    rw [hz] at HF
    have HZ := Lib.hid hz
    clear hz
    have hcl : ∀ (W : World) (t : Int), Below wr.heap.size wr W → 0 ≤ t → t ≤ 100000 → Calls Try.prog 57 #[.int .i64 t, .pointer (some ⟨w.heap.size, 0, none⟩), .pointer (some ⟨w.heap.size + 1, 0, none⟩)] W fun e w' => e = .returned (.bool (abB f l s f' l' s' t)) ∧ Below W.heap.size W w' := fun W t hW t0 t1 =>
      above1_any f l s f' l' s' t _ _ W HA.out HA'.out t0 t1 (HC.out.1.later (belNext HB1.out hW)) (HC.out.2.later (belNext HB1.out hW))
    have HCL := Lib.hid hcl
    clear hcl
    have hc := HCL.out wr z (Below.refl _ _) z0 z1
    by_cases hkK : k < K
    · rw [show abB f l s f' l' s' z = false by rw [← HZ.out]; exact HKK.out.no k hkK] at hc
      have HQ := Lib.hid hc
      clear hc
      go_wp2_with fail
      refine HQ.out.mono ?_
      rintro e w2 ⟨rfl, hb2⟩
      have HB2 := Lib.hid (belNext HB1.out hb2)
      clear hb2
      go_wp2_with fail
      go_roundw
      case rel => exact ⟨k + 1, by omega, by go_num, by rw [HF.out], HB2.out⟩
      case measure => simp [intOf]; omega
    · obtain rfl : k = K := by omega
      rw [show abB f l s f' l' s' z = true by rw [← HZ.out]; exact HKK.out.yes] at hc
      have HQ := Lib.hid hc
      clear hc
      have q1 := HKK.out.low
      have q2 := HKK.out.le
      have q3 := HKK.out.ge
      rw [HZ.out] at q3
      go_wp2_with fail
      refine HQ.out.mono ?_
      rintro e w2 ⟨rfl, hb2⟩
      have HB2 := Lib.hid hb2
      clear hb2
      go_wp2_with fail
      refine (firstTime_57 _ _ (frm zs k) z L _ q1 z1 q2 q3 ?hcl).mono ?_
      case hcl =>
        intro W t hW t0 t1
        rw [← HKK.out.all t t0 (by rw [HZ.out]; exact t1)]
        exact HCL.out W t (belNext HB2.out hW) (by omega) (by omega)
      rintro e w3 ⟨rfl, hb3⟩
      have HB3 := Lib.hid (belNext HB.out (belNext HB1.out (belNext HB2.out hb3)))
      clear hb3
      go_wp2_with fail
      go_ret2
      exact ⟨rfl, HB3.out⟩
set_option maxHeartbeats 4000000 in
theorem implFirstAbove_none (f l s f' l' s' : Int) (w : World) (h : crvB f l s = true) (h' : crvB f' l' s' = true) (hK : ∀ j, j < (tms l l').length → abB f l s f' l' s' ((tms l l').getD j 0) = false) :
    Calls Try.prog 35 #[.agg #[.int .i64 f, .int .i64 l, .int .i64 s], .agg #[.int .i64 f', .int .i64 l', .int .i64 s']] w fun e w' => e = .returned (.tuple #[.int .i64 0, .bool false]) ∧ Below w.heap.size w w' := by
  have HG : Hid (∀ W, _) := fun W => isCurve_any f l s W
  have HG' : Hid (∀ W, _) := fun W => isCurve_any f' l' s' W
  have HA := Lib.hid h
  have HA' := Lib.hid h'
  rw [h] at HG
  rw [h'] at HG'
  obtain ⟨_, ⟨l0, l1⟩, _⟩ := crvB_iff.1 h
  obtain ⟨_, ⟨l0', l1'⟩, _⟩ := crvB_iff.1 h'
  clear h h'
  have HBD : Hid (∀ j, j < (tms l l').length → 0 ≤ (tms l l').getD j 0 ∧ (tms l l').getD j 0 ≤ 100000) := fun j hj => tms_bd l0 l1 l0' l1' hj
  have HLN := Lib.hid (tms_len l l')
  have HBE := Lib.hid (fun W g c => bends_two g c f l s f' l' s' W)
  have HKK := Lib.hid hK
  clear hK
  have HX : Hid (∀ W : World, Below ((w.alloc (.cells #[.int .i64 f, .int .i64 l, .int .i64 s] 25)).alloc (.cells #[.int .i64 f', .int .i64 l', .int .i64 s'] 25)).heap.size ((w.alloc (.cells #[.int .i64 f, .int .i64 l, .int .i64 s] 25)).alloc (.cells #[.int .i64 f', .int .i64 l', .int .i64 s'] 25)) W →
      IsCrv W w.heap.size f l s ∧ IsCrv W (w.heap.size + 1) f' l' s') := fun W hb =>
    ⟨IsCrv.later ⟨by simp; omega, by simp [go_sem], by simp [go_sem], by simp [go_sem]⟩ hb, IsCrv.later ⟨by simp, by simp [go_sem], by simp [go_sem], by simp [go_sem]⟩ hb⟩
  go_enter Try.func35, Try.ntmps35
  go_wp2_with fail
  refine (HG.out _).mono ?_
  rintro e w1 ⟨rfl, rfl⟩
  go_wp2_with fail
  refine (HG'.out _).mono ?_
  rintro e w1 ⟨rfl, rfl⟩
  go_wp2_with fail
  refine (HBE.out _ _ _ ?hown).mono ?_
  case hown => exact own_two _ _ (by simp) f l s f' l' s'
  clear HBE HG HG'
  generalize tms l l' = zs at *
  rintro e w1 ⟨g1, c1, rfl, hcap, hown1, hb1⟩
  have HC := Lib.hid (HX.out w1 (belNext (by repeat (first | exact Below.refl _ _ | assumption | refine Below.alloc ?_ (by simp; try omega) _ | refine Below.setCell ?_ (by simp; try omega) _ | refine Below.drew ?_)) hb1))
  have HB := Lib.hid (belNext (w := w) (by repeat (first | exact Below.refl _ _ | assumption | refine Below.alloc ?_ (by simp; try omega) _ | refine Below.setCell ?_ (by simp; try omega) _ | refine Below.drew ?_)) hb1)
  have HO := Lib.hid hown1
  clear hb1 hown1 HX hcap
  go_wp2_with fail
  go_loopw [7, 24] (fun _ i wr => ∃ k : Nat, k ≤ zs.length ∧ i = .int .i64 k ∧ Below w1.heap.size w1 wr) (fun _ i _ => zs.length - (intOf i).toNat)
  case atStart => exact ⟨0, Nat.zero_le _, rfl, Below.refl _ _⟩
  case round =>
    obtain ⟨k, hk, rfl, hb⟩ := hrel
    have HB1 := Lib.hid hb
    have hln := HLN.out
    clear hb
    by_cases hlt : k < zs.length
    · have hcell : wr.cell? ⟨g1, k, none⟩ = some (.int .i64 (zs.getD k 0)) := (HO.out.later HB1.out).cell hlt
      obtain ⟨z0, z1⟩ := HBD.out k hlt
      have hno := HKK.out k hlt
      obtain ⟨z, hz⟩ : ∃ z, zs.getD k 0 = z := ⟨_, rfl⟩
      rw [hz] at hcell z0 z1 hno
      clear hz
      have hc := above1_any f l s f' l' s' z _ _ wr HA.out HA'.out z0 z1 (HC.out.1.later HB1.out) (HC.out.2.later HB1.out)
      rw [hno] at hc
      have HQ := Lib.hid hc
      clear hc hno
      go_wp2_with fail
      refine HQ.out.mono ?_
      rintro e w2 ⟨rfl, hb2⟩
      have HB2 := Lib.hid (belNext HB1.out hb2)
      clear hb2
      go_wp2_with fail
      go_roundw
      case rel => exact ⟨k + 1, by omega, by go_num, HB2.out⟩
      case measure => simp [intOf]; omega
    · go_wp2_with fail
      go_ret2
      exact ⟨rfl, belNext HB.out HB1.out⟩
theorem cuTimes_two (g c : Nat) (f l s f' l' s' : Int) (w : World) (h : l ≤ 10000) (h' : l' ≤ 10000) (hown : OwnCurveS w g 2 (two f l s f' l' s')) : Calls Try.prog 56 #[.slice (some ⟨g, 0, none⟩) 2 c] w (TimesOut w (tms l l')) := by
  have e : tms l l' = puts [0, 100000] (lens (two f l s f' l' s') 2) := (puts_times [l, l'] [l, l'] (fun _ => Iff.rfl)).symm
  rw [e]
  exact cuTimes_any g c 2 (two f l s f' l' s') w (by omega) (fun i hi => by
    match i, hi with
    | 0, _ => exact h
    | 1, _ => exact h') hown
theorem cuFits_one (f l s f' l' s' : Int) (h : crvB f l s = true) (h' : crvB f' l' s' = true) (g c : Nat) (W : World) (ho : OwnCurveS W g 1 (oneC f l s)) : Calls Try.prog 55 #[.slice (some ⟨g, 0, none⟩) 1 c, .agg #[.int .i64 f', .int .i64 l', .int .i64 s']] W fun e w' => e = .returned (.bool (allB (tms l l') (leT f l s f' l' s'))) ∧ Below W.heap.size W w' := by
  rw [← fit_one]
  exact cuFits_any g c 1 (oneC f l s) f' l' s' W (by omega) (fun i _ => h) h' ho
set_option maxHeartbeats 1000000 in
theorem specFirstAbove_no (f l s f' l' s' : Int) (w : World) (h : crvB f l s = false ∨ (crvB f l s = true ∧ crvB f' l' s' = false)) :
    Calls Try.prog 34 #[.agg #[.int .i64 f, .int .i64 l, .int .i64 s], .agg #[.int .i64 f', .int .i64 l', .int .i64 s']] w fun e w' => e = .returned (.tuple #[.int .i64 0, .bool false]) ∧ Below w.heap.size w w' := by
  have HG : Hid (∀ W, _) := fun W => cuGood_any f l s W
  have HG' : Hid (∀ W, _) := fun W => cuGood_any f' l' s' W
  rcases h with h | ⟨h, h'⟩
  · rw [h] at HG
    clear h
    go_enter Try.func34, Try.ntmps34
    go_wp2_with fail
    refine (HG.out _).mono ?_
    rintro e w1 ⟨rfl, rfl⟩
    go_wp2_with fail
    go_ret2
    exact ⟨rfl, by (repeat refine belAlloc ?_ _); exact Below.refl _ _⟩
  · rw [h] at HG
    rw [h'] at HG'
    clear h h'
    go_enter Try.func34, Try.ntmps34
    go_wp2_with fail
    refine (HG.out _).mono ?_
    rintro e w1 ⟨rfl, rfl⟩
    go_wp2_with fail
    refine (HG'.out _).mono ?_
    rintro e w1 ⟨rfl, rfl⟩
    go_wp2_with fail
    go_ret2
    exact ⟨rfl, by (repeat refine belAlloc ?_ _); exact Below.refl _ _⟩
set_option maxHeartbeats 1000000 in
theorem specFirstAbove_none (f l s f' l' s' : Int) (w : World) (h : crvB f l s = true) (h' : crvB f' l' s' = true) (hal : allB (tms l l') (leT f l s f' l' s') = true) :
    Calls Try.prog 34 #[.agg #[.int .i64 f, .int .i64 l, .int .i64 s], .agg #[.int .i64 f', .int .i64 l', .int .i64 s']] w fun e w' => e = .returned (.tuple #[.int .i64 0, .bool false]) ∧ Below w.heap.size w w' := by
  have HG : Hid (∀ W, _) := fun W => cuGood_any f l s W
  have HG' : Hid (∀ W, _) := fun W => cuGood_any f' l' s' W
  have HF := Lib.hid (cuFits_one f l s f' l' s' h h')
  rw [h] at HG
  rw [h'] at HG'
  rw [hal] at HF
  clear h h' hal
  go_enter Try.func34, Try.ntmps34
  go_wp2_with fail
  refine (HG.out _).mono ?_
  rintro e w1 ⟨rfl, rfl⟩
  go_wp2_with fail
  refine (HG'.out _).mono ?_
  rintro e w1 ⟨rfl, rfl⟩
  go_wp2_with fail
  refine (HF.out _ _ _ ?hown).mono ?_
  case hown => exact own_one _ _ (by simp) f l s
  rintro e w1 ⟨rfl, hb1⟩
  have HB := Lib.hid (belNext (w := w) (by repeat (first | exact Below.refl _ _ | assumption | refine Below.alloc ?_ (by simp; try omega) _ | refine Below.setCell ?_ (by simp; try omega) _ | refine Below.drew ?_)) hb1)
  clear hb1
  go_wp2_with fail
  go_ret2
  exact ⟨rfl, HB.out⟩
set_option maxHeartbeats 8000000 in
theorem specFirstAbove_some (f l s f' l' s' : Int) (K : Nat) (L : Int) (w : World) (h : crvB f l s = true) (h' : crvB f' l' s' = true) (hal : allB (tms l l') (leT f l s f' l' s') = false) (hK : Abv f l s f' l' s' (tms l l') K L) :
    Calls Try.prog 34 #[.agg #[.int .i64 f, .int .i64 l, .int .i64 s], .agg #[.int .i64 f', .int .i64 l', .int .i64 s']] w fun e w' => e = .returned (.tuple #[.int .i64 L, .bool true]) ∧ Below w.heap.size w w' := by
  have HG : Hid (∀ W, _) := fun W => cuGood_any f l s W
  have HG' : Hid (∀ W, _) := fun W => cuGood_any f' l' s' W
  have HFT := Lib.hid (cuFits_one f l s f' l' s' h h')
  rw [hal] at HFT
  have HA := Lib.hid h
  have HA' := Lib.hid h'
  rw [h] at HG
  rw [h'] at HG'
  obtain ⟨_, ⟨l0, l1⟩, _⟩ := crvB_iff.1 h
  obtain ⟨_, ⟨l0', l1'⟩, _⟩ := crvB_iff.1 h'
  clear h h' hal
  have HBD : Hid (∀ j, j < (tms l l').length → 0 ≤ (tms l l').getD j 0 ∧ (tms l l').getD j 0 ≤ 100000) := fun j hj => tms_bd l0 l1 l0' l1' hj
  have HLN := Lib.hid (tms_len l l')
  have HBE := Lib.hid (fun W g c => cuTimes_two g c f l s f' l' s' W l1 l1')
  have HKK := Lib.hid hK
  clear hK
  have HX : Hid (∀ W : World, Below ((w.alloc (.cells #[.int .i64 f, .int .i64 l, .int .i64 s] 25)).alloc (.cells #[.int .i64 f', .int .i64 l', .int .i64 s'] 25)).heap.size ((w.alloc (.cells #[.int .i64 f, .int .i64 l, .int .i64 s] 25)).alloc (.cells #[.int .i64 f', .int .i64 l', .int .i64 s'] 25)) W →
      IsCrv W w.heap.size f l s ∧ IsCrv W (w.heap.size + 1) f' l' s') := fun W hb =>
    ⟨IsCrv.later ⟨by simp; omega, by simp [go_sem], by simp [go_sem], by simp [go_sem]⟩ hb, IsCrv.later ⟨by simp, by simp [go_sem], by simp [go_sem], by simp [go_sem]⟩ hb⟩
  go_enter Try.func34, Try.ntmps34
  go_wp2_with fail
  refine (HG.out _).mono ?_
  rintro e w1 ⟨rfl, rfl⟩
  go_wp2_with fail
  refine (HG'.out _).mono ?_
  rintro e w1 ⟨rfl, rfl⟩
  go_wp2_with fail
  refine (HFT.out _ _ _ ?hown1).mono ?_
  case hown1 => exact own_one _ _ (by simp) f l s
  rintro e w0 ⟨rfl, hb0⟩
  have HB0 := Lib.hid (belNext (w := w) (by repeat (first | exact Below.refl _ _ | assumption | refine Below.alloc ?_ (by simp; try omega) _ | refine Below.setCell ?_ (by simp; try omega) _ | refine Below.drew ?_)) hb0)
  have HX0 := Lib.hid (HX.out w0 (belNext (by repeat (first | exact Below.refl _ _ | assumption | refine Below.alloc ?_ (by simp; try omega) _ | refine Below.setCell ?_ (by simp; try omega) _ | refine Below.drew ?_)) hb0))
  obtain ⟨⟨kg, k0, k1, k2⟩, kg', k0', k1', k2'⟩ := HX0.out
  clear hb0 HG HG' HFT HX
  go_wp2_with fail
  refine (HBE.out _ _ _ ?hown2).mono ?_
  case hown2 => exact own_two _ _ (by simp) f l s f' l' s'
  clear HBE kg k0 k1 k2 kg' k0' k1' k2'
  generalize tms l l' = zs at *
  rintro e w1 ⟨g1, c1, rfl, hcap, hown1, hb1⟩
  have HC : Hid (IsCrv w1 w.heap.size f l s ∧ IsCrv w1 (w.heap.size + 1) f' l' s') := ⟨HX0.out.1.later (belNext (belAlloc (Below.refl _ w0) _) hb1), HX0.out.2.later (belNext (belAlloc (Below.refl _ w0) _) hb1)⟩
  have HB := Lib.hid (belNext (belAlloc HB0.out _) hb1)
  have HO := Lib.hid hown1
  clear hb1 hown1 HX0 hcap HB0
  go_wp2_with fail
  go_loopw [6, 31] (fun v i wr => ∃ k : Nat, k ≤ K ∧ i = .int .i64 k ∧ v = .int .i64 (frm zs k) ∧ Below w1.heap.size w1 wr) (fun _ i _ => zs.length - (intOf i).toNat)
  case atStart => exact ⟨0, Nat.zero_le _, rfl, rfl, Below.refl _ _⟩
  case round =>
    obtain ⟨k, hk, rfl, rfl, hb⟩ := hrel
    have HB1 := Lib.hid hb
    have hln := HLN.out
    have hKl := HKK.out.lt
    obtain ⟨⟨kg, k0, k1, k2⟩, kg', k0', k1', k2'⟩ := (show IsCrv wr w.heap.size f l s ∧ IsCrv wr (w.heap.size + 1) f' l' s' from ⟨HC.out.1.later hb, HC.out.2.later hb⟩)
    clear hb
    have hlt : k < zs.length := by omega
    have hcell : wr.cell? ⟨g1, k, none⟩ = some (.int .i64 (zs.getD k 0)) := (HO.out.later HB1.out).cell hlt
    have HF : Hid (frm zs (k + 1) = zs.getD k 0) := by show frm zs (k + 1) = _; simp [frm]
    obtain ⟨z0, z1⟩ := HBD.out k hlt
    obtain ⟨z, hz⟩ : ∃ z, zs.getD k 0 = z := ⟨_, rfl⟩
    rw [hz] at hcell z0 z1
    rw [hz] at HF
    have HZ := Lib.hid hz
    clear hz
    have HE := Lib.hid (fun W => cuAt_any f l s z W HA.out z0 z1)
    have HE' := Lib.hid (fun W => cuAt_any f' l' s' z W HA'.out z0 z1)
    by_cases hkK : k < K
    · have hd : decide (cAt f l s z ≤ cAt f' l' s' z) = true := by
        have := HKK.out.no k hkK
        rw [HZ.out] at this
        have := of_decide_eq_false this
        exact decide_eq_true (by omega)
      go_wp2_with fail
      go_region_with ((first | (go_at_call 40; (with_reducible refine (HE.out _).mono ?_); rintro e w2 ⟨rfl, rfl⟩) | (go_at_call 40; (with_reducible refine (HE'.out _).mono ?_); rintro e w2 ⟨rfl, rfl⟩)))
      all_goals
        go_wp2_with fail
        go_roundw
        case rel => exact ⟨k + 1, by omega, by go_num, by rw [HF.out], belNext HB1.out (by repeat (first | exact Below.refl _ _ | assumption | refine Below.alloc ?_ (by simp; try omega) _ | refine Below.setCell ?_ (by simp; try omega) _ | refine Below.drew ?_))⟩
        case measure => simp [intOf]; omega
    · obtain rfl : k = K := by omega
      have hd : decide (cAt f l s z ≤ cAt f' l' s' z) = false := by
        have := HKK.out.yes
        rw [HZ.out] at this
        have := of_decide_eq_true this
        exact decide_eq_false (by omega)
      have q1 := HKK.out.low
      have q2 := HKK.out.le
      have q3 := HKK.out.ge
      rw [HZ.out] at q3
      go_wp2_with fail
      go_region_with ((first | (go_at_call 40; (with_reducible refine (HE.out _).mono ?_); rintro e w2 ⟨rfl, rfl⟩) | (go_at_call 40; (with_reducible refine (HE'.out _).mono ?_); rintro e w2 ⟨rfl, rfl⟩)))
      all_goals
        obtain ⟨wo, rfl⟩ : ∃ wo : World, wo = wr := ⟨_, rfl⟩
        go_wp2_with fail
        go_loopw [9, 10] (fun a b wx => ∃ lo hi : Int, frm zs k ≤ lo ∧ lo ≤ L ∧ L ≤ hi ∧ hi ≤ z ∧ a = .int .i64 lo ∧ b = .int .i64 hi ∧ Below wo.heap.size wo wx) (fun a b _ => (intOf b - intOf a).toNat)
        case atStart => exact ⟨frm zs k, z, Int.le_refl _, q2, q3, Int.le_refl _, rfl, rfl, by repeat (first | exact Below.refl _ _ | assumption | refine Below.alloc ?_ (by simp; try omega) _ | refine Below.setCell ?_ (by simp; try omega) _ | refine Below.drew ?_)⟩
        case round =>
          obtain ⟨lo, hi, g1', g2', g3', g4', rfl, rfl, hb⟩ := hrel
          have HB5 := Lib.hid hb
          clear kg k0 k1 k2 kg' k0' k1' k2' hd
          obtain ⟨⟨kg, k0, k1, k2⟩, kg', k0', k1', k2'⟩ := (show IsCrv wr w.heap.size f l s ∧ IsCrv wr (w.heap.size + 1) f' l' s' from ⟨HC.out.1.later (belNext HB1.out hb), HC.out.2.later (belNext HB1.out hb)⟩)
          clear hb
          by_cases hlo : lo < hi
          · have HM := Lib.hid (fun W => cuAt_any f l s ((lo + hi) / 2) W HA.out (by omega) (by omega))
            have HM' := Lib.hid (fun W => cuAt_any f' l' s' ((lo + hi) / 2) W HA'.out (by omega) (by omega))
            have HE2 := Lib.hid (HKK.out.all ((lo + hi) / 2) (by omega) (by rw [HZ.out]; omega))
            by_cases hm : L ≤ (lo + hi) / 2
            · have hd : decide (cAt f' l' s' ((lo + hi) / 2) < cAt f l s ((lo + hi) / 2)) = true := HE2.out.trans (decide_eq_true hm)
              go_wp2_with fail
              go_region_with ((first | (go_at_call 40; (with_reducible refine (HM.out _).mono ?_); rintro e w2 ⟨rfl, rfl⟩) | (go_at_call 40; (with_reducible refine (HM'.out _).mono ?_); rintro e w2 ⟨rfl, rfl⟩)))
              all_goals
                go_wp2_with fail
                go_roundw
                case rel => exact ⟨lo, (lo + hi) / 2, by omega, by omega, by omega, by omega, rfl, rfl, belNext HB5.out (by repeat (first | exact Below.refl _ _ | assumption | refine Below.alloc ?_ (by simp; try omega) _ | refine Below.setCell ?_ (by simp; try omega) _ | refine Below.drew ?_))⟩
                case measure => simp [intOf]; omega
            · have hd : decide (cAt f' l' s' ((lo + hi) / 2) < cAt f l s ((lo + hi) / 2)) = false := HE2.out.trans (decide_eq_false hm)
              go_wp2_with fail
              go_region_with ((first | (go_at_call 40; (with_reducible refine (HM.out _).mono ?_); rintro e w2 ⟨rfl, rfl⟩) | (go_at_call 40; (with_reducible refine (HM'.out _).mono ?_); rintro e w2 ⟨rfl, rfl⟩)))
              all_goals
                go_wp2_with fail
                go_roundw
                case rel => exact ⟨(lo + hi) / 2 + 1, hi, by omega, by omega, by omega, by omega, rfl, rfl, belNext HB5.out (by repeat (first | exact Below.refl _ _ | assumption | refine Below.alloc ?_ (by simp; try omega) _ | refine Below.setCell ?_ (by simp; try omega) _ | refine Below.drew ?_))⟩
                case measure => simp [intOf]; omega
          · obtain rfl : lo = L := by omega
            go_wp2_with fail
            go_ret2
            exact ⟨rfl, belNext HB.out (belNext HB1.out HB5.out)⟩
theorem firstAbove_both (f l s f' l' s' : Int) (h : crvB f l s = true) (h' : crvB f' l' s' = true) :
    ∃ (v : Int) (b : Bool), (∀ W, Calls Try.prog 34 #[.agg #[.int .i64 f, .int .i64 l, .int .i64 s], .agg #[.int .i64 f', .int .i64 l', .int .i64 s']] W fun e w' => e = .returned (.tuple #[.int .i64 v, .bool b]) ∧ Below W.heap.size W w') ∧
      (∀ W, Calls Try.prog 35 #[.agg #[.int .i64 f, .int .i64 l, .int .i64 s], .agg #[.int .i64 f', .int .i64 l', .int .i64 s']] W fun e w' => e = .returned (.tuple #[.int .i64 v, .bool b]) ∧ Below W.heap.size W w') := by
  by_cases hal : allB (tms l l') (leT f l s f' l' s') = true
  · refine ⟨0, false, fun W => specFirstAbove_none f l s f' l' s' W h h' hal, fun W => implFirstAbove_none f l s f' l' s' W h h' (fun j hj => ?_)⟩
    rw [abB_leT, List.all_eq_true.1 hal _ (getD_mem hj)]
    rfl
  · have hal' : allB (tms l l') (leT f l s f' l' s') = false := by simpa using hal
    obtain ⟨K, L, hK⟩ := abv_ex h h' hal'
    exact ⟨L, true, fun W => specFirstAbove_some f l s f' l' s' K L W h h' hal' hK, fun W => implFirstAbove_some f l s f' l' s' K L W h h' hK⟩
end Go.Proofs.Ytnfkepngjbjeoaa
