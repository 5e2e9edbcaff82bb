/-
  tkGood of the reference: it returns the plain gsB.
-/
import Derived.Test.YtopolfibledmnaaDoorTokGoodWalk
namespace Go.Proofs.YtopolfibledmnaaDoor
open Go.RowKit
theorem sv_cell (W : World) {W' : World} {g : Nat} (hW : W'.heap = (W.alloc (.cells (strVals signNs) 9)).heap) (hg : g = W.heap.size) (k : Nat) (hk : k < 6) : W'.cell? ⟨g, k, none⟩ = some (.string (strAt signNs k)) := by
  subst hg
  have := strVals_cell signNs W k hk
  unfold World.cell? at this ⊢
  rw [hW]
  exact this
theorem eq_run {t : ByteArray} : ((run t 0).toList == t.toList) = decide (alEnd t 0 = t.size) := by
  have hle := alEnd_le t (Nat.zero_le t.size)
  have hsz := run_size (s := t) (a := 0) (Nat.zero_le _)
  by_cases h : alEnd t 0 = t.size
  · rw [decide_eq_true h]
    have e : run t 0 = t := by
      rw [run, h]
      exact ByteArray.ext (by simp)
    rw [e]; simp
  · rw [decide_eq_false h]
    cases hb : ((run t 0).toList == t.toList) with
    | false => rfl
    | true =>
      have h1 := eq_of_beq hb
      rw [ByteArray.toList_eq, ByteArray.toList_eq] at h1
      have h2 : run t 0 = t := ByteArray.ext (Array.ext' h1)
      rw [h2] at hsz
      omega
set_option maxHeartbeats 1000000 in
theorem tkGood_out (k a : Int) (t : ByteArray) (v : Int) (w : World) (h : (a < 0 ∨ 4000 < a) ∨ (0 ≤ a ∧ a ≤ 4000 ∧ t.size = 0)) :
    Calls Tryd.prog 44 #[.agg #[.int .i64 k, .int .i64 a, .string t, .int .i64 v]] w fun e w' => e = .returned (.bool false) ∧ Below w.heap.size w w' := by
  rcases h with h | ⟨h0, h1, h2⟩
  · go_enter Tryd.func44, Tryd.ntmps44
    go_wp2_with (first | (go_at_call 61; refine (l1In_yes _ _ _ _ (by omega) (by omega)).mono ?_; rintro e w1 ⟨rfl, rfl⟩) | (go_at_call 61; refine (l1In_no _ _ _ _ (by omega)).mono ?_; rintro e w1 ⟨rfl, rfl⟩))
    go_ret
    exact ⟨rfl, by repeat (first | (with_reducible exact Below.refl _ _) | (with_reducible refine belAlloc ?_ _) | (with_reducible refine Below.setCell ?_ (by simp) _) | (with_reducible refine Below.drew ?_))⟩
  · have he := empty_yes h2
    clear h2
    go_enter Tryd.func44, Tryd.ntmps44
    go_wp2_with (first | (go_at_call 61; refine (l1In_yes _ _ _ _ (by omega) (by omega)).mono ?_; rintro e w1 ⟨rfl, rfl⟩) | (go_at_call 61; refine (l1In_no _ _ _ _ (by omega)).mono ?_; rintro e w1 ⟨rfl, rfl⟩))
    go_ret
    exact ⟨rfl, by repeat (first | (with_reducible exact Below.refl _ _) | (with_reducible refine belAlloc ?_ _) | (with_reducible refine Below.setCell ?_ (by simp) _) | (with_reducible refine Below.drew ?_))⟩
set_option maxHeartbeats 1000000 in
theorem tkGood_sign (k a : Int) (t : ByteArray) (v : Int) (w : World) (h0 : 0 ≤ a) (h1 : a ≤ 4000) (hz : 0 < t.size) (hg : hasS signNs t = true) :
    Calls Tryd.prog 44 #[.agg #[.int .i64 k, .int .i64 a, .string t, .int .i64 v]] w fun e w' => e = .returned (.bool (decide (k = 4) && decide (v = 0))) ∧ Below w.heap.size w w' := by
  have he := empty_no hz
  have HL : Hid (∀ W : World, W.heap = ((w.alloc (.cells #[.int .i64 k, .int .i64 a, .string t, .int .i64 v] 27)).alloc (.cells (strVals signNs) 9)).heap → Calls Tryd.prog 42 #[.slice (some ⟨w.heap.size + 1, 0, none⟩) 6 6, .string t] W fun e w' => e = .returned (.bool (hasS signNs t)) ∧ W = w') := fun W hW => l1HasS_any signNs (w.heap.size + 1) 6 6 t W rfl (by omega) (sv_cell _ hW (by simp))
  rw [hg] at HL
  clear hg
  by_cases hk : k = 4
  · subst hk
    by_cases hv : v = 0
    · subst hv
      rw [decide_eq_true rfl, decide_eq_true rfl]
      go_enter Tryd.func44, Tryd.ntmps44
      go_wp2_with (first | (go_at_call 61; refine (l1In_yes _ _ _ _ (by omega) (by omega)).mono ?_; rintro e w1 ⟨rfl, rfl⟩) | (go_at_call 61; refine (l1In_no _ _ _ _ (by omega)).mono ?_; rintro e w1 ⟨rfl, rfl⟩))
      go_region_with (first | (go_at_call 62; refine (tkSigns_any _).mono ?_; rintro e w1 ⟨rfl, rfl⟩) | (go_at_call 42; refine (HL.out _ (by rfl)).mono ?_; rintro e w1 ⟨rfl, rfl⟩))
      all_goals
        go_wp2_with fail
        go_ret
        exact ⟨rfl, by repeat (first | (with_reducible exact Below.refl _ _) | (with_reducible refine belAlloc ?_ _) | (with_reducible refine Below.setCell ?_ (by simp) _) | (with_reducible refine Below.drew ?_))⟩
    · rw [decide_eq_false hv, Bool.and_false]
      go_enter Tryd.func44, Tryd.ntmps44
      go_wp2_with (first | (go_at_call 61; refine (l1In_yes _ _ _ _ (by omega) (by omega)).mono ?_; rintro e w1 ⟨rfl, rfl⟩) | (go_at_call 61; refine (l1In_no _ _ _ _ (by omega)).mono ?_; rintro e w1 ⟨rfl, rfl⟩))
      go_region_with (first | (go_at_call 62; refine (tkSigns_any _).mono ?_; rintro e w1 ⟨rfl, rfl⟩) | (go_at_call 42; refine (HL.out _ (by rfl)).mono ?_; rintro e w1 ⟨rfl, rfl⟩))
      all_goals
        go_wp2_with fail
        all_goals
          go_ret
          exact ⟨rfl, by repeat (first | (with_reducible exact Below.refl _ _) | (with_reducible refine belAlloc ?_ _) | (with_reducible refine Below.setCell ?_ (by simp) _) | (with_reducible refine Below.drew ?_))⟩
  · rw [decide_eq_false hk, Bool.false_and]
    go_enter Tryd.func44, Tryd.ntmps44
    go_wp2_with (first | (go_at_call 61; refine (l1In_yes _ _ _ _ (by omega) (by omega)).mono ?_; rintro e w1 ⟨rfl, rfl⟩) | (go_at_call 61; refine (l1In_no _ _ _ _ (by omega)).mono ?_; rintro e w1 ⟨rfl, rfl⟩))
    go_region_with (first | (go_at_call 62; refine (tkSigns_any _).mono ?_; rintro e w1 ⟨rfl, rfl⟩) | (go_at_call 42; refine (HL.out _ (by rfl)).mono ?_; rintro e w1 ⟨rfl, rfl⟩))
    all_goals
      go_wp2_with fail
      all_goals
        go_ret
        exact ⟨rfl, by repeat (first | (with_reducible exact Below.refl _ _) | (with_reducible refine belAlloc ?_ _) | (with_reducible refine Below.setCell ?_ (by simp) _) | (with_reducible refine Below.drew ?_))⟩
set_option maxHeartbeats 1000000 in
theorem tkGood_run (k a : Int) (t : ByteArray) (v : Int) (w : World) (h0 : 0 ≤ a) (h1 : a ≤ 4000) (hs : t.size ≤ 1048576) (hz : 0 < t.size) (hg : hasS signNs t = false) (hr : ¬ alEnd t 0 = t.size) :
    Calls Tryd.prog 44 #[.agg #[.int .i64 k, .int .i64 a, .string t, .int .i64 v]] w fun e w' => e = .returned (.bool false) ∧ Below w.heap.size w w' := by
  have he := empty_no hz
  have HL : Hid (∀ W : World, W.heap = ((w.alloc (.cells #[.int .i64 k, .int .i64 a, .string t, .int .i64 v] 27)).alloc (.cells (strVals signNs) 9)).heap → Calls Tryd.prog 42 #[.slice (some ⟨w.heap.size + 1, 0, none⟩) 6 6, .string t] W fun e w' => e = .returned (.bool (hasS signNs t)) ∧ W = w') := fun W hW => l1HasS_any signNs (w.heap.size + 1) 6 6 t W rfl (by omega) (sv_cell _ hW (by simp))
  rw [hg] at HL
  have HR : Hid (∀ W : World, Calls Tryd.prog 63 #[.string t, .int .i64 0] W fun e w' => e = .returned (.string (run t 0)) ∧ W = w') := fun W => tkRun_any t 0 W hs (Nat.zero_le _)
  have hq := eq_run (t := t)
  rw [decide_eq_false hr] at hq
  generalize run t 0 = r at *
  clear hg hr
  go_enter Tryd.func44, Tryd.ntmps44
  go_wp2_with (first | (go_at_call 61; refine (l1In_yes _ _ _ _ (by omega) (by omega)).mono ?_; rintro e w1 ⟨rfl, rfl⟩) | (go_at_call 61; refine (l1In_no _ _ _ _ (by omega)).mono ?_; rintro e w1 ⟨rfl, rfl⟩))
  go_region_with (first | (go_at_call 62; refine (tkSigns_any _).mono ?_; rintro e w1 ⟨rfl, rfl⟩) | (go_at_call 42; refine (HL.out _ (by rfl)).mono ?_; rintro e w1 ⟨rfl, rfl⟩))
  all_goals
    go_wp2_with fail
    go_region_with (first | (go_at_call 63; refine (HR.out _).mono ?_; rintro e w1 ⟨rfl, rfl⟩))
    all_goals
      go_wp2_with fail
      go_ret
      exact ⟨rfl, by repeat (first | (with_reducible exact Below.refl _ _) | (with_reducible refine belAlloc ?_ _) | (with_reducible refine Below.setCell ?_ (by simp) _) | (with_reducible refine Below.drew ?_))⟩
set_option maxHeartbeats 8000000 in
theorem tkGood_make (k a : Int) (t : ByteArray) (v : Int) (w : World) (h0 : 0 ≤ a) (h1 : a ≤ 4000) (hs : t.size ≤ 1048576) (hz : 0 < t.size) (hg : hasS signNs t = false) (hr : alEnd t 0 = t.size) :
    Calls Tryd.prog 44 #[.agg #[.int .i64 k, .int .i64 a, .string t, .int .i64 v]] w fun e w' => e = .returned (.bool (decide (mkF t = 0) && decide (mkK t = k) && decide (mkV t = v))) ∧ Below w.heap.size w w' := by
  have he := empty_no hz
  have HL : Hid (∀ W : World, W.heap = ((w.alloc (.cells #[.int .i64 k, .int .i64 a, .string t, .int .i64 v] 27)).alloc (.cells (strVals signNs) 9)).heap → Calls Tryd.prog 42 #[.slice (some ⟨w.heap.size + 1, 0, none⟩) 6 6, .string t] W fun e w' => e = .returned (.bool (hasS signNs t)) ∧ W = w') := fun W hW => l1HasS_any signNs (w.heap.size + 1) 6 6 t W rfl (by omega) (sv_cell _ hW (by simp))
  rw [hg] at HL
  have HR : Hid (∀ W : World, Calls Tryd.prog 63 #[.string t, .int .i64 0] W fun e w' => e = .returned (.string (run t 0)) ∧ W = w') := fun W => tkRun_any t 0 W hs (Nat.zero_le _)
  have hq := eq_run (t := t)
  rw [decide_eq_true hr] at hq
  have HX : Hid (∀ W : World, Below (w.alloc (.cells #[.int .i64 k, .int .i64 a, .string t, .int .i64 v] 27)).heap.size (w.alloc (.cells #[.int .i64 k, .int .i64 a, .string t, .int .i64 v] 27)) W → IsTk W w.heap.size k a t v) := fun W hb => isTk hb
  generalize run t 0 = r at *
  clear hg hr
  have HM := Lib.hid (fun W => tkMake_any t a W hs hz)
  by_cases hf : mkF t = 0
  · rw [decide_eq_true hf, Bool.true_and]
    have hmo := mkOut_yes (t := t) (a := a) hf rfl rfl
    rw [hmo] at HM
    clear hmo hf
    generalize mkK t = kk at *
    generalize mkV t = vv at *
    by_cases hk : kk = k
    · subst hk
      by_cases hv : vv = v
      · subst hv
        rw [decide_eq_true rfl, decide_eq_true rfl]
        go_enter Tryd.func44, Tryd.ntmps44
        go_wp2_with (first | (go_at_call 61; refine (l1In_yes _ _ _ _ (by omega) (by omega)).mono ?_; rintro e w1 ⟨rfl, rfl⟩) | (go_at_call 61; refine (l1In_no _ _ _ _ (by omega)).mono ?_; rintro e w1 ⟨rfl, rfl⟩))
        go_region_with (first | (go_at_call 62; refine (tkSigns_any _).mono ?_; rintro e w1 ⟨rfl, rfl⟩) | (go_at_call 42; refine (HL.out _ (by rfl)).mono ?_; rintro e w1 ⟨rfl, rfl⟩))
        all_goals
          go_wp2_with fail
          go_region_with (first | (go_at_call 63; refine (HR.out _).mono ?_; rintro e w1 ⟨rfl, rfl⟩))
          all_goals
            go_wp2_with fail
            refine (HM.out _).mono ?_
            rintro e w4 ⟨rfl, hb4⟩
            have HB := Lib.hid (belNext (w := w.alloc (.cells #[.int .i64 kk, .int .i64 a, .string t, .int .i64 vv] 27)) (by repeat (first | (with_reducible exact Below.refl _ _) | (with_reducible refine belAlloc ?_ _) | (with_reducible refine Below.drew ?_))) hb4)
            obtain ⟨b0, b1, b2, b3, bz⟩ := HX.out _ HB.out
            clear hb4
            go_wp2_with fail
            all_goals
              go_ret
              exact ⟨rfl, by repeat (first | (with_reducible exact belNext (belAlloc (Below.refl _ w) _) HB.out) | (with_reducible refine belAlloc ?_ _) | (with_reducible refine Below.setCell ?_ (by simp) _) | (with_reducible refine Below.drew ?_))⟩
      · rw [decide_eq_false hv, Bool.and_false]
        go_enter Tryd.func44, Tryd.ntmps44
        go_wp2_with (first | (go_at_call 61; refine (l1In_yes _ _ _ _ (by omega) (by omega)).mono ?_; rintro e w1 ⟨rfl, rfl⟩) | (go_at_call 61; refine (l1In_no _ _ _ _ (by omega)).mono ?_; rintro e w1 ⟨rfl, rfl⟩))
        go_region_with (first | (go_at_call 62; refine (tkSigns_any _).mono ?_; rintro e w1 ⟨rfl, rfl⟩) | (go_at_call 42; refine (HL.out _ (by rfl)).mono ?_; rintro e w1 ⟨rfl, rfl⟩))
        all_goals
          go_wp2_with fail
          go_region_with (first | (go_at_call 63; refine (HR.out _).mono ?_; rintro e w1 ⟨rfl, rfl⟩))
          all_goals
            go_wp2_with fail
            refine (HM.out _).mono ?_
            rintro e w4 ⟨rfl, hb4⟩
            have HB := Lib.hid (belNext (w := w.alloc (.cells #[.int .i64 kk, .int .i64 a, .string t, .int .i64 v] 27)) (by repeat (first | (with_reducible exact Below.refl _ _) | (with_reducible refine belAlloc ?_ _) | (with_reducible refine Below.drew ?_))) hb4)
            obtain ⟨b0, b1, b2, b3, bz⟩ := HX.out _ HB.out
            clear hb4
            go_wp2_with fail
            all_goals
              go_ret
              exact ⟨rfl, by repeat (first | (with_reducible exact belNext (belAlloc (Below.refl _ w) _) HB.out) | (with_reducible refine belAlloc ?_ _) | (with_reducible refine Below.setCell ?_ (by simp) _) | (with_reducible refine Below.drew ?_))⟩
    · rw [decide_eq_false hk, Bool.false_and]
      go_enter Tryd.func44, Tryd.ntmps44
      go_wp2_with (first | (go_at_call 61; refine (l1In_yes _ _ _ _ (by omega) (by omega)).mono ?_; rintro e w1 ⟨rfl, rfl⟩) | (go_at_call 61; refine (l1In_no _ _ _ _ (by omega)).mono ?_; rintro e w1 ⟨rfl, rfl⟩))
      go_region_with (first | (go_at_call 62; refine (tkSigns_any _).mono ?_; rintro e w1 ⟨rfl, rfl⟩) | (go_at_call 42; refine (HL.out _ (by rfl)).mono ?_; rintro e w1 ⟨rfl, rfl⟩))
      all_goals
        go_wp2_with fail
        go_region_with (first | (go_at_call 63; refine (HR.out _).mono ?_; rintro e w1 ⟨rfl, rfl⟩))
        all_goals
          go_wp2_with fail
          refine (HM.out _).mono ?_
          rintro e w4 ⟨rfl, hb4⟩
          have HB := Lib.hid (belNext (w := w.alloc (.cells #[.int .i64 k, .int .i64 a, .string t, .int .i64 v] 27)) (by repeat (first | (with_reducible exact Below.refl _ _) | (with_reducible refine belAlloc ?_ _) | (with_reducible refine Below.drew ?_))) hb4)
          obtain ⟨b0, b1, b2, b3, bz⟩ := HX.out _ HB.out
          clear hb4
          go_wp2_with fail
          all_goals
            go_ret
            exact ⟨rfl, by repeat (first | (with_reducible exact belNext (belAlloc (Below.refl _ w) _) HB.out) | (with_reducible refine belAlloc ?_ _) | (with_reducible refine Below.setCell ?_ (by simp) _) | (with_reducible refine Below.drew ?_))⟩
  · rw [decide_eq_false hf, Bool.false_and, Bool.false_and]
    have hmo := mkOut_no (t := t) (a := a) rfl hf
    rw [hmo] at HM
    have hff : (mkF t == 0) = false := by simpa using hf
    clear hmo hf
    generalize mkF t = ff at *
    go_enter Tryd.func44, Tryd.ntmps44
    go_wp2_with (first | (go_at_call 61; refine (l1In_yes _ _ _ _ (by omega) (by omega)).mono ?_; rintro e w1 ⟨rfl, rfl⟩) | (go_at_call 61; refine (l1In_no _ _ _ _ (by omega)).mono ?_; rintro e w1 ⟨rfl, rfl⟩))
    go_region_with (first | (go_at_call 62; refine (tkSigns_any _).mono ?_; rintro e w1 ⟨rfl, rfl⟩) | (go_at_call 42; refine (HL.out _ (by rfl)).mono ?_; rintro e w1 ⟨rfl, rfl⟩))
    all_goals
      go_wp2_with fail
      go_region_with (first | (go_at_call 63; refine (HR.out _).mono ?_; rintro e w1 ⟨rfl, rfl⟩))
      all_goals
        go_wp2_with fail
        refine (HM.out _).mono ?_
        rintro e w4 ⟨rfl, hb4⟩
        have HB := Lib.hid (belNext (w := w.alloc (.cells #[.int .i64 k, .int .i64 a, .string t, .int .i64 v] 27)) (by repeat (first | (with_reducible exact Below.refl _ _) | (with_reducible refine belAlloc ?_ _) | (with_reducible refine Below.drew ?_))) hb4)
        obtain ⟨b0, b1, b2, b3, bz⟩ := HX.out _ HB.out
        clear hb4
        go_wp2_with fail
        all_goals
          go_ret
          exact ⟨rfl, by repeat (first | (with_reducible exact belNext (belAlloc (Below.refl _ w) _) HB.out) | (with_reducible refine belAlloc ?_ _) | (with_reducible refine Below.setCell ?_ (by simp) _) | (with_reducible refine Below.drew ?_))⟩
end Go.Proofs.YtopolfibledmnaaDoor
