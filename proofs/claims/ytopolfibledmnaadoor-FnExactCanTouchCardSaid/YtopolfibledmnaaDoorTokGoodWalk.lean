/-
  IsToken of the program, tkGood of the reference: both return the plain gdB.
-/
import Derived.Test.YtopolfibledmnaaDoorTokGood
import Derived.Deep.RegionWith
import Derived.Deep.QuietTactic
import Derived.BigQuiet
namespace Go.Proofs.YtopolfibledmnaaDoor
open Go.RowKit
theorem belDrewN {B : Nat} {w0 w : World} (h : Below B w0 w) (k : Nat) : Below B w0 (w.drewN k) := ⟨h.os, h.tape, h.output, h.size, h.block⟩
/-- A token's cells in block g. -/
structure IsTk (W : World) (g : Nat) (k a : Int) (t : ByteArray) (v : Int) : Prop where
  r0 : W.cell? ⟨g, 0, none⟩ = some (.int .i64 k)
  r1 : W.cell? ⟨g, 1, none⟩ = some (.int .i64 a)
  r2 : W.cell? ⟨g, 2, none⟩ = some (.string t)
  r3 : W.cell? ⟨g, 3, none⟩ = some (.int .i64 v)
  sz : g < W.heap.size
theorem isTk {w W : World} {ty : TypeId} {k a : Int} {t : ByteArray} {v : Int} (hb : Below (w.alloc (.cells #[.int .i64 k, .int .i64 a, .string t, .int .i64 v] ty)).heap.size (w.alloc (.cells #[.int .i64 k, .int .i64 a, .string t, .int .i64 v] ty)) W) : IsTk W w.heap.size k a t v := by
  obtain ⟨hc, _⟩ := bcell hb
  have hs := hb.size
  simp at hs
  constructor
  all_goals first
    | exact (hc _ _ (by simp <;> omega)).trans (by simp [go_sem])
    | omega
theorem IsTk.later {w W : World} {g : Nat} {k a : Int} {t : ByteArray} {v : Int} (h : IsTk w g k a t v) (hb : Below w.heap.size w W) : IsTk W g k a t v :=
  ⟨(hb.cell (p := ⟨g, 0, none⟩) h.sz).trans h.r0, (hb.cell (p := ⟨g, 1, none⟩) h.sz).trans h.r1, (hb.cell (p := ⟨g, 2, none⟩) h.sz).trans h.r2, (hb.cell (p := ⟨g, 3, none⟩) h.sz).trans h.r3, Nat.lt_of_lt_of_le h.sz hb.size⟩
set_option maxHeartbeats 1000000 in
theorem isToken_sign (a : Int) (t : ByteArray) (v : Int) (w : World) (h0 : 0 ≤ a) (h1 : a ≤ 4000) (hG : TabS w 1 signNs) :
    Calls Tryd.prog 17 #[.agg #[.int .i64 4, .int .i64 a, .string t, .int .i64 v]] w fun e w' => e = .returned (.bool (hasS signNs t && decide (v = 0))) ∧ Below w.heap.size w w' := by
  have HT : Hid (∀ W, Below w.heap.size w W → ∀ (j : Nat) u, (strVals signNs)[j]? = some u → W.cell? ⟨1, j, none⟩ = some u) := fun W hW => (hG.later hW).cells
  clear hG
  go_enter Tryd.func17, Tryd.ntmps17
  go_wp2_with (with_reducible refine wpList_load_list rfl 66 _ rfl 1 rfl (strVals signNs) _ (HT.out _ (by repeat (first | (with_reducible exact Below.refl _ _) | (with_reducible refine belAlloc ?_ _) | (with_reducible refine Below.setCell ?_ (by simp) _) | (with_reducible refine Below.drew ?_)))) Tryd.underlying66 rfl (by kernel_rfl) ?_)
  go_loop [49] (fun i => ∃ k : Nat, k ≤ 6 ∧ i = .int .i64 k ∧ fstOf (tabP signNs t) k (signNs.length - k) = tabI signNs t) (fun i => 6 - (intOf i).toNat)
  case atStart => exact ⟨0, Nat.zero_le _, rfl, rfl⟩
  case round =>
    obtain ⟨k, hk, rfl, hq⟩ := hrel
    have HQ := Lib.hid hq
    clear hq
    by_cases hlt : k < 6
    · have hix := fun w => run_index_strs (P := Tryd.prog) 66 9 6 signNs k hlt rfl Tryd.underlying66 Tryd.underlying9 (by kernel_rfl) w
      by_cases hp : tabP signNs t k = true
      · have HR := Lib.hid (hasS_yes hlt HQ.out hp)
        have ht : ((strAt signNs k).toList == t.toList) = true := hp
        clear hp
        by_cases hv : v = 0
        · have e0 : (v == 0) = true := by simpa using hv
          have HV := Lib.hid (decide_eq_true hv)
          clear hv
          go_wp2_with fail
          go_ret
          exact ⟨by rw [HR.out, HV.out]; rfl, by repeat (first | (with_reducible exact Below.refl _ _) | (with_reducible refine belAlloc ?_ _) | (with_reducible refine Below.setCell ?_ (by simp) _) | (with_reducible refine Below.drew ?_))⟩
        · have e0 : (v == 0) = false := by simpa using hv
          have HV := Lib.hid (decide_eq_false hv)
          clear hv
          go_wp2_with fail
          go_ret
          exact ⟨by rw [HR.out, HV.out]; rfl, by repeat (first | (with_reducible exact Below.refl _ _) | (with_reducible refine belAlloc ?_ _) | (with_reducible refine Below.setCell ?_ (by simp) _) | (with_reducible refine Below.drew ?_))⟩
      · have hp' : tabP signNs t k = false := by simpa using hp
        have HR := Lib.hid ((fstOf_no (n := signNs.length) hlt hp').symm.trans HQ.out)
        have ht : ((strAt signNs k).toList == t.toList) = false := hp'
        clear hp hp'
        go_wp2_with fail
        go_round
        case rel => exact ⟨k + 1, by omega, by go_num, HR.out⟩
        case measure => simp [intOf]; omega
    · obtain rfl : k = 6 := by omega
      have HR := Lib.hid (hasS_no rfl HQ.out)
      go_wp2_with fail
      go_ret
      exact ⟨by rw [HR.out]; rfl, by repeat (first | (with_reducible exact Below.refl _ _) | (with_reducible refine belAlloc ?_ _) | (with_reducible refine Below.setCell ?_ (by simp) _) | (with_reducible refine Below.drew ?_))⟩
set_option maxHeartbeats 1000000 in
theorem isToken_out (k a : Int) (t : ByteArray) (v : Int) (w : World) (h : a < 0 ∨ (0 ≤ a ∧ 4000 < a)) :
    Calls Tryd.prog 17 #[.agg #[.int .i64 k, .int .i64 a, .string t, .int .i64 v]] w fun e w' => e = .returned (.bool false) ∧ Below w.heap.size w w' := by
  rcases h with h | ⟨h0, h⟩
  · go_enter Tryd.func17, Tryd.ntmps17
    go_wp2_with fail
    go_ret
    exact ⟨rfl, by repeat (first | (with_reducible exact Below.refl _ _) | (with_reducible refine belAlloc ?_ _) | (with_reducible refine Below.setCell ?_ (by simp) _) | (with_reducible refine Below.drew ?_))⟩
  · have hd : decide (a < 0) = false := decide_eq_false (by omega)
    go_enter Tryd.func17, Tryd.ntmps17
    go_wp2_with fail
    go_ret
    exact ⟨rfl, by repeat (first | (with_reducible exact Below.refl _ _) | (with_reducible refine belAlloc ?_ _) | (with_reducible refine Below.setCell ?_ (by simp) _) | (with_reducible refine Below.drew ?_))⟩
set_option maxHeartbeats 1000000 in
theorem isToken_word (k a : Int) (t : ByteArray) (v : Int) (w : World) (hs : t.size ≤ 1048576) (h0 : 0 ≤ a) (h1 : a ≤ 4000) (hk : k = 1 ∨ k = 2) (hK : TabS w 0 keyNs) :
    Calls Tryd.prog 17 #[.agg #[.int .i64 k, .int .i64 a, .string t, .int .i64 v]] w fun e w' => e = .returned (.bool (decide (v = 0) && decide (wkD t = k))) ∧ Below w.heap.size w w' := by
  have HW : Hid (∀ W, Below w.heap.size w W → _) := fun W hW => wordKind_any t W hs (hK.later hW)
  have hb : ((wkD t == k) = true ∧ decide (wkD t = k) = true) ∨ ((wkD t == k) = false ∧ decide (wkD t = k) = false) := by
    by_cases h : wkD t = k
    · exact .inl ⟨by simpa using h, decide_eq_true h⟩
    · exact .inr ⟨by simpa using h, decide_eq_false h⟩
  clear hK
  generalize wkD t = y at *
  by_cases hv : v = 0
  · rw [decide_eq_true hv, Bool.true_and]
    have e0 : (v == 0) = true := by simpa using hv
    clear hv
    rcases hb with ⟨hy, hd⟩ | ⟨hy, hd⟩
    all_goals
      rw [hd]
      clear hd
      rcases hk with rfl | rfl
      all_goals
        go_enter Tryd.func17, Tryd.ntmps17
        go_wp2_with fail
        go_region_with (first | (go_at_call 45; refine (HW.out _ (by repeat (first | (with_reducible exact Below.refl _ _) | (with_reducible refine belAlloc ?_ _) | (with_reducible refine Below.setCell ?_ (by simp) _) | (with_reducible refine Below.drew ?_)))).mono ?_; rintro e w1 ⟨rfl, rfl⟩))
        all_goals
          go_wp2_with fail
          go_ret
          exact ⟨rfl, by repeat (first | (with_reducible exact Below.refl _ _) | (with_reducible refine belAlloc ?_ _) | (with_reducible refine Below.setCell ?_ (by simp) _) | (with_reducible refine Below.drew ?_))⟩
  · rw [decide_eq_false hv, Bool.false_and]
    have e0 : (v == 0) = false := by simpa using hv
    clear hv hb
    rcases hk with rfl | rfl
    all_goals
      go_enter Tryd.func17, Tryd.ntmps17
      go_wp2_with fail
      go_quiet (fail)
      all_goals
        go_wp2_with fail
        go_ret
        exact ⟨rfl, belDrewN (belAlloc (Below.refl _ _) _) _⟩
set_option maxHeartbeats 1000000 in
theorem isToken_num (a : Int) (t : ByteArray) (v : Int) (w : World) (hs : t.size ≤ 1048576) (h0 : 0 ≤ a) (h1 : a ≤ 4000) :
    Calls Tryd.prog 17 #[.agg #[.int .i64 3, .int .i64 a, .string t, .int .i64 v]] w fun e w' => e = .returned (.bool (decide (0 ≤ raD t) && decide (raD t = v))) ∧ Below w.heap.size w w' := by
  have HA := Lib.hid (fun W => implReadAny_any t W hs)
  generalize raD t = y at *
  by_cases hx : y < 0
  · rw [decide_eq_false (p := 0 ≤ y) (by omega), Bool.false_and]
    rw [outT_no hx] at HA
    clear hx
    go_enter Tryd.func17, Tryd.ntmps17
    go_wp2_with (go_at_call 46; refine (HA.out _).mono ?_; rintro e w1 ⟨rfl, rfl⟩)
    go_ret
    exact ⟨rfl, by repeat (first | (with_reducible exact Below.refl _ _) | (with_reducible refine belAlloc ?_ _) | (with_reducible refine Below.setCell ?_ (by simp) _) | (with_reducible refine Below.drew ?_))⟩
  · rw [decide_eq_true (p := 0 ≤ y) (by omega), Bool.true_and]
    rw [outT_yes (by omega)] at HA
    by_cases hy : y = v
    · rw [decide_eq_true hy]
      have e0 : (y == v) = true := by simpa using hy
      clear hy hx
      go_enter Tryd.func17, Tryd.ntmps17
      go_wp2_with (go_at_call 46; refine (HA.out _).mono ?_; rintro e w1 ⟨rfl, rfl⟩)
      go_ret
      exact ⟨rfl, by repeat (first | (with_reducible exact Below.refl _ _) | (with_reducible refine belAlloc ?_ _) | (with_reducible refine Below.setCell ?_ (by simp) _) | (with_reducible refine Below.drew ?_))⟩
    · rw [decide_eq_false hy]
      have e0 : (y == v) = false := by simpa using hy
      clear hy hx
      go_enter Tryd.func17, Tryd.ntmps17
      go_wp2_with (go_at_call 46; refine (HA.out _).mono ?_; rintro e w1 ⟨rfl, rfl⟩)
      go_ret
      exact ⟨rfl, by repeat (first | (with_reducible exact Below.refl _ _) | (with_reducible refine belAlloc ?_ _) | (with_reducible refine Below.setCell ?_ (by simp) _) | (with_reducible refine Below.drew ?_))⟩
set_option maxHeartbeats 1000000 in
theorem isToken_other (k a : Int) (t : ByteArray) (v : Int) (w : World) (h0 : 0 ≤ a) (h1 : a ≤ 4000) (k1 : k ≠ 1) (k2 : k ≠ 2) (k3 : k ≠ 3) (k4 : k ≠ 4) :
    Calls Tryd.prog 17 #[.agg #[.int .i64 k, .int .i64 a, .string t, .int .i64 v]] w fun e w' => e = .returned (.bool false) ∧ Below w.heap.size w w' := by
  have e1 : (k == 1) = false := by simpa using k1
  have e2 : (k == 2) = false := by simpa using k2
  have e3 : (k == 3) = false := by simpa using k3
  have e4 : (k == 4) = false := by simpa using k4
  clear k1 k2 k3 k4
  go_enter Tryd.func17, Tryd.ntmps17
  go_wp2_with fail
  go_ret
  exact ⟨rfl, by repeat (first | (with_reducible exact Below.refl _ _) | (with_reducible refine belAlloc ?_ _) | (with_reducible refine Below.setCell ?_ (by simp) _) | (with_reducible refine Below.drew ?_))⟩
theorem isToken_any (x : Tk) (w : World) (hs : x.t.size ≤ 1048576) (hK : TabS w 0 keyNs) (hG : TabS w 1 signNs) :
    Calls Tryd.prog 17 #[.agg #[.int .i64 x.k, .int .i64 x.a, .string x.t, .int .i64 x.v]] w fun e w' => e = .returned (.bool (gdB x)) ∧ Below w.heap.size w w' := by
  unfold gdB
  obtain ⟨k, a, t, v⟩ := x
  dsimp only at *
  by_cases ha : 0 ≤ a ∧ a ≤ 4000
  · rw [decide_eq_true ha, Bool.true_and]
    by_cases h12 : k = 1 ∨ k = 2
    · rw [if_pos h12]
      exact isToken_word k a t v w hs ha.1 ha.2 h12 hK
    · rw [if_neg h12]
      by_cases h3 : k = 3
      · subst h3
        rw [if_pos rfl]
        exact isToken_num a t v w hs ha.1 ha.2
      · rw [if_neg h3]
        by_cases h4 : k = 4
        · subst h4
          rw [if_pos rfl]
          exact isToken_sign a t v w ha.1 ha.2 hG
        · rw [if_neg h4]
          exact isToken_other k a t v w ha.1 ha.2 (by omega) (by omega) h3 h4
  · rw [decide_eq_false ha, Bool.false_and]
    exact isToken_out k a t v w (by omega)
end Go.Proofs.YtopolfibledmnaaDoor
