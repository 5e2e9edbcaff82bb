/-
  The reference's cuFits: a sum of curves is at most a curve at all times of cuTimes.
-/
import Derived.Test.YtnfkepngjbjeoaaCuTimes
import Derived.Test.YtnfkepngjbjeoaaCurveList
import Derived.Test.YtnfkepngjbjeoaaSameBelow
namespace Go.Proofs.Ytnfkepngjbjeoaa
open Go.RowKit
/-- The cells of a row of curves, as a list. -/
def flatVs (f : Nat → Nat → Int) (n : Nat) : List Value := (List.range (n * 3)).map (flatCurveS f)
theorem flatVs_len (f : Nat → Nat → Int) (n : Nat) : (flatVs f n).length = n * 3 := by simp [flatVs]
theorem flatVs_get {f : Nat → Nat → Int} {n j : Nat} {u : Value} (h : (flatVs f n)[j]? = some u) : j < n * 3 ∧ u = flatCurveS f j := by
  have hj : j < n * 3 := by have := (List.getElem?_eq_some_iff.1 h).1; rwa [flatVs_len] at this
  refine ⟨hj, ?_⟩
  simp [flatVs, hj] at h
  exact h.symm
theorem flatVs_one {f : Nat → Nat → Int} {n : Nat} : ∀ v ∈ flatVs f n, v.oneCell' = true := by
  intro v hv
  simp only [flatVs, List.mem_map] at hv
  obtain ⟨_, _, rfl⟩ := hv
  rfl
theorem own_flat {w : World} {base g n cap : Nat} {e : TypeId} {f : Nat → Nat → Int} (h : w.ownsRow base e 3 (.slice (some ⟨g, 0, none⟩) n cap) n (flatVs f n)) : OwnCurveS w g n f :=
  ⟨(h.lt g rfl).2, fun i hi => ⟨by
    rw [h.cellAt i hi]
    simp [flatVs, hi], h.frozenAt i⟩⟩
/-- A curve ahead of a row of curves. -/
def consC (x y z : Int) (f : Nat → Nat → Int) : Nat → Nat → Int := fun i j => if i = 0 then (if j = 0 then x else if j = 1 then y else z) else f (i - 1) j
theorem flat_cons (x y z : Int) (f : Nat → Nat → Int) (n : Nat) : [Value.int .i64 x, .int .i64 y, .int .i64 z] ++ flatVs f n = flatVs (consC x y z f) (n + 1) := by
  apply List.ext_getElem?
  intro j
  by_cases hj : j < 3
  · rw [List.getElem?_append_left (by simpa using hj)]
    have : (flatVs (consC x y z f) (n + 1))[j]? = some (flatCurveS (consC x y z f) j) := by simp [flatVs, show j < (n + 1) * 3 by omega]
    rw [this]
    match j, hj with
    | 0, _ => rfl
    | 1, _ => rfl
    | 2, _ => rfl
  · rw [List.getElem?_append_right (by simp; omega)]
    by_cases h2 : j < (n + 1) * 3
    · have e1 : (flatVs (consC x y z f) (n + 1))[j]? = some (flatCurveS (consC x y z f) j) := by simp [flatVs, h2]
      have e2 : (flatVs f n)[j - 3]? = some (flatCurveS f (j - 3)) := by simp [flatVs, show j - 3 < n * 3 by omega]
      simp only [List.length_cons, List.length_nil]
      rw [e1, e2, flatCurveS, flatCurveS, consC, if_neg (by omega), show (j - 3) / 3 = j / 3 - 1 by omega, show (j - 3) % 3 = j % 3 by omega]
    · rw [List.getElem?_eq_none (by rw [flatVs_len]; simp; omega), List.getElem?_eq_none (by rw [flatVs_len]; omega)]
theorem lens_cons (x y z : Int) (f : Nat → Nat → Int) (n : Nat) (t : Int) : t ∈ lens (consC x y z f) (n + 1) ↔ t = y ∨ t ∈ lens f n := by
  simp only [lens, List.mem_map, List.mem_range]
  constructor
  · rintro ⟨i, hi, rfl⟩
    cases i with
    | zero => exact .inl rfl
    | succ i => exact .inr ⟨i, by omega, by simp [consC]⟩
  · rintro (rfl | ⟨i, hi, rfl⟩)
    · exact ⟨0, by omega, rfl⟩
    · exact ⟨i + 1, by omega, by simp [consC]⟩
def sumLe (f : Nat → Nat → Int) (n : Nat) (x y z t : Int) : Bool := decide (sumC f t n ≤ cAt x y z t)
def fitT (f : Nat → Nat → Int) (n : Nat) (x y z : Int) : List Int := puts [0, 100000] (lens (consC x y z f) (n + 1))
theorem fitT_bd {f : Nat → Nat → Int} {n : Nat} {x y z : Int} (hall : ∀ i, i < n → crvB (f i 0) (f i 1) (f i 2) = true) (hc : crvB x y z = true) {j : Nat} (hj : j < (fitT f n x y z).length) : 0 ≤ (fitT f n x y z).getD j 0 ∧ (fitT f n x y z).getD j 0 ≤ 100000 := by
  have hm : (fitT f n x y z).getD j 0 ∈ fitT f n x y z := getD_mem hj
  generalize (fitT f n x y z).getD j 0 = t at *
  rcases ((puts_spec (lens (consC x y z f) (n + 1)) _ base_rises).2 t).1 hm with h | h
  · simp at h; omega
  · rcases (lens_cons x y z f n t).1 h with rfl | h
    · obtain ⟨_, ⟨_, _⟩, _⟩ := crvB_iff.1 hc; omega
    · simp only [lens, List.mem_map, List.mem_range] at h
      obtain ⟨i, hi, rfl⟩ := h
      obtain ⟨_, ⟨_, _⟩, _⟩ := crvB_iff.1 (hall i hi); omega
theorem fitT_len (f : Nat → Nat → Int) (n : Nat) (x y z : Int) : (fitT f n x y z).length ≤ n + 3 := by
  have h := puts_len (lens (consC x y z f) (n + 1)) [0, 100000]
  rw [lens_length] at h
  simp only [List.length_cons, List.length_nil] at h
  unfold fitT
  omega
theorem cuTimes_fit (g c n : Nat) (f : Nat → Nat → Int) (x y z : Int) (w : World) (hn : n ≤ 12) (hall : ∀ i, i < n → crvB (f i 0) (f i 1) (f i 2) = true) (hc : crvB x y z = true) (hown : OwnCurveS w g (n + 1) (consC x y z f)) :
    Calls Try.prog 56 #[.slice (some ⟨g, 0, none⟩) (n + 1) c] w (TimesOut w (fitT f n x y z)) := by
  refine cuTimes_any g c (n + 1) (consC x y z f) w (by omega) (fun i hi => ?_) hown
  cases i with
  | zero => obtain ⟨_, ⟨_, _⟩, _⟩ := crvB_iff.1 hc; simp [consC]; omega
  | succ i => obtain ⟨_, ⟨_, _⟩, _⟩ := crvB_iff.1 (hall i (by omega)); simp [consC]; omega
set_option maxHeartbeats 4000000 in
theorem cuFits_any (g c n : Nat) (f : Nat → Nat → Int) (x y z : Int) (w : World) (hn : n ≤ 12) (hall : ∀ i, i < n → crvB (f i 0) (f i 1) (f i 2) = true) (hc : crvB x y z = true) (hown : OwnCurveS w g n f) :
    Calls Try.prog 55 #[.slice (some ⟨g, 0, none⟩) n c, .agg #[.int .i64 x, .int .i64 y, .int .i64 z]] w fun e w' => e = .returned (.bool (allB (fitT f n x y z) (sumLe f n x y z))) ∧ Below w.heap.size w w' := by
  obtain ⟨i0, hi, hz0, hz1, hz2⟩ := info_parts infoCurveS
  have HO := Lib.hid hown
  have HA := Lib.hid hall
  have HC := Lib.hid hc
  have HBD : Hid (∀ j, j < (fitT f n x y z).length → 0 ≤ (fitT f n x y z).getD j 0 ∧ (fitT f n x y z).getD j 0 ≤ 100000) := fun j hj => fitT_bd hall hc hj
  have HLN := Lib.hid (fitT_len f n x y z)
  have HT := Lib.hid (fun W g c => cuTimes_fit g c n f x y z W hn hall hc)
  have hgl := hown.1
  clear hown hall hc
  have h63 : 1 + n ≤ maxLen := by unfold maxLen; omega
  have hby : (1 + n) * 24 ≤ 140737488355328 := by omega
  have HX : Hid (∀ W : World, Below (w.alloc (.cells #[.int .i64 x, .int .i64 y, .int .i64 z] 25)).heap.size (w.alloc (.cells #[.int .i64 x, .int .i64 y, .int .i64 z] 25)) W → IsCrv W w.heap.size x y z) := fun W hb =>
    IsCrv.later ⟨by simp, by simp [go_sem], by simp [go_sem], by simp [go_sem]⟩ hb
  go_enter Try.func55, Try.ntmps55
  go_wp2_with (at_builtin; refine wpList_append_own _ rfl (.tmp 8) (.tmp 9) 38 rfl (w.heap.size + 1) 25 i0 (.agg #[.int .i64 0, .int .i64 0, .int .i64 0]) 3 24 Try.underlying38 hi hz0 hz1 hz2 rfl (by decide) _ 1 [.int .i64 x, .int .i64 y, .int .i64 z] rfl ?c0 ⟨g, 0, none⟩ n c (flatVs f n) rfl ?c1 ?c2 ?c3 h63 hby ?c4 ?_)
  case c0 =>
    have := World.ownsRow_lit (base := w.heap.size + 1) (e := 25) (size := 3) (w.alloc (.cells #[.int .i64 x, .int .i64 y, .int .i64 z] 25)) #[.int .i64 x, .int .i64 y, .int .i64 z] 1 (by simp) (by unfold maxLen; omega) rfl
    show World.ownsRow _ _ _ _ (.slice (some ⟨w.heap.size + 1, 0, none⟩) 1 1) _ _
    simpa using this
  case c1 => exact flatVs_len f n
  case c2 =>
    intro j u hj
    obtain ⟨hj', rfl⟩ := flatVs_get hj
    have e1 : (⟨g, 0, none⟩ : Addr).add j = ⟨g, j, none⟩ := addr_add g j
    first
      | exact Own.cell HO.out hj'
      | (rw [e1]; exact (Own.later HO.out (belAlloc (belAlloc (Below.refl _ w) _) _)).cell hj')
  case c3 => exact flatVs_one
  all_goals (try (simp; done))
  intro v1 w1 hown1 hg1 hne1
  have hB1 : Below (w.alloc (.cells #[.int .i64 x, .int .i64 y, .int .i64 z] 25)).heap.size (w.alloc (.cells #[.int .i64 x, .int .i64 y, .int .i64 z] 25)) w1 := ((Below.refl _ _).alloc (Nat.le_refl _) _).grown hg1 (by simp) (fun k hk => by simp [Value.ownBlock] at hk ⊢; omega)
  have hform : ∃ g1 cap1, v1 = .slice (some ⟨g1, 0, none⟩) (n + 1) cap1 ∧ OwnCurveS w1 g1 (n + 1) (consC x y z f) := by
    have h1 : w1.ownsRow (w.heap.size + 1) 25 3 v1 (n + 1) (flatVs (consC x y z f) (n + 1)) := by
      rw [← flat_cons, show n + 1 = 1 + n by omega]
      exact hown1
    have h2 := h1
    rcases h1.2 with ⟨hv, h0⟩ | ⟨g1, cap1, _, rfl, _⟩
    · omega
    · exact ⟨g1, cap1, rfl, own_flat h2⟩
  obtain ⟨g1, cap1, rfl, hown2⟩ := hform
  have HO1 := Lib.hid hown2
  have HB1 := Lib.hid hB1
  clear hown1 hg1 hne1 hB1 hown2
  go_wp2_with fail
  refine (HT.out _ _ _ HO1.out).mono ?_
  generalize hzz : fitT f n x y z = zs at *
  have HZZ := Lib.hid hzz
  clear hzz HT HO1
  rintro e w2 ⟨g2, c2, rfl, hcap, hown2, hb2⟩
  have HB2 := Lib.hid (belNext HB1.out hb2)
  have HO2 := Lib.hid hown2
  clear hb2 hown2 hcap HB1
  go_wp2_with fail
  go_loopw [13] (fun i wr => ∃ k : Nat, k ≤ zs.length ∧ i = .int .i64 k ∧ (∀ j, j < k → sumLe f n x y z (zs.getD j 0) = true) ∧ Below w2.heap.size w2 wr) (fun i _ => zs.length - (intOf i).toNat)
  case atStart => exact ⟨0, Nat.zero_le _, rfl, fun j hj => absurd hj (by omega), Below.refl _ _⟩
  case round =>
    obtain ⟨k, hk, rfl, hall, hb⟩ := hrel
    have HAL := Lib.hid hall
    have HB3 := Lib.hid (belNext HB2.out hb)
    have HB4 := Lib.hid hb
    obtain ⟨kg, k0, k1, k2⟩ := HX.out _ HB3.out
    have hln := HLN.out
    clear hall hb
    by_cases hlt : k < zs.length
    · have hcell : wr.cell? ⟨g2, k, none⟩ = some (.int .i64 (zs.getD k 0)) := (HO2.out.later HB4.out).cell hlt
      obtain ⟨z0, z1⟩ := HBD.out k hlt
      obtain ⟨t, hz⟩ : ∃ t, zs.getD k 0 = t := ⟨_, rfl⟩
      rw [hz] at hcell z0 z1
      have HZ := Lib.hid hz
      clear hz
      have HS : Hid (∀ W, Below wr.heap.size wr W → Calls Try.prog 51 #[.slice (some ⟨g, 0, none⟩) n c, .int .i64 t] W fun e w' => e = .returned (.int .i64 (sumC f t n)) ∧ Below W.heap.size W w') := fun W hW =>
        cuSum_any g c n f t W hn HA.out z0 z1 (OwnCurveS.later HO.out (belNext (belNext (belAlloc (Below.refl _ w) _) HB3.out) hW))
      have HE := Lib.hid (fun W => cuAt_any x y z t W HC.out z0 z1)
      have HF : Hid (∀ W, Below wr.heap.size wr W → IsCrv W w.heap.size x y z) := fun W hW => HX.out W (belNext HB3.out hW)
      have hsb := sumC_bd z0 z1 HA.out
      by_cases hp : sumLe f n x y z t = true
      · have HP := Lib.hid hp
        have hd : decide (cAt x y z t < sumC f t n) = false := by have := of_decide_eq_true hp; simp; omega
        clear hp
        go_wp2_with fail
        go_region_with ((first | (go_at_call 40; refine (HE.out _).mono ?_; rintro e w3 ⟨rfl, rfl⟩) | (go_at_call 51; refine (HS.out _ (by repeat (first | exact Below.refl _ _ | assumption | refine Below.alloc ?_ (by simp; try omega) _ | refine Below.setCell ?_ (by simp; try omega) _ | refine Below.drew ?_))).mono ?_; rintro e w3 ⟨rfl, hb3⟩; have hB3 : Below wr.heap.size wr w3 := belNext (by repeat (first | exact Below.refl _ _ | assumption | refine Below.alloc ?_ (by simp; try omega) _ | refine Below.setCell ?_ (by simp; try omega) _ | refine Below.drew ?_)) hb3; obtain ⟨q, q0, q1, q2⟩ := HF.out _ hB3; clear hb3)))
        all_goals
          clear q q0 q1 q2
          go_wp2_with fail
          go_roundw
          case rel => exact ⟨k + 1, by omega, by go_num, fun j hj => by rcases Nat.lt_succ_iff_lt_or_eq.1 hj with h | rfl; exact HAL.out j h; rw [HZ.out]; exact HP.out, belNext HB4.out (by repeat (first | exact hB3 | exact Below.refl _ _ | refine belAlloc ?_ _ | refine Below.drew ?_))⟩
          case measure => simp [intOf]; omega
      · have hp' : sumLe f n x y z t = false := by simpa using hp
        have HN : Hid (allB zs (sumLe f n x y z) = false) := all_no hlt (by rw [HZ.out]; exact hp')
        have hd : decide (cAt x y z t < sumC f t n) = true := by have := of_decide_eq_false hp'; simp; omega
        clear hp hp'
        go_wp2_with fail
        go_region_with ((first | (go_at_call 40; refine (HE.out _).mono ?_; rintro e w3 ⟨rfl, rfl⟩) | (go_at_call 51; refine (HS.out _ (by repeat (first | exact Below.refl _ _ | assumption | refine Below.alloc ?_ (by simp; try omega) _ | refine Below.setCell ?_ (by simp; try omega) _ | refine Below.drew ?_))).mono ?_; rintro e w3 ⟨rfl, hb3⟩; have hB3 : Below wr.heap.size wr w3 := belNext (by repeat (first | exact Below.refl _ _ | assumption | refine Below.alloc ?_ (by simp; try omega) _ | refine Below.setCell ?_ (by simp; try omega) _ | refine Below.drew ?_)) hb3; obtain ⟨q, q0, q1, q2⟩ := HF.out _ hB3; clear hb3)))
        all_goals
          clear q q0 q1 q2
          go_wp2_with fail
          go_ret
          exact ⟨by rw [HZZ.out, HN.out]; rfl, belNext (belNext (belAlloc (Below.refl _ w) _) HB3.out) (by repeat (first | exact hB3 | exact Below.refl _ _ | refine belAlloc ?_ _ | refine Below.drew ?_))⟩
    · have HN : Hid (allB zs (sumLe f n x y z) = true) := all_yes (fun j hj => HAL.out j (by omega))
      go_wp2_with fail
      go_ret
      exact ⟨by rw [HZZ.out, HN.out]; rfl, belNext (belAlloc (Below.refl _ w) _) HB3.out⟩
end Go.Proofs.Ytnfkepngjbjeoaa
