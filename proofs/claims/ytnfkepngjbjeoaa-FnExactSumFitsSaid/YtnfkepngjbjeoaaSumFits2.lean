/-
  SumFits of the program: the walk of its region and of its loop.
-/
import Derived.Test.YtnfkepngjbjeoaaSumFits
import Derived.Deep.RegionLaw
namespace Go.Proofs.Ytnfkepngjbjeoaa
open Go.RowKit
theorem step_append_own {P : Program} {ops : Array Oper} {o : Oper} {a : Act} {w : World} {K : Act → World → Prop} {Q : Exit → Act → World → Prop} {E : Prop} (hg : o.guard = none) (s x : Operand) (t : TypeId)
    (ho : o.op = .call { callee := .builtin .append, args := #[s, x], argTypes := #[t, t] })
    (base : Nat) (e : TypeId) (i : TypeInfo) (z : Value) (size bytes : Nat) (ht : P.underlying t = some (.slice e)) (hi : P.info? e = some i) (hz : i.zero = some z)
    (hsize : i.size = size) (hby : i.bytes = bytes) (hzs : z.cells.size = size) (hsz : 0 < size)
    (v : Value) (n : Nat) (xs : List Value) (hs : a.eval s = v) (hown : w.ownsRow base e size v n xs)
    (ad : Addr) (m c : Nat) (news : List Value) (hx : a.eval x = .slice (some ad) m c) (hl : news.length = m * size) (hnews : ∀ j u, news[j]? = some u → w.cell? (ad.add j) = some u) (h1 : ∀ u ∈ news, u.oneCell' = true)
    (h63 : n + m ≤ maxLen) (hbytes : (n + m) * bytes ≤ 140737488355328) (hbase : base ≤ w.heap.size)
    (h : ∀ v' w', w'.ownsRow base e size v' (n + m) (xs ++ news) → w.grownBy w' v.ownBlock → K (a.put o.dst v') w') :
    if Region.wanted o (yielded ops a.tmps) = true then Oper.wp P o a w K Q else E := by
  have hw : Region.wanted o (yielded ops a.tmps) = true := by simp [Region.wanted, hg]
  rw [if_pos hw]
  exact wp_append_own (P := P) w s x t ho base e i z size bytes ht hi hz hsize hby hzs hsz v n xs hs hown ad m c news hx hl hnews h1 h63 hbytes hbase fun v' w' h2 h3 _ => h v' w' h2 h3
/-- A curve behind a row of curves. -/
def snocC (f : Nat → Nat → Int) (n : Nat) (x y z : Int) : Nat → Nat → Int := fun i j => if i < n then f i j else (if j = 0 then x else if j = 1 then y else z)
theorem flat_snoc (x y z : Int) (f : Nat → Nat → Int) (n : Nat) : flatVs f n ++ [Value.int .i64 x, .int .i64 y, .int .i64 z] = flatVs (snocC f n x y z) (n + 1) := by
  apply List.ext_getElem?
  intro j
  by_cases hj : j < n * 3
  · rw [List.getElem?_append_left (by rw [flatVs_len]; exact hj)]
    have e1 : (flatVs (snocC f n x y z) (n + 1))[j]? = some (flatCurveS (snocC f n x y z) j) := by simp [flatVs, show j < (n + 1) * 3 by omega]
    have e2 : (flatVs f n)[j]? = some (flatCurveS f j) := by simp [flatVs, hj]
    rw [e1, e2, flatCurveS, flatCurveS, snocC, if_pos (by omega)]
  · rw [List.getElem?_append_right (by rw [flatVs_len]; omega), flatVs_len]
    by_cases h2 : j < (n + 1) * 3
    · have e1 : (flatVs (snocC f n x y z) (n + 1))[j]? = some (flatCurveS (snocC f n x y z) j) := by simp [flatVs, h2]
      rw [e1, flatCurveS, snocC, if_neg (by omega)]
      obtain ⟨d, hd, rfl⟩ : ∃ d, d < 3 ∧ j = n * 3 + d := ⟨j - n * 3, by omega, by omega⟩
      rw [show n * 3 + d - n * 3 = d by omega, show (n * 3 + d) % 3 = d by omega]
      match d, hd with
      | 0, _ => rfl
      | 1, _ => rfl
      | 2, _ => rfl
    · rw [List.getElem?_eq_none (by simp; omega), List.getElem?_eq_none (by rw [flatVs_len]; omega)]
theorem lens_snocC (x y z : Int) (f : Nat → Nat → Int) (n : Nat) : lens (snocC f n x y z) (n + 1) = lens f n ++ [y] := by
  rw [lens_snoc]
  congr 1
  · unfold lens
    apply List.map_congr_left
    intro i hi
    simp [snocC, List.mem_range.1 hi]
  · simp [snocC]
theorem fit_bends (f : Nat → Nat → Int) (n : Nat) (x y z : Int) : fitT f n x y z = times ([0, 100000] ++ lens (snocC f n x y z) (n + 1)) := by
  rw [lens_snocC]
  refine puts_times _ _ (fun t => ?_)
  rw [lens_cons, List.mem_append]
  simp [or_comm]
theorem bends_fit (g c n : Nat) (f : Nat → Nat → Int) (x y z : Int) (w : World) (hn : n ≤ 12) (hown : OwnCurveS w g (n + 1) (snocC f n x y z)) :
    Calls Try.prog 54 #[.slice (some ⟨g, 0, none⟩) (n + 1) c] w (TimesOut w (fitT f n x y z)) := by
  rw [fit_bends]
  exact bends_any g c (n + 1) (snocC f n x y z) w (by omega) hown
theorem ownsRow_low {w : World} {base base' size n : Nat} {e : TypeId} {v : Value} {xs : List Value} (h : w.ownsRow base e size v n xs) (hb : base' ≤ base) : w.ownsRow base' e size v n xs := by
  refine ⟨h.1, ?_⟩
  rcases h.2 with h0 | ⟨g, cap, cur, rfl, hbg, hr⟩
  · exact .inl h0
  · exact .inr ⟨g, cap, cur, rfl, by omega, hr⟩
theorem own_snoc {w : World} {base n : Nat} {e : TypeId} {v : Value} {f : Nat → Nat → Int} {x y z : Int} (h : w.ownsRow base e 3 v (n + 1) (flatVs f n ++ [Value.int .i64 x, .int .i64 y, .int .i64 z])) : ∃ g c, v = .slice (some ⟨g, 0, none⟩) (n + 1) c ∧ OwnCurveS w g (n + 1) (snocC f n x y z) := by
  rw [flat_snoc] at h
  have h' := h
  rcases h.2 with ⟨_, e0⟩ | ⟨g, cap, cur, rfl, _⟩
  · omega
  · exact ⟨g, cap, rfl, own_flat h'⟩
theorem news_three (w : World) (b : Nat) (x y z : Value) (t : TypeId) (hb : b = w.heap.size) : ∀ (j : Nat) (u : Value), [x, y, z][j]? = some u → (w.alloc (.cells #[x, y, z] t)).cell? ((⟨b, 0, none⟩ : Addr).add j) = some u := by
  subst hb
  intro j u hj
  match j, hj with
  | 0, hj => simp at hj; subst hj; simp [Addr.add]
  | 1, hj => simp at hj; subst hj; simp [Addr.add]
  | 2, hj => simp at hj; subst hj; simp [Addr.add]
theorem news_old {W w1 : World} {b : Nat} {X Y Z : Value} {t : TypeId} (hb : Below (W.alloc (.cells #[X, Y, Z] t)).heap.size (W.alloc (.cells #[X, Y, Z] t)) w1) (e : b = W.heap.size) : ∀ (j : Nat) (u : Value), [X, Y, Z][j]? = some u → w1.cell? ((⟨b, 0, none⟩ : Addr).add j) = some u := fun j u hj => by
  have h0 := news_three W b X Y Z t e j u hj
  rw [addr_add] at h0 ⊢
  rw [hb.cell (p := ⟨b, j, none⟩) (by subst e; simp)]
  exact h0
set_option maxHeartbeats 4000000 in
theorem implSumFits_yes (g c n : Nat) (f : Nat → Nat → Int) (x y z : Int) (w : World) (hl : crvsB f n = true) (hc : crvB x y z = true) (hn1 : n ≤ 1048576) (hown : OwnCurveS w g n f) :
    Calls Try.prog 37 #[.slice (some ⟨g, 0, none⟩) n c, .agg #[.int .i64 x, .int .i64 y, .int .i64 z]] w fun e w' => e = .returned (.tuple #[.bool (allB (fitT f n x y z) (sumLe f n x y z)), .bool true]) ∧ Below w.heap.size w w' := by
  obtain ⟨hn, hall⟩ := crvsB_at hl
  obtain ⟨i0, hi, hz0, hz1, hz2⟩ := info_parts infoCurveS
  have HAC : Hid (∀ W, OwnCurveS W g n f → Calls Try.prog 52 #[.slice (some ⟨g, 0, none⟩) n c] W fun e w' => e = .returned (.bool true) ∧ Below W.heap.size W w') := fun W hW => by
    have := areCurves_any g c n f W hn1 hW
    rwa [hl] at this
  have HIC : Hid (∀ W, _) := fun W => isCurve_any x y z W
  rw [hc] at HIC
  have HO := Lib.hid hown
  have HA := Lib.hid hall
  have HC := Lib.hid hc
  have HBD : Hid (∀ j, j < (fitT f n x y z).length → 0 ≤ (fitT f n x y z).getD j 0 ∧ (fitT f n x y z).getD j 0 ≤ 100000) := fun j hj => fitT_bd hall hc hj
  have HLN := Lib.hid (fitT_len f n x y z)
  have HT := Lib.hid (fun W g c => bends_fit g c n f x y z W hn)
  have HCL := Lib.hid (fun W => cloneC_any g c n f W hn)
  have hgl := hown.1
  clear hown hall hc hl
  have h63 : n + 1 ≤ maxLen := by unfold maxLen; omega
  have hby : (n + 1) * 24 ≤ 140737488355328 := by omega
  have HX : Hid (∀ W : World, Below (w.alloc (.cells #[.int .i64 x, .int .i64 y, .int .i64 z] 25)).heap.size (w.alloc (.cells #[.int .i64 x, .int .i64 y, .int .i64 z] 25)) W → IsCrv W w.heap.size x y z) := fun W hb =>
    IsCrv.later ⟨by simp, by simp [go_sem], by simp [go_sem], by simp [go_sem]⟩ hb
  go_enter Try.func37, Try.ntmps37
  go_wp2_with fail
  refine (HAC.out _ (OwnCurveS.later HO.out (by (repeat refine belAlloc ?_ _); exact Below.refl _ _))).mono ?_
  rintro e wa ⟨rfl, hba⟩
  have HBA := Lib.hid hba
  obtain ⟨kg, k0, k1, k2⟩ := HX.out _ hba
  clear hba
  go_wp2_with fail
  refine (HIC.out _).mono ?_
  rintro e wb ⟨rfl, rfl⟩
  go_wp2_with fail
  go_region_law ((first
    | (refine step_append_own rfl (.tmp 17) (.tmp 19) 38 rfl (w.heap.size + 1) 25 i0 (.agg #[.int .i64 0, .int .i64 0, .int .i64 0]) 3 24 Try.underlying38 hi hz0 hz1 hz2 rfl (by decide) _ n (flatVs f n) rfl (by first | exact ho1 | exact ho1.alloc _) _ 1 1 [.int .i64 x, .int .i64 y, .int .i64 z] rfl rfl (by first | exact news_three _ _ _ _ _ _ (by simp) | exact news_old (W := wa.alloc (.cells #[.int .i64 x, .int .i64 y, .int .i64 z] 25)) (t := 25) ⟨HB1c.out.os, HB1c.out.tape, HB1c.out.output, HB1c.out.size, HB1c.out.block⟩ (by simp)) (by intro u hu; simp at hu; rcases hu with rfl | rfl | rfl <;> rfl) h63 hby (by have := hB1.size; simp at this ⊢; omega) ?_; intro v2 w2 ho2 hg2; obtain ⟨g2, c2, rfl, how2⟩ := own_snoc ho2; have hB2 : Below (w.alloc (.cells #[.int .i64 x, .int .i64 y, .int .i64 z] 25)).heap.size (w.alloc (.cells #[.int .i64 x, .int .i64 y, .int .i64 z] 25)) w2 := (show Below (w.alloc (.cells #[.int .i64 x, .int .i64 y, .int .i64 z] 25)).heap.size (w.alloc (.cells #[.int .i64 x, .int .i64 y, .int .i64 z] 25)) _ from (by repeat (first | exact hB1 | exact Below.refl _ _ | refine belAlloc ?_ _ | refine Below.drew ?_))).grown hg2 (by have := hB1.size; simp at this ⊢; omega) (fun q hq => by have := (ho1.lt q hq).1; simp; omega))
    | (go_simp; go_at_call 58; refine (HCL.out _ (OwnCurveS.later HO.out (belNext (belAlloc (Below.refl _ w) _) (show Below (w.alloc (.cells #[.int .i64 x, .int .i64 y, .int .i64 z] 25)).heap.size (w.alloc (.cells #[.int .i64 x, .int .i64 y, .int .i64 z] 25)) _ from (by repeat (first | exact HBA.out | exact Below.refl _ _ | refine belAlloc ?_ _ | refine Below.drew ?_)))))).mono ?_; rintro e w1 ⟨v1, rfl, ho0, hb1⟩; have HB1c := Lib.hid hb1; have hB1 : Below (w.alloc (.cells #[.int .i64 x, .int .i64 y, .int .i64 z] 25)).heap.size (w.alloc (.cells #[.int .i64 x, .int .i64 y, .int .i64 z] 25)) w1 := belNext (by repeat (first | exact HBA.out | exact Below.refl _ _ | refine belAlloc ?_ _ | refine Below.drew ?_)) hb1; obtain ⟨q, q0, q1, q2⟩ := HX.out _ hB1; have ho1 := ownsRow_low (base' := w.heap.size + 1) ho0 (by have := HBA.out.size; simp at this ⊢; omega); clear hb1 ho0)
    | (go_simp; go_at_call 54; refine (HT.out _ _ _ how2).mono ?_; rintro e w3 ⟨g3, c3, rfl, hcap, hown3, hb3⟩)))
  all_goals
    have HB3 := Lib.hid (belNext hB2 hb3)
    have HO3 := Lib.hid hown3
    clear hb3 hown3 hcap how2 hB2 hg2 ho2 ho1 hB1 HB1c HT HCL HAC HIC kg k0 k1 k2 q q0 q1 q2
    generalize hzz : fitT f n x y z = zs at *
    have HZZ := Lib.hid hzz
    clear hzz
    (try go_wp2_with fail)
    (first | go_simp | skip)
    (try go_frame)
    go_loopw [23] (fun i wr => ∃ k : Nat, k ≤ zs.length ∧ i = .int .i64 k ∧ (∀ j, j < k → sumLe f n x y z (zs.getD j 0) = true) ∧ Below w3.heap.size w3 wr) (fun i _ => zs.length - (intOf i).toNat)
    case atStart => exact ⟨0, Nat.zero_le _, rfl, fun j hj => absurd hj (by omega), Below.refl _ _⟩
    case round =>
      obtain ⟨k, hk, rfl, hall, hb⟩ := hrel
      have HAL := Lib.hid hall
      have HB7 := Lib.hid (belNext HB3.out hb)
      have HB4 := Lib.hid hb
      obtain ⟨kg, k0, k1, k2⟩ := HX.out _ HB7.out
      have hln := HLN.out
      clear hall hb
      by_cases hlt : k < zs.length
      · have hcell : wr.cell? ⟨g3, k, none⟩ = some (.int .i64 (zs.getD k 0)) := (HO3.out.later HB4.out).cell hlt
        obtain ⟨z0, z1⟩ := HBD.out k hlt
        obtain ⟨t, hz⟩ : ∃ t, zs.getD k 0 = t := ⟨_, rfl⟩
        rw [hz] at hcell z0 z1
        have HZ := Lib.hid hz
        clear hz
        have HS : Hid (∀ W, Below wr.heap.size wr W → Calls Try.prog 53 #[.slice (some ⟨g, 0, none⟩) n c, .int .i64 t] W fun e w' => e = .returned (.int .i64 (sumC f t n)) ∧ Below W.heap.size W w') := fun W hW =>
          sumAt_any g c n f t W hn HA.out z0 z1 (OwnCurveS.later HO.out (belNext (belNext (belAlloc (Below.refl _ w) _) HB7.out) hW))
        have HE := Lib.hid (fun W => curveAt_any x y z t W HC.out z0 z1)
        have HF : Hid (∀ W, Below wr.heap.size wr W → IsCrv W w.heap.size x y z) := fun W hW => HX.out W (belNext HB7.out hW)
        have hsb := sumC_bd z0 z1 HA.out
        by_cases hp : sumLe f n x y z t = true
        · have HP := Lib.hid hp
          have hd : decide (cAt x y z t < sumC f t n) = false := by have := of_decide_eq_true hp; simp; omega
          clear hp
          go_wp2_with fail
          go_region_with ((first | (go_at_call 42; refine (HE.out _).mono ?_; rintro e w4 ⟨rfl, rfl⟩) | (go_at_call 53; refine (HS.out _ (by repeat (first | exact Below.refl _ _ | assumption | refine Below.alloc ?_ (by simp; try omega) _ | refine Below.setCell ?_ (by simp; try omega) _ | refine Below.drew ?_))).mono ?_; rintro e w4 ⟨rfl, hb3⟩; have hB3 : Below wr.heap.size wr w4 := belNext (by repeat (first | exact Below.refl _ _ | assumption | refine Below.alloc ?_ (by simp; try omega) _ | refine Below.setCell ?_ (by simp; try omega) _ | refine Below.drew ?_)) hb3; obtain ⟨q, q0, q1, q2⟩ := HF.out _ hB3; clear hb3)))
          all_goals
            clear q q0 q1 q2
            go_wp2_with fail
            go_roundw
            case rel => exact ⟨k + 1, by omega, by go_num, fun j hj => by rcases Nat.lt_succ_iff_lt_or_eq.1 hj with h | rfl; exact HAL.out j h; rw [HZ.out]; exact HP.out, belNext HB4.out (by repeat (first | exact hB3 | exact Below.refl _ _ | refine belAlloc ?_ _ | refine Below.drew ?_))⟩
            case measure => simp [intOf]; omega
        · have hp' : sumLe f n x y z t = false := by simpa using hp
          have HN : Hid (allB zs (sumLe f n x y z) = false) := all_no hlt (by rw [HZ.out]; exact hp')
          have hd : decide (cAt x y z t < sumC f t n) = true := by have := of_decide_eq_false hp'; simp; omega
          clear hp hp'
          go_wp2_with fail
          go_region_with ((first | (go_at_call 42; refine (HE.out _).mono ?_; rintro e w4 ⟨rfl, rfl⟩) | (go_at_call 53; refine (HS.out _ (by repeat (first | exact Below.refl _ _ | assumption | refine Below.alloc ?_ (by simp; try omega) _ | refine Below.setCell ?_ (by simp; try omega) _ | refine Below.drew ?_))).mono ?_; rintro e w4 ⟨rfl, hb3⟩; have hB3 : Below wr.heap.size wr w4 := belNext (by repeat (first | exact Below.refl _ _ | assumption | refine Below.alloc ?_ (by simp; try omega) _ | refine Below.setCell ?_ (by simp; try omega) _ | refine Below.drew ?_)) hb3; obtain ⟨q, q0, q1, q2⟩ := HF.out _ hB3; clear hb3)))
          all_goals
            clear q q0 q1 q2
            go_wp2_with fail
            go_ret2
            exact ⟨by rw [HZZ.out, HN.out]; rfl, belNext (belNext (belAlloc (Below.refl _ w) _) HB7.out) (by repeat (first | exact hB3 | exact Below.refl _ _ | refine belAlloc ?_ _ | refine Below.drew ?_))⟩
      · have HN : Hid (allB zs (sumLe f n x y z) = true) := all_yes (fun j hj => HAL.out j (by omega))
        go_wp2_with fail
        go_ret2
        exact ⟨by rw [HZZ.out, HN.out]; rfl, belNext (belAlloc (Below.refl _ w) _) HB7.out⟩
end Go.Proofs.Ytnfkepngjbjeoaa
