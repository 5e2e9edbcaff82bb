/-
  SumFits, the program's and the reference's; the walk of FnExactSumFits.
-/
import Derived.Test.YtnfkepngjbjeoaaSumFits2
import Derived.Deep.RegionHeld3
namespace Go.Proofs.Ytnfkepngjbjeoaa
open Go.RowKit
set_option maxHeartbeats 1000000 in
theorem implSumFits_no (g c n : Nat) (f : Nat → Nat → Int) (x y z : Int) (w : World) (hn1 : n ≤ 1048576) (hown : OwnCurveS w g n f) (h : crvsB f n = false ∨ (crvsB f n = true ∧ crvB x y z = false)) :
    Calls Try.prog 37 #[.slice (some ⟨g, 0, none⟩) n c, .agg #[.int .i64 x, .int .i64 y, .int .i64 z]] w fun e w' => e = .returned (.tuple #[.bool false, .bool false]) ∧ Below w.heap.size w w' := by
  have HL := Lib.hid (fun W hW => areCurves_any g c n f W hn1 hW)
  have HG : Hid (∀ W, _) := fun W => isCurve_any x y z W
  have HO := Lib.hid hown
  have HX : Hid (∀ W : World, Below (w.alloc (.cells #[.int .i64 x, .int .i64 y, .int .i64 z] 25)).heap.size (w.alloc (.cells #[.int .i64 x, .int .i64 y, .int .i64 z] 25)) W → IsCrv W w.heap.size x y z) := fun W hb =>
    IsCrv.later ⟨by simp, by simp [go_sem], by simp [go_sem], by simp [go_sem]⟩ hb
  clear hown
  rcases h with h | ⟨h, h'⟩
  · rw [h] at HL
    clear h
    go_enter Try.func37, Try.ntmps37
    go_wp2_with fail
    refine (HL.out _ (OwnCurveS.later HO.out (by (repeat refine belAlloc ?_ _); exact Below.refl _ _))).mono ?_
    rintro e w1 ⟨rfl, hb1⟩
    have HB := Lib.hid (belNext (belAlloc (Below.refl _ w) _) hb1)
    clear hb1
    go_wp2_with fail
    go_ret2
    exact ⟨rfl, HB.out⟩
  · rw [h] at HL
    rw [h'] at HG
    clear h h'
    go_enter Try.func37, Try.ntmps37
    go_wp2_with fail
    refine (HL.out _ (OwnCurveS.later HO.out (by (repeat refine belAlloc ?_ _); exact Below.refl _ _))).mono ?_
    rintro e w1 ⟨rfl, hb1⟩
    have HB := Lib.hid (belNext (belAlloc (Below.refl _ w) _) hb1)
    obtain ⟨kg, k0, k1, k2⟩ := HX.out _ hb1
    clear hb1
    go_wp2_with fail
    refine (HG.out _).mono ?_
    rintro e w2 ⟨rfl, rfl⟩
    go_wp2_with fail
    go_ret2
    exact ⟨rfl, belAlloc HB.out _⟩
set_option maxHeartbeats 1000000 in
theorem specSumFits_no (g c n : Nat) (f : Nat → Nat → Int) (x y z : Int) (w : World) (hn1 : n ≤ 1048576) (hown : OwnCurveS w g n f) (h : crvsB f n = false ∨ (crvsB f n = true ∧ crvB x y z = false)) :
    Calls Try.prog 36 #[.slice (some ⟨g, 0, none⟩) n c, .agg #[.int .i64 x, .int .i64 y, .int .i64 z]] w fun e w' => e = .returned (.tuple #[.bool false, .bool false]) ∧ Below w.heap.size w w' := by
  have HL := Lib.hid (fun W hW => cuList_any g c n f W hn1 hW)
  have HG : Hid (∀ W, _) := fun W => cuGood_any x y z W
  have HO := Lib.hid hown
  have HX : Hid (∀ W : World, Below (w.alloc (.cells #[.int .i64 x, .int .i64 y, .int .i64 z] 25)).heap.size (w.alloc (.cells #[.int .i64 x, .int .i64 y, .int .i64 z] 25)) W → IsCrv W w.heap.size x y z) := fun W hb =>
    IsCrv.later ⟨by simp, by simp [go_sem], by simp [go_sem], by simp [go_sem]⟩ hb
  clear hown
  rcases h with h | ⟨h, h'⟩
  · rw [h] at HL
    clear h
    go_enter Try.func36, Try.ntmps36
    go_wp2_with fail
    refine (HL.out _ (OwnCurveS.later HO.out (by (repeat refine belAlloc ?_ _); exact Below.refl _ _))).mono ?_
    rintro e w1 ⟨rfl, hb1⟩
    have HB := Lib.hid (belNext (belAlloc (Below.refl _ w) _) hb1)
    clear hb1
    go_wp2_with fail
    go_ret2
    exact ⟨rfl, HB.out⟩
  · rw [h] at HL
    rw [h'] at HG
    clear h h'
    go_enter Try.func36, Try.ntmps36
    go_wp2_with fail
    refine (HL.out _ (OwnCurveS.later HO.out (by (repeat refine belAlloc ?_ _); exact Below.refl _ _))).mono ?_
    rintro e w1 ⟨rfl, hb1⟩
    have HB := Lib.hid (belNext (belAlloc (Below.refl _ w) _) hb1)
    obtain ⟨kg, k0, k1, k2⟩ := HX.out _ hb1
    clear hb1
    go_wp2_with fail
    refine (HG.out _).mono ?_
    rintro e w2 ⟨rfl, rfl⟩
    go_wp2_with fail
    go_ret2
    exact ⟨rfl, belAlloc HB.out _⟩
set_option maxHeartbeats 1000000 in
theorem specSumFits_yes (g c n : Nat) (f : Nat → Nat → Int) (x y z : Int) (w : World) (hl : crvsB f n = true) (hc : crvB x y z = true) (hn1 : n ≤ 1048576) (hown : OwnCurveS w g n f) :
    Calls Try.prog 36 #[.slice (some ⟨g, 0, none⟩) n c, .agg #[.int .i64 x, .int .i64 y, .int .i64 z]] w fun e w' => e = .returned (.tuple #[.bool (allB (fitT f n x y z) (sumLe f n x y z)), .bool true]) ∧ Below w.heap.size w w' := by
  obtain ⟨hn, hall⟩ := crvsB_at hl
  have HL := Lib.hid (fun W hW => cuList_any g c n f W hn1 hW)
  have HG : Hid (∀ W, _) := fun W => cuGood_any x y z W
  have HF := Lib.hid (fun W hW => cuFits_any g c n f x y z W hn hall hc hW)
  have HO := Lib.hid hown
  have HX : Hid (∀ W : World, Below (w.alloc (.cells #[.int .i64 x, .int .i64 y, .int .i64 z] 25)).heap.size (w.alloc (.cells #[.int .i64 x, .int .i64 y, .int .i64 z] 25)) W → IsCrv W w.heap.size x y z) := fun W hb =>
    IsCrv.later ⟨by simp, by simp [go_sem], by simp [go_sem], by simp [go_sem]⟩ hb
  rw [hl] at HL
  rw [hc] at HG
  clear hown hall hc hl
  generalize allB (fitT f n x y z) (sumLe f n x y z) = b at *
  go_enter Try.func36, Try.ntmps36
  go_wp2_with fail
  refine (HL.out _ (OwnCurveS.later HO.out (by (repeat refine belAlloc ?_ _); exact Below.refl _ _))).mono ?_
  rintro e w1 ⟨rfl, hb1⟩
  have HB := Lib.hid (belNext (belAlloc (Below.refl _ w) _) hb1)
  obtain ⟨kg, k0, k1, k2⟩ := HX.out _ hb1
  clear hb1
  go_wp2_with fail
  refine (HG.out _).mono ?_
  rintro e w2 ⟨rfl, rfl⟩
  go_wp2_with fail
  refine (HF.out _ (OwnCurveS.later HO.out (belAlloc HB.out _))).mono ?_
  rintro e w3 ⟨rfl, hb3⟩
  have HB3 := Lib.hid (belNext (belAlloc HB.out _) hb3)
  clear hb3
  go_wp2_with fail
  go_ret2
  exact ⟨rfl, HB3.out⟩
set_option maxHeartbeats 4000000 in
theorem fnExactSumFits_walk (w : World) (A : Option Addr) (n c : Nat) (f : Nat → Nat → Int) (hn : n ≤ maxLen) (_hf : ∀ i j, -9223372036854775808 ≤ f i j ∧ f i j ≤ 9223372036854775807) (hr : Seg w w.heap.size 3 A n fun i j => .int .i64 (f i j))
    (x : Int) (_ : -9223372036854775808 ≤ x) (_ : x ≤ 9223372036854775807) (y : Int) (_ : -9223372036854775808 ≤ y) (_ : y ≤ 9223372036854775807) (z : Int) (_ : -9223372036854775808 ≤ z) (_ : z ≤ 9223372036854775807) :
    Calls Try.prog 12 #[.slice A n c, .agg #[.int .i64 x, .int .i64 y, .int .i64 z]] w fun e w' => e = .returned (.bool true) ∧ Below w.heap.size w w' := by
  unfold maxLen at hn
  have HR := Lib.hid hr
  clear hr _hf
  by_cases hbig : 1048576 < (n : Int)
  · go_enter Try.func12, Try.ntmps12
    go_wp2_with (go_at_call 25; refine (szCurveS_big _ _ _ _ (by omega) (by omega)).mono ?_; rintro e w0 ⟨rfl, rfl⟩)
    go_ret
    exact ⟨rfl, belAlloc (Below.refl _ w) _⟩
  have HX : Hid (∀ W : World, Below (w.alloc (.cells #[.int .i64 x, .int .i64 y, .int .i64 z] 23)).heap.size (w.alloc (.cells #[.int .i64 x, .int .i64 y, .int .i64 z] 23)) W → IsCrv W w.heap.size x y z) := fun W hb =>
    IsCrv.later ⟨by simp, by simp [go_sem], by simp [go_sem], by simp [go_sem]⟩ hb
  have HTS : Hid (∀ W, Below w.heap.size w W → Calls Try.prog 27 #[.slice A n c] W fun e w' => e = .returned (.slice (some ⟨W.heap.size, 0, none⟩) n n) ∧ OwnCurveS w' W.heap.size n f ∧ Below W.heap.size W w') := fun W hW => toCurveS_any A n c f W (by omega) ((HR.out.below hW).more hW.size)
  have HT := Lib.hid (fun W => toCurve_any x y z W)
  have HTB := Lib.hid (fun W => toCurve_bel x y z W)
  have main : ∀ (v b : Bool), (∀ W g, OwnCurveS W g n f → Calls Try.prog 36 #[.slice (some ⟨g, 0, none⟩) n n, .agg #[.int .i64 x, .int .i64 y, .int .i64 z]] W fun e w' => e = .returned (.tuple #[.bool v, .bool b]) ∧ Below W.heap.size W w') →
      (∀ W g, OwnCurveS W g n f → Calls Try.prog 37 #[.slice (some ⟨g, 0, none⟩) n n, .agg #[.int .i64 x, .int .i64 y, .int .i64 z]] W fun e w' => e = .returned (.tuple #[.bool v, .bool b]) ∧ Below W.heap.size W w') →
      Calls Try.prog 12 #[.slice A n c, .agg #[.int .i64 x, .int .i64 y, .int .i64 z]] w fun e w' => e = .returned (.bool true) ∧ Below w.heap.size w w' := by
    intro v b hS hI
    have HS := Lib.hid hS
    have HI := Lib.hid hI
    clear hS hI
    go_enter Try.func12, Try.ntmps12
    go_wp2_with (go_at_call 25; refine (szCurveS_small _ _ _ _ (by omega)).mono ?_; rintro e w0 ⟨rfl, rfl⟩)
    first | (go_region_held3 (fun W => W.cell? ⟨w.heap.size, 0, none⟩ = some (.int .i64 x) ∧ W.cell? ⟨w.heap.size, 1, none⟩ = some (.int .i64 y) ∧ W.cell? ⟨w.heap.size, 2, none⟩ = some (.int .i64 z)) (first | go_keep | assumption) (first | (go_at_call 27; (with_reducible refine (HTS.out _ (by repeat (first | (with_reducible exact Below.refl _ _) | (with_reducible refine Below.drew ?_) | (with_reducible refine belAlloc ?_ _)))).mono ?_); rintro e w1 ⟨rfl, ho1, hb1⟩; have ho1 : OwnCurveS w1 (w.heap.size + 1) n f := (by simpa using ho1); have hB1 := belNext (show Below (w.alloc (.cells #[.int .i64 x, .int .i64 y, .int .i64 z] 23)).heap.size (w.alloc (.cells #[.int .i64 x, .int .i64 y, .int .i64 z] 23)) _ by repeat (first | (with_reducible exact Below.refl _ _) | (with_reducible refine Below.drew ?_))) hb1; obtain ⟨kg, k0, k1, k2⟩ := HX.out _ hB1; clear hb1) | (go_at_call 14; (with_reducible refine (HTB.out _).mono ?_); rintro e w2 ⟨rfl, hb2⟩; have hB2 := belNext (show Below (w.alloc (.cells #[.int .i64 x, .int .i64 y, .int .i64 z] 23)).heap.size (w.alloc (.cells #[.int .i64 x, .int .i64 y, .int .i64 z] 23)) _ by repeat (first | (with_reducible exact hB1) | (with_reducible refine Below.drew ?_))) hb2; have ho2 := OwnCurveS.later ho1 (show Below w1.heap.size w1 w2 from belNext (by repeat (first | (with_reducible exact Below.refl _ _) | (with_reducible refine Below.drew ?_))) hb2); obtain ⟨kg, k0, k1, k2⟩ := HX.out _ hB2; clear hb2) | (go_at_call 36; (with_reducible refine (HS.out _ _ ho2).mono ?_); rintro e w3 ⟨rfl, hb3⟩; have hB3 := belNext (show Below (w.alloc (.cells #[.int .i64 x, .int .i64 y, .int .i64 z] 23)).heap.size (w.alloc (.cells #[.int .i64 x, .int .i64 y, .int .i64 z] 23)) _ by repeat (first | (with_reducible exact hB2) | (with_reducible refine Below.drew ?_))) hb3; obtain ⟨kg, k0, k1, k2⟩ := HX.out _ hB3; clear hb3))) | fail
    all_goals
      have HB3 := Lib.hid hB3
      clear hB3 hB2 hB1 ho1 ho2 kg k0 k1 k2
      go_wp2_with fail
      refine (HTS.out _ (belNext (belAlloc (Below.refl _ w) _) HB3.out)).mono ?_
      rintro e w4 ⟨rfl, ho4, hb4⟩
      have HO4 := Lib.hid ho4
      have HB4 := Lib.hid (belNext HB3.out hb4)
      obtain ⟨kg, k0, k1, k2⟩ := HX.out _ HB4.out
      clear ho4 hb4
      go_wp2_with fail
      refine (HT.out _).mono ?_
      rintro e w5 ⟨rfl, rfl⟩
      go_wp2_with fail
      refine (HI.out _ _ (OwnCurveS.later HO4.out (by (repeat refine belAlloc ?_ _); exact Below.refl _ _))).mono ?_
      rintro e w6 ⟨rfl, hb6⟩
      have hB6 : Below w4.heap.size w4 w6 := belNext (by (repeat refine belAlloc ?_ _); exact Below.refl _ _) hb6
      have HO6 := Lib.hid (OwnCurveS.later HO4.out hB6)
      have HB6 := Lib.hid (belNext HB4.out hB6)
      clear hb6 hB6 kg k0 k1 k2
      go_wp2_with fail
      refine (HTS.out _ (belNext (belAlloc (Below.refl _ w) _) HB6.out)).mono ?_
      rintro e w7 ⟨rfl, ho7, hb7⟩
      have HO7 := Lib.hid ho7
      have HO8 := Lib.hid (OwnCurveS.later HO6.out hb7)
      have HB7 := Lib.hid (belNext HB6.out hb7)
      clear ho7 hb7
      go_wp2_with fail
      refine (eqCurveS_any _ _ _ _ n f _ _ _ (by omega) HO8.out.row HO7.out.row).mono ?_
      rintro e w8 ⟨rfl, hb8⟩
      have HB8 := Lib.hid (belNext (belAlloc (Below.refl _ w) _) (belNext HB7.out hb8))
      clear hb8
      go_wp2_with fail
      go_ret
      exact ⟨rfl, HB8.out⟩
  by_cases h : crvsB f n = true
  · by_cases h' : crvB x y z = true
    · exact main _ true (fun W g ho => specSumFits_yes g n n f x y z W h h' (by omega) ho) (fun W g ho => implSumFits_yes g n n f x y z W h h' (by omega) ho)
    · have h2 : crvB x y z = false := by simpa using h'
      exact main false false (fun W g ho => specSumFits_no g n n f x y z W (by omega) ho (.inr ⟨h, h2⟩)) (fun W g ho => implSumFits_no g n n f x y z W (by omega) ho (.inr ⟨h, h2⟩))
  · have h2 : crvsB f n = false := by simpa using h
    exact main false false (fun W g ho => specSumFits_no g n n f x y z W (by omega) ho (.inl h2)) (fun W g ho => implSumFits_no g n n f x y z W (by omega) ho (.inl h2))
end Go.Proofs.Ytnfkepngjbjeoaa
