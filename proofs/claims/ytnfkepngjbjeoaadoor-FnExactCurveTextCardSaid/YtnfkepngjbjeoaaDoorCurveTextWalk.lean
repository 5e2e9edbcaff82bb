/-
  CurveText, the program's and the reference's; the walk of FnExactCurveText.
-/
import Derived.Test.YtnfkepngjbjeoaaDoorCurveTxt
namespace Go.Proofs.YtnfkepngjbjeoaaDoor
open Go.RowKit
set_option maxHeartbeats 1000000 in
theorem implCurveText_no (f l s : Int) (w : World) (h : crvB f l s = false) :
    Calls Tryd.prog 7 #[.agg #[.int .i64 f, .int .i64 l, .int .i64 s]] w fun e w' => e = .returned (.tuple #[.string ⟨#[]⟩, .bool false]) ∧ Below w.heap.size w w' := by
  have HG : Hid (∀ W, _) := fun W => isCurve_any f l s W
  rw [h] at HG
  clear h
  go_enter Tryd.func7, Tryd.ntmps7
  go_wp2_with fail
  refine (HG.out _).mono ?_
  rintro e w1 ⟨rfl, rfl⟩
  go_wp2_with fail
  go_ret2
  exact ⟨rfl, by (repeat refine belAlloc ?_ _); exact Below.refl _ _⟩
set_option maxHeartbeats 1000000 in
theorem specCurveText_no (f l s : Int) (w : World) (h : crvB f l s = false) :
    Calls Tryd.prog 5 #[.agg #[.int .i64 f, .int .i64 l, .int .i64 s]] w fun e w' => e = .returned (.tuple #[.string ⟨#[]⟩, .bool false]) ∧ Below w.heap.size w w' := by
  have HG : Hid (∀ W, _) := fun W => cuGood_any f l s W
  rw [h] at HG
  clear h
  go_enter Tryd.func5, Tryd.ntmps5
  go_wp2_with fail
  refine (HG.out _).mono ?_
  rintro e w1 ⟨rfl, rfl⟩
  go_wp2_with fail
  go_ret2
  exact ⟨rfl, by (repeat refine belAlloc ?_ _); exact Below.refl _ _⟩
set_option maxHeartbeats 1000000 in
theorem implCurveText_yes (f l s : Nat) (w : World) (h : crvB f l s = true) (hf : f ≤ 1000000000) (hl : l ≤ 1000000000) (hs : s ≤ 1000000000) (hT : Pow10 w) :
    Calls Tryd.prog 7 #[.agg #[.int .i64 f, .int .i64 l, .int .i64 s]] w fun e w' => e = .returned (.tuple #[.string (ctxt f l s), .bool true]) ∧ Below w.heap.size w w' := by
  have HG : Hid (∀ W, _) := fun W => isCurve_any f l s W
  rw [h] at HG
  have HC := Lib.hid (fun W => implcurveText_ct f l s W hf hl hs)
  have HT : Hid (∀ W, Below w.heap.size w W → Pow10 W) := fun W hW => hT.later hW
  clear h hT
  go_enter Tryd.func7, Tryd.ntmps7
  go_wp2_with fail
  refine (HG.out _).mono ?_
  rintro e w1 ⟨rfl, rfl⟩
  go_wp2_with fail
  refine (HC.out _ (HT.out _ (by (repeat refine belAlloc ?_ _); exact Below.refl _ _))).mono ?_
  rintro e w1 ⟨rfl, hb1⟩
  have HB := Lib.hid (belNext (w := w) (by (repeat refine belAlloc ?_ _); exact Below.refl _ _) hb1)
  clear hb1
  go_wp2_with fail
  go_ret2
  exact ⟨rfl, HB.out⟩
set_option maxHeartbeats 1000000 in
theorem specCurveText_yes (f l s : Nat) (w : World) (h : crvB f l s = true) (hf : f ≤ 1000000000) (hl : l ≤ 1000000000) (hs : s ≤ 1000000000) (hT : Pow10 w) :
    Calls Tryd.prog 5 #[.agg #[.int .i64 f, .int .i64 l, .int .i64 s]] w fun e w' => e = .returned (.tuple #[.string (ctxt f l s), .bool true]) ∧ Below w.heap.size w w' := by
  have HG : Hid (∀ W, _) := fun W => cuGood_any f l s W
  rw [h] at HG
  have HC := Lib.hid (fun W => speccuText_ct f l s W hf hl hs)
  have HT : Hid (∀ W, Below w.heap.size w W → Pow10 W) := fun W hW => hT.later hW
  clear h hT
  go_enter Tryd.func5, Tryd.ntmps5
  go_wp2_with fail
  refine (HG.out _).mono ?_
  rintro e w1 ⟨rfl, rfl⟩
  go_wp2_with fail
  refine (HC.out _ (HT.out _ (by (repeat refine belAlloc ?_ _); exact Below.refl _ _))).mono ?_
  rintro e w1 ⟨rfl, hb1⟩
  have HB := Lib.hid (belNext (w := w) (by (repeat refine belAlloc ?_ _); exact Below.refl _ _) hb1)
  clear hb1
  go_wp2_with fail
  go_ret2
  exact ⟨rfl, HB.out⟩
set_option maxHeartbeats 1000000 in
theorem fnExactCurveText_walk (f : Int) (_ : -9223372036854775808 ≤ f) (_ : f ≤ 9223372036854775807) (l : Int) (_ : -9223372036854775808 ≤ l) (_ : l ≤ 9223372036854775807) (s : Int) (_ : -9223372036854775808 ≤ s) (_ : s ≤ 9223372036854775807) (w : World) (hL : laidMetH Tryd.prog Rows.fnExactCurveTextRow.laid w) :
    Calls Tryd.prog 3 #[.agg #[.int .i64 f, .int .i64 l, .int .i64 s]] w fun e w' => e = .returned (.bool true) ∧ Below w.heap.size w w' := by
  have HP := Lib.hid (pow10_of hL (by simp [Rows.fnExactCurveTextRow]))
  clear hL
  have HT := Lib.hid (fun W => toCurve_bel f l s W)
  have main : ∀ (v : ByteArray) (b : Bool), (∀ W, Pow10 W → Calls Tryd.prog 5 #[.agg #[.int .i64 f, .int .i64 l, .int .i64 s]] W fun e w' => e = .returned (.tuple #[.string v, .bool b]) ∧ Below W.heap.size W w') →
      (∀ W, Pow10 W → Calls Tryd.prog 7 #[.agg #[.int .i64 f, .int .i64 l, .int .i64 s]] W fun e w' => e = .returned (.tuple #[.string v, .bool b]) ∧ Below W.heap.size W w') →
      Calls Tryd.prog 3 #[.agg #[.int .i64 f, .int .i64 l, .int .i64 s]] w fun e w' => e = .returned (.bool true) ∧ Below w.heap.size w w' := by
    intro v b hS hI
    have HS := Lib.hid hS
    have HI := Lib.hid hI
    have HC : Hid (∀ w1 : World, Below (w.alloc (.cells #[.int .i64 f, .int .i64 l, .int .i64 s] 23)).heap.size (w.alloc (.cells #[.int .i64 f, .int .i64 l, .int .i64 s] 23)) w1 → IsCrv w1 w.heap.size f l s ∧ Pow10 w1) := fun w1 hb =>
      ⟨IsCrv.later ⟨by simp, by simp [go_sem], by simp [go_sem], by simp [go_sem]⟩ hb, HP.out.later (belNext (belAlloc (Below.refl _ w) _) hb)⟩
    clear hS hI
    go_enter Tryd.func3, Tryd.ntmps3
    go_wp2_with fail
    refine (HT.out _).mono ?_
    rintro e w1 ⟨rfl, hb1⟩
    have B1 := Lib.hid hb1
    clear hb1
    go_wp2_with fail
    refine (HS.out _ (HC.out _ B1.out).2).mono ?_
    rintro e w2 ⟨rfl, hb2⟩
    have B2 := Lib.hid (belNext B1.out hb2)
    obtain ⟨⟨k0, k1, k2, k3⟩, _⟩ := HC.out _ B2.out
    clear hb2
    go_wp2_with fail
    refine (HT.out _).mono ?_
    rintro e w3 ⟨rfl, hb3⟩
    have B3 := Lib.hid (belNext B2.out hb3)
    clear hb3
    go_wp2_with fail
    refine (HI.out _ (HC.out _ B3.out).2).mono ?_
    rintro e w4 ⟨rfl, hb4⟩
    have B4 := Lib.hid (belNext (belAlloc (Below.refl _ w) _) (belNext B3.out hb4))
    clear hb4
    go_wp2_with fail
    go_ret
    exact ⟨rfl, B4.out⟩
  by_cases h : crvB f l s = true
  · obtain ⟨⟨f0, f1⟩, ⟨l0, l1⟩, s0, s1⟩ := crvB_iff.1 h
    obtain ⟨f, rfl⟩ : ∃ n : Nat, f = n := ⟨f.toNat, by omega⟩
    obtain ⟨l, rfl⟩ : ∃ n : Nat, l = n := ⟨l.toNat, by omega⟩
    obtain ⟨s, rfl⟩ : ∃ n : Nat, s = n := ⟨s.toNat, by omega⟩
    exact main (ctxt f l s) true (fun W hW => specCurveText_yes f l s W h (by omega) (by omega) (by omega) hW) (fun W hW => implCurveText_yes f l s W h (by omega) (by omega) (by omega) hW)
  · have h' : crvB f l s = false := by simpa using h
    exact main ⟨#[]⟩ false (fun W _ => specCurveText_no f l s W h') (fun W _ => implCurveText_no f l s W h')
end Go.Proofs.YtnfkepngjbjeoaaDoor
