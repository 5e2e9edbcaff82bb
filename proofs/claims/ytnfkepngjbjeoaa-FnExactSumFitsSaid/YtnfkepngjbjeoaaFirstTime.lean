/-
  The program's binary search firstTime over the two conditions that it is handed, and these conditions.
-/
import Derived.Test.YtnfkepngjbjeoaaCurve
import Derived.Test.YtnfkepngjbjeoaaCurveLaws
import Derived.Lib.Hide
import Derived.Deep.RegionWith
namespace Go.Proofs.Ytnfkepngjbjeoaa
open Go.RowKit
def geB (L t : Int) : Bool := decide (L ≤ t)
set_option maxHeartbeats 1000000 in
theorem firstTime_48 (c1 c2 : Value) (low high L : Int) (w : World) (h0 : 0 ≤ low) (h2 : high ≤ 100000) (hl : low ≤ L) (hL : L ≤ high)
    (hcl : ∀ (W : World) (t : Int), Below w.heap.size w W → low ≤ t → t ≤ high → Calls Try.prog 48 #[.int .i64 t, c1, c2] W fun e w' => e = .returned (.bool (geB L t)) ∧ Below W.heap.size W w') :
    Calls Try.prog 47 #[.int .i64 low, .int .i64 high, .func (.func 48) #[] #[c1, c2]] w fun e w' => e = .returned (.int .i64 L) ∧ Below w.heap.size w w' := by
  have HC := Lib.hid hcl
  clear hcl
  go_enter Try.func47, Try.ntmps47
  go_wp2_with fail
  go_loopw [0, 1] (fun a b wr => ∃ lo hi : Int, low ≤ lo ∧ lo ≤ L ∧ L ≤ hi + 1 ∧ hi ≤ high ∧ a = .int .i64 lo ∧ b = .int .i64 hi ∧ Below w.heap.size w wr) (fun a b _ => (intOf b + 1 - intOf a).toNat)
  case atStart => exact ⟨low, high, by omega, by omega, by omega, by omega, rfl, rfl, Below.refl _ _⟩
  case round =>
    obtain ⟨lo, hi, g1, g2, g3, g4, rfl, rfl, hb⟩ := hrel
    have HB := Lib.hid hb
    clear hb
    by_cases hlt : lo ≤ hi
    · have hc := HC.out wr ((lo + hi) / 2) HB.out (by omega) (by omega)
      by_cases hm : L ≤ (lo + hi) / 2
      · rw [show geB L ((lo + hi) / 2) = true from decide_eq_true hm] at hc
        have HQ := Lib.hid hc
        clear hc
        go_wp2_with fail
        refine HQ.out.mono ?_
        rintro e w1 ⟨rfl, hb1⟩
        have HB1 := Lib.hid (belNext HB.out hb1)
        clear hb1
        go_wp2_with fail
        go_roundw
        case rel => exact ⟨lo, (lo + hi) / 2 - 1, by omega, by omega, by omega, by omega, rfl, rfl, HB1.out⟩
        case measure => simp [intOf]; omega
      · rw [show geB L ((lo + hi) / 2) = false from decide_eq_false hm] at hc
        have HQ := Lib.hid hc
        clear hc
        go_wp2_with fail
        refine HQ.out.mono ?_
        rintro e w1 ⟨rfl, hb1⟩
        have HB1 := Lib.hid (belNext HB.out hb1)
        clear hb1
        go_wp2_with fail
        go_roundw
        case rel => exact ⟨(lo + hi) / 2 + 1, hi, by omega, by omega, by omega, by omega, rfl, rfl, HB1.out⟩
        case measure => simp [intOf]; omega
    · obtain rfl : lo = L := by omega
      go_wp2_with fail
      go_ret
      exact ⟨rfl, HB.out⟩
set_option maxHeartbeats 1000000 in
theorem firstTime_57 (c1 c2 : Value) (low high L : Int) (w : World) (h0 : 0 ≤ low) (h2 : high ≤ 100000) (hl : low ≤ L) (hL : L ≤ high)
    (hcl : ∀ (W : World) (t : Int), Below w.heap.size w W → low ≤ t → t ≤ high → Calls Try.prog 57 #[.int .i64 t, c1, c2] W fun e w' => e = .returned (.bool (geB L t)) ∧ Below W.heap.size W w') :
    Calls Try.prog 47 #[.int .i64 low, .int .i64 high, .func (.func 57) #[] #[c1, c2]] w fun e w' => e = .returned (.int .i64 L) ∧ Below w.heap.size w w' := by
  have HC := Lib.hid hcl
  clear hcl
  go_enter Try.func47, Try.ntmps47
  go_wp2_with fail
  go_loopw [0, 1] (fun a b wr => ∃ lo hi : Int, low ≤ lo ∧ lo ≤ L ∧ L ≤ hi + 1 ∧ hi ≤ high ∧ a = .int .i64 lo ∧ b = .int .i64 hi ∧ Below w.heap.size w wr) (fun a b _ => (intOf b + 1 - intOf a).toNat)
  case atStart => exact ⟨low, high, by omega, by omega, by omega, by omega, rfl, rfl, Below.refl _ _⟩
  case round =>
    obtain ⟨lo, hi, g1, g2, g3, g4, rfl, rfl, hb⟩ := hrel
    have HB := Lib.hid hb
    clear hb
    by_cases hlt : lo ≤ hi
    · have hc := HC.out wr ((lo + hi) / 2) HB.out (by omega) (by omega)
      by_cases hm : L ≤ (lo + hi) / 2
      · rw [show geB L ((lo + hi) / 2) = true from decide_eq_true hm] at hc
        have HQ := Lib.hid hc
        clear hc
        go_wp2_with fail
        refine HQ.out.mono ?_
        rintro e w1 ⟨rfl, hb1⟩
        have HB1 := Lib.hid (belNext HB.out hb1)
        clear hb1
        go_wp2_with fail
        go_roundw
        case rel => exact ⟨lo, (lo + hi) / 2 - 1, by omega, by omega, by omega, by omega, rfl, rfl, HB1.out⟩
        case measure => simp [intOf]; omega
      · rw [show geB L ((lo + hi) / 2) = false from decide_eq_false hm] at hc
        have HQ := Lib.hid hc
        clear hc
        go_wp2_with fail
        refine HQ.out.mono ?_
        rintro e w1 ⟨rfl, hb1⟩
        have HB1 := Lib.hid (belNext HB.out hb1)
        clear hb1
        go_wp2_with fail
        go_roundw
        case rel => exact ⟨(lo + hi) / 2 + 1, hi, by omega, by omega, by omega, by omega, rfl, rfl, HB1.out⟩
        case measure => simp [intOf]; omega
    · obtain rfl : lo = L := by omega
      go_wp2_with fail
      go_ret
      exact ⟨rfl, HB.out⟩
/-- Block g holds a curve. -/
def IsCrv (w : World) (g : Nat) (f l s : Int) : Prop := g < w.heap.size ∧ w.cell? ⟨g, 0, none⟩ = some (.int .i64 f) ∧ w.cell? ⟨g, 1, none⟩ = some (.int .i64 l) ∧ w.cell? ⟨g, 2, none⟩ = some (.int .i64 s)
theorem IsCrv.later {w w' : World} {g : Nat} {f l s : Int} (h : IsCrv w g f l s) (hb : Below w.heap.size w w') : IsCrv w' g f l s :=
  ⟨Nat.lt_of_lt_of_le h.1 hb.size, (hb.cell (p := ⟨g, 0, none⟩) h.1).trans h.2.1, (hb.cell (p := ⟨g, 1, none⟩) h.1).trans h.2.2.1, (hb.cell (p := ⟨g, 2, none⟩) h.1).trans h.2.2.2⟩
set_option maxHeartbeats 1000000 in
theorem least1_any (f l s y t : Int) (g1 g2 : Nat) (w : World) (h : crvB f l s = true) (t0 : 0 ≤ t) (t1 : t ≤ 100000) (hc : IsCrv w g1 f l s) (hg2 : g2 < w.heap.size) (hy : w.cell? ⟨g2, 0, none⟩ = some (.int .i64 y)) :
    Calls Try.prog 48 #[.int .i64 t, .pointer (some ⟨g1, 0, none⟩), .pointer (some ⟨g2, 0, none⟩)] w fun e w' => e = .returned (.bool (geB y (cAt f l s t))) ∧ Below w.heap.size w w' := by
  obtain ⟨hg1, c0, c1, c2⟩ := hc
  have H : Hid (∀ W, _) := fun W => curveAt_any f l s t W h t0 t1
  have hbd := cAt_bd h t0 t1
  clear h
  unfold geB
  go_enter Try.func48, Try.ntmps48
  go_wp2_with fail
  go_region_with ((go_at_call 42; refine (H.out _).mono ?_; rintro e w1 ⟨rfl, rfl⟩))
  all_goals
    go_wp2_with fail
    go_ret
    exact ⟨rfl, by repeat (first | exact Below.refl _ _ | assumption | refine Below.alloc ?_ (by simp; try omega) _ | refine Below.setCell ?_ (by simp; try omega) _ | refine Below.drew ?_)⟩
end Go.Proofs.Ytnfkepngjbjeoaa
