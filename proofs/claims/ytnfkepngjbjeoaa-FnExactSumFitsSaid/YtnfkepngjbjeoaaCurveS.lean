/-
  The law files' helpers on slices of Curve, each walked once: the copy (toCurveS), the comparison of equal rows (eqCurveS), the marking (markCurveS).
-/
import Derived.Test.YtnfkepngjbjeoaaCurveBel
import Derived.Test.YtnfkepngjbjeoaaBase
import Derived.Lib.Hide
import Derived.Deep.OwnRows
import Derived.Deep.RegionWith
namespace Go.Proofs.Ytnfkepngjbjeoaa
open Go.RowKit
/-- The cells of a row of Curve, one after the other. -/
def flatCurveS (f : Nat → Nat → Int) (m : Nat) : Value := .int .i64 (f (m / 3) (m % 3))
/-- Block g holds a row of Curve. -/
def OwnCurveS (w : World) (g n : Nat) (f : Nat → Nat → Int) : Prop := Own w g (n * 3) (flatCurveS f)
theorem OwnCurveS.later {w w' : World} {g n : Nat} {f : Nat → Nat → Int} (h : OwnCurveS w g n f) (hb : Below w.heap.size w w') : OwnCurveS w' g n f := Own.later h hb
theorem OwnCurveS.row {w : World} {g n : Nat} {f : Nat → Nat → Int} (h : OwnCurveS w g n f) : Row w w.heap.size (some ⟨g, 0, none⟩) (n * 3) (flatCurveS f) := Own.row h
theorem OwnCurveS.at_ {w : World} {g n : Nat} {f : Nat → Nat → Int} (h : OwnCurveS w g n f) {i : Nat} (hi : i < n) : w.cell? ⟨g, i * 3, none⟩ = some (.int .i64 (f i 0)) ∧ w.cell? ⟨g, i * 3 + 1, none⟩ = some (.int .i64 (f i 1)) ∧ w.cell? ⟨g, i * 3 + 2, none⟩ = some (.int .i64 (f i 2)) :=
  ⟨(Own.cell h (show i * 3 < n * 3 by omega)).trans (by rw [flatCurveS, show (i * 3) / 3 = i by omega, show (i * 3) % 3 = 0 by omega]), (Own.cell h (show i * 3 + 1 < n * 3 by omega)).trans (by rw [flatCurveS, show (i * 3 + 1) / 3 = i by omega, show (i * 3 + 1) % 3 = 1 by omega]), (Own.cell h (show i * 3 + 2 < n * 3 by omega)).trans (by rw [flatCurveS, show (i * 3 + 2) / 3 = i by omega, show (i * 3 + 2) % 3 = 2 by omega])⟩
theorem infoCurveS : (Try.prog.info? 25).map (fun i => (i.zero, i.size, i.bytes)) = some (some (.agg #[.int .i64 0, .int .i64 0, .int .i64 0]), 3, 24) := by kernel_rfl
theorem run_make_CurveS (n : Nat) (hn : n ≤ 1048576) (W : World) : (Instr.makeSlice 38 (.int .i64 n) (.int .i64 n)).run Try.prog W = .ok (.slice (some ⟨W.heap.size, 0, none⟩) n n) (W.alloc (.cells (madeCells #[.int .i64 0, .int .i64 0, .int .i64 0] (n * 3)) 25)) := by
  obtain ⟨i, hi, hz, hs, hby⟩ := info_parts infoCurveS
  have hr := run_make (P := Try.prog) W 38 25 i _ Try.underlying38 hi hz .i64 .i64 n n (by omega) (by omega) (by rw [hby]; omega) (by omega)
  rw [hs] at hr
  exact hr
def filledCurveS (f : Nat → Nat → Int) (k : Nat) (m : Nat) : Value := if m < k * 3 then flatCurveS f m else .int .i64 0
theorem madeCurveS (w : World) (n : Nat) (f : Nat → Nat → Int) : Own (w.alloc (.cells (madeCells #[.int .i64 0, .int .i64 0, .int .i64 0] (n * 3)) 25)) w.heap.size (n * 3) (filledCurveS f 0) :=
  ⟨by simp, fun i hi => ⟨(World.cell?_alloc_at (hn := rfl) ..).trans (by
    have h2 : i % 3 < 3 := Nat.mod_lt _ (by omega)
    rw [filledCurveS, if_neg (by omega), madeCells, Array.getElem?_map, Array.getElem?_range]
    simp only [hi, if_true, Option.map_some]
    match i % 3, h2 with
    | 0, _ => simp
    | 1, _ => simp
    | 2, _ => simp), World.frozen?_alloc_at (hn := rfl) ..⟩⟩
theorem filledCurveS_all (f : Nat → Nat → Int) (n m : Nat) (h : m < n * 3) : filledCurveS f n m = flatCurveS f m := by rw [filledCurveS, if_pos h]
theorem filledCurveS_step (f : Nat → Nat → Int) (k m : Nat) : (if m = k * 3 + 2 then Value.int .i64 (f k 2) else (if m = k * 3 + 1 then Value.int .i64 (f k 1) else (if m = k * 3 then Value.int .i64 (f k 0) else filledCurveS f k m))) = filledCurveS f (k + 1) m := by
  by_cases h2 : m = k * 3 + 2
  · subst h2; rw [if_pos rfl, filledCurveS, if_pos (by omega), flatCurveS, show (k * 3 + 2) / 3 = k by omega, show (k * 3 + 2) % 3 = 2 by omega]
  rw [if_neg h2]
  by_cases h1 : m = k * 3 + 1
  · subst h1; rw [if_pos rfl, filledCurveS, if_pos (by omega), flatCurveS, show (k * 3 + 1) / 3 = k by omega, show (k * 3 + 1) % 3 = 1 by omega]
  rw [if_neg h1]
  by_cases h0 : m = k * 3
  · subst h0; rw [if_pos rfl, filledCurveS, if_pos (by omega), flatCurveS, show (k * 3) / 3 = k by omega, show (k * 3) % 3 = 0 by omega]
  rw [if_neg h0]
  unfold filledCurveS
  by_cases h : m < k * 3
  · rw [if_pos h, if_pos (by omega)]
  · rw [if_neg h, if_neg (by omega)]
set_option maxHeartbeats 1000000 in
theorem toCurveS_some (b o n c : Nat) (f : Nat → Nat → Int) (w : World) (hn : n ≤ 1048576) (hcells : ∀ i, i < n → b < w.heap.size ∧ w.cell? ⟨b, o + i * 3, none⟩ = some (.int .i64 (f i 0)) ∧ w.cell? ⟨b, o + i * 3 + 1, none⟩ = some (.int .i64 (f i 1)) ∧ w.cell? ⟨b, o + i * 3 + 2, none⟩ = some (.int .i64 (f i 2))) :
    Calls Try.prog 27 #[.slice (some ⟨b, o, none⟩) n c] w fun e w' => e = .returned (.slice (some ⟨w.heap.size, 0, none⟩) n n) ∧ OwnCurveS w' w.heap.size n f ∧ Below w.heap.size w w' := by
  have hmk := run_make_CurveS n (by omega)
  have H := Lib.hid hcells
  clear hcells
  go_enter Try.func27, Try.ntmps27
  go_wp2
  go_loopw [4] (fun i wr => ∃ k : Nat, k ≤ n ∧ i = .int .i64 k ∧ Own wr w.heap.size (n * 3) (filledCurveS f k) ∧ Below w.heap.size w wr) (fun i _ => n - (intOf i).toNat)
  case atStart => exact ⟨0, Nat.zero_le _, rfl, madeCurveS w n f, (Below.refl _ _).alloc (Nat.le_refl _) _⟩
  case round =>
    obtain ⟨k, hk, rfl, hrow, hb⟩ := hrel
    by_cases hlt : k < n
    · obtain ⟨hbl, hx0, hx1, hx2⟩ := H.out k hlt
      have hw0 : wr.cell? ⟨b, o + k * 3, none⟩ = some (.int .i64 (f k 0)) := (hb.cell hbl).trans hx0
      have hw1 : wr.cell? ⟨b, o + k * 3 + 1, none⟩ = some (.int .i64 (f k 1)) := (hb.cell hbl).trans hx1
      have hw2 : wr.cell? ⟨b, o + k * 3 + 2, none⟩ = some (.int .i64 (f k 2)) := (hb.cell hbl).trans hx2
      have HR := Lib.hid hrow
      have HB := Lib.hid hb
      have hsz : w.heap.size < wr.heap.size := hrow.1
      clear hrow hb hmk hx0 hx1 hx2
      have HT : Hid (∀ W, _) := fun W => toCurve_bel (f k 0) (f k 1) (f k 2) W
      go_wp2_with fail
      refine (HT.out _).mono ?_
      rintro e w1 ⟨rfl, hb1⟩
      have HR1 := Lib.hid (HR.out.later hb1)
      have HB1 := Lib.hid (HB.out.trans (hb1.mono HB.out.size))
      have hy0 : w1.cell? ⟨w.heap.size, k * 3, none⟩ = some (filledCurveS f k (k * 3)) := HR1.out.cell (by omega)
      have hyf0 : w1.frozen? ⟨w.heap.size, k * 3, none⟩ = false := HR1.out.frozen (by omega)
      have hy1 : w1.cell? ⟨w.heap.size, k * 3 + 1, none⟩ = some (filledCurveS f k (k * 3 + 1)) := HR1.out.cell (by omega)
      have hyf1 : w1.frozen? ⟨w.heap.size, k * 3 + 1, none⟩ = false := HR1.out.frozen (by omega)
      have hy2 : w1.cell? ⟨w.heap.size, k * 3 + 2, none⟩ = some (filledCurveS f k (k * 3 + 2)) := HR1.out.cell (by omega)
      have hyf2 : w1.frozen? ⟨w.heap.size, k * 3 + 2, none⟩ = false := HR1.out.frozen (by omega)
      clear hb1 
      go_wp2_with fail
      go_roundw
      case rel => exact ⟨k + 1, by omega, by go_num, ((((HR1.out.set (show k * 3 < n * 3 by omega) (.int .i64 (f k 0))).set (show k * 3 + 1 < n * 3 by omega) (.int .i64 (f k 1))).set (show k * 3 + 2 < n * 3 by omega) (.int .i64 (f k 2)))).congr fun m _ => filledCurveS_step f k m, (((HB1.out.setCell (Nat.le_refl _) _).setCell (Nat.le_refl _) _).setCell (Nat.le_refl _) _)⟩
      case measure => simp [intOf]; omega
    · have HR := Lib.hid hrow
      have HB := Lib.hid hb
      clear hrow hb hmk
      go_wp2
      go_ret
      have hkn : k = n := by omega
      subst hkn
      exact ⟨rfl, HR.out.congr fun m hm => filledCurveS_all f _ m hm, HB.out⟩
theorem toCurveS_any (A : Option Addr) (n c : Nat) (f : Nat → Nat → Int) (w : World) (hn : n ≤ 1048576) (hr : Seg w w.heap.size 3 A n fun i j => .int .i64 (f i j)) :
    Calls Try.prog 27 #[.slice A n c] w fun e w' => e = .returned (.slice (some ⟨w.heap.size, 0, none⟩) n n) ∧ OwnCurveS w' w.heap.size n f ∧ Below w.heap.size w w' := by
  rcases Nat.eq_zero_or_pos n with rfl | h0
  · have hmk := run_make_CurveS 0 (by omega)
    simp only [Int.natCast_zero, Nat.zero_mul] at hmk
    clear hr
    go_enter Try.func27, Try.ntmps27
    go_wp2
    refine wp_loop_rounds 1 ?_; rw [rounds_succ]
    go_wp2
    go_ret
    exact ⟨rfl, ⟨by simp, fun i hi => absurd hi (by omega)⟩, (Below.refl _ _).alloc (Nat.le_refl _) _⟩
  · obtain ⟨b, o, rfl, hb, hc⟩ := hr h0
    exact toCurveS_some b o n c f w hn fun i hi => ⟨hb, hc i 0 hi (by omega), hc i 1 hi (by omega), hc i 2 hi (by omega)⟩
set_option maxHeartbeats 1000000 in
theorem eqCurveS_some (b o c b' o' c' n : Nat) (f : Nat → Nat → Int) (w : World) (hn : n ≤ 1048576) (hcells : ∀ i, i < n → b < w.heap.size ∧ b' < w.heap.size ∧ w.cell? ⟨b, o + i * 3, none⟩ = some (.int .i64 (f i 0)) ∧ w.cell? ⟨b, o + i * 3 + 1, none⟩ = some (.int .i64 (f i 1)) ∧ w.cell? ⟨b, o + i * 3 + 2, none⟩ = some (.int .i64 (f i 2)) ∧ w.cell? ⟨b', o' + i * 3, none⟩ = some (.int .i64 (f i 0)) ∧ w.cell? ⟨b', o' + i * 3 + 1, none⟩ = some (.int .i64 (f i 1)) ∧ w.cell? ⟨b', o' + i * 3 + 2, none⟩ = some (.int .i64 (f i 2))) :
    Calls Try.prog 29 #[.slice (some ⟨b, o, none⟩) n c, .slice (some ⟨b', o', none⟩) n c'] w fun e w' => e = .returned (.bool true) ∧ Below w.heap.size w w' := by
  have H := Lib.hid hcells
  clear hcells
  go_enter Try.func29, Try.ntmps29
  go_wp2
  go_loopw [5] (fun i wr => ∃ k : Nat, k ≤ n ∧ i = .int .i64 k ∧ Below w.heap.size w wr) (fun i _ => n - (intOf i).toNat)
  case atStart => exact ⟨0, Nat.zero_le _, rfl, Below.refl _ _⟩
  case round =>
    obtain ⟨k, hk, rfl, hb⟩ := hrel
    have HB := Lib.hid hb
    clear hb
    by_cases hlt : k < n
    · obtain ⟨hbl, hbl', hx0, hx1, hx2, hz0, hz1, hz2⟩ := H.out k hlt
      have hw0 : wr.cell? ⟨b, o + k * 3, none⟩ = some (.int .i64 (f k 0)) := (HB.out.cell hbl).trans hx0
      have hv0 : wr.cell? ⟨b', o' + k * 3, none⟩ = some (.int .i64 (f k 0)) := (HB.out.cell hbl').trans hz0
      have hw1 : wr.cell? ⟨b, o + k * 3 + 1, none⟩ = some (.int .i64 (f k 1)) := (HB.out.cell hbl).trans hx1
      have hv1 : wr.cell? ⟨b', o' + k * 3 + 1, none⟩ = some (.int .i64 (f k 1)) := (HB.out.cell hbl').trans hz1
      have hw2 : wr.cell? ⟨b, o + k * 3 + 2, none⟩ = some (.int .i64 (f k 2)) := (HB.out.cell hbl).trans hx2
      have hv2 : wr.cell? ⟨b', o' + k * 3 + 2, none⟩ = some (.int .i64 (f k 2)) := (HB.out.cell hbl').trans hz2
      clear hx0 hz0 hx1 hz1 hx2 hz2
      have hlt' : (k : Int) < (n : Int) := by omega
      have HE : Hid (∀ W, _) := fun W => eqCurve_bel (f k 0) (f k 1) (f k 2) W
      go_wp2_with fail
      go_region_with ((go_at_call 24; refine (HE.out _).mono ?_; rintro e w1 ⟨rfl, hb1⟩))
      all_goals
        have HB1 := Lib.hid (HB.out.drew.trans (hb1.mono HB.out.size))
        clear hb1
        go_wp2_with fail
        go_roundw
        case rel => exact ⟨k + 1, by omega, by go_num, HB1.out⟩
        case measure => simp [intOf]; omega
    · go_wp2
      go_ret
      exact ⟨rfl, HB.out⟩
theorem eqCurveS_any (A A' : Option Addr) (c c' n : Nat) (f : Nat → Nat → Int) (B B' : Nat) (w : World) (hn : n ≤ 1048576) (h : Row w B A (n * 3) (flatCurveS f)) (h' : Row w B' A' (n * 3) (flatCurveS f)) :
    Calls Try.prog 29 #[.slice A n c, .slice A' n c'] w fun e w' => e = .returned (.bool true) ∧ Below w.heap.size w w' := by
  rcases Nat.eq_zero_or_pos n with rfl | h0
  · clear h h'
    go_enter Try.func29, Try.ntmps29
    go_wp2
    refine wp_loop_rounds 1 ?_; rw [rounds_succ]
    go_wp2
    go_ret
    exact ⟨rfl, Below.refl _ _⟩
  · obtain ⟨b, o, rfl, _, hc⟩ := h (by omega)
    obtain ⟨b', o', rfl, _, hc'⟩ := h' (by omega)
    have at_ : ∀ {b o : Nat} (hc : ∀ m, m < n * 3 → w.cell? ⟨b, o + m, none⟩ = some (flatCurveS f m)) (i j : Nat), i < n → j < 3 → w.cell? ⟨b, o + (i * 3 + j), none⟩ = some (.int .i64 (f i j)) := fun {b o} hc i j hi hj => by
      rw [hc (i * 3 + j) (by omega), flatCurveS, show (i * 3 + j) / 3 = i by omega, show (i * 3 + j) % 3 = j by omega]
    exact eqCurveS_some b o c b' o' c' n f w hn fun i hi => ⟨cell_lt_size (at_ hc i 0 hi (by omega)), cell_lt_size (at_ hc' i 0 hi (by omega)), at_ hc i 0 hi (by omega), at_ hc i 1 hi (by omega), at_ hc i 2 hi (by omega), at_ hc' i 0 hi (by omega), at_ hc' i 1 hi (by omega), at_ hc' i 2 hi (by omega)⟩
theorem szCurveS_big (A : Option Addr) (n c : Nat) (w : World) (h : 1048576 < (n : Int)) (hn : n ≤ 9223372036854775807) : Calls Try.prog 25 #[.slice A n c, .int .i64 1048576] w fun e w' => e = .returned (.int .i64 (-1)) ∧ w = w' := by
  have h2 : 1048576 - (n : Int) < 0 := by omega
  go_enter Try.func25, Try.ntmps25
  go_wp2
  go_ret
  exact ⟨rfl, rfl⟩
theorem szCurveS_small (A : Option Addr) (n c : Nat) (w : World) (h : (n : Int) ≤ 1048576) : Calls Try.prog 25 #[.slice A n c, .int .i64 1048576] w fun e w' => e = .returned (.int .i64 (1048576 - (n : Int))) ∧ w = w' := by
  have h2 : ¬ 1048576 - (n : Int) < 0 := by omega
  go_enter Try.func25, Try.ntmps25
  go_wp2
  go_ret
  exact ⟨rfl, rfl⟩
end Go.Proofs.Ytnfkepngjbjeoaa
