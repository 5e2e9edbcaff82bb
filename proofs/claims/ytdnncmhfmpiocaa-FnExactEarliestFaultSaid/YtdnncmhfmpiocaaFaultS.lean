/-
  The law files' helpers on slices of Fault, each walked once: the copy (toFaultS), the comparison of equal rows (eqFaultS), the marking (markFaultS).
-/
import Derived.Test.YtdnncmhfmpiocaaFaultBel
import Derived.Test.YtdnncmhfmpiocaaBase
import Derived.Lib.Hide
import Derived.Deep.OwnRows
import Derived.Deep.RegionWith
namespace Go.Proofs.Ytdnncmhfmpiocaa
open Go.RowKit
/-- The cells of a row of Fault, one after the other. -/
def flatFaultS (f : Nat → Nat → Int) (m : Nat) : Value := .int .i64 (f (m / 2) (m % 2))
/-- Block g holds a row of Fault. -/
def OwnFaultS (w : World) (g n : Nat) (f : Nat → Nat → Int) : Prop := Own w g (n * 2) (flatFaultS f)
theorem OwnFaultS.later {w w' : World} {g n : Nat} {f : Nat → Nat → Int} (h : OwnFaultS w g n f) (hb : Below w.heap.size w w') : OwnFaultS w' g n f := Own.later h hb
theorem OwnFaultS.row {w : World} {g n : Nat} {f : Nat → Nat → Int} (h : OwnFaultS w g n f) : Row w w.heap.size (some ⟨g, 0, none⟩) (n * 2) (flatFaultS f) := Own.row h
theorem OwnFaultS.at_ {w : World} {g n : Nat} {f : Nat → Nat → Int} (h : OwnFaultS w g n f) {i : Nat} (hi : i < n) : w.cell? ⟨g, i * 2, none⟩ = some (.int .i64 (f i 0)) ∧ w.cell? ⟨g, i * 2 + 1, none⟩ = some (.int .i64 (f i 1)) :=
  ⟨(Own.cell h (show i * 2 < n * 2 by omega)).trans (by rw [flatFaultS, show (i * 2) / 2 = i by omega, show (i * 2) % 2 = 0 by omega]), (Own.cell h (show i * 2 + 1 < n * 2 by omega)).trans (by rw [flatFaultS, show (i * 2 + 1) / 2 = i by omega, show (i * 2 + 1) % 2 = 1 by omega])⟩
theorem infoFaultS : (Try.prog.info? 26).map (fun i => (i.zero, i.size, i.bytes)) = some (some (.agg #[.int .i64 0, .int .i64 0]), 2, 16) := by kernel_rfl
theorem run_make_FaultS (n : Nat) (hn : n ≤ 1048576) (W : World) : (Instr.makeSlice 36 (.int .i64 n) (.int .i64 n)).run Try.prog W = .ok (.slice (some ⟨W.heap.size, 0, none⟩) n n) (W.alloc (.cells (madeCells #[.int .i64 0, .int .i64 0] (n * 2)) 26)) := by
  obtain ⟨i, hi, hz, hs, hby⟩ := info_parts infoFaultS
  have hr := run_make (P := Try.prog) W 36 26 i _ Try.underlying36 hi hz .i64 .i64 n n (by omega) (by omega) (by rw [hby]; omega) (by omega)
  rw [hs] at hr
  exact hr
def filledFaultS (f : Nat → Nat → Int) (k : Nat) (m : Nat) : Value := if m < k * 2 then flatFaultS f m else .int .i64 0
theorem madeFaultS (w : World) (n : Nat) (f : Nat → Nat → Int) : Own (w.alloc (.cells (madeCells #[.int .i64 0, .int .i64 0] (n * 2)) 26)) w.heap.size (n * 2) (filledFaultS f 0) :=
  ⟨by simp, fun i hi => ⟨(World.cell?_alloc_at (hn := rfl) ..).trans (by
    have h2 : i % 2 < 2 := Nat.mod_lt _ (by omega)
    rw [filledFaultS, if_neg (by omega), madeCells, Array.getElem?_map, Array.getElem?_range]
    simp only [hi, if_true, Option.map_some]
    match i % 2, h2 with
    | 0, _ => simp
    | 1, _ => simp), World.frozen?_alloc_at (hn := rfl) ..⟩⟩
theorem filledFaultS_all (f : Nat → Nat → Int) (n m : Nat) (h : m < n * 2) : filledFaultS f n m = flatFaultS f m := by rw [filledFaultS, if_pos h]
theorem filledFaultS_step (f : Nat → Nat → Int) (k m : Nat) : (if m = k * 2 + 1 then Value.int .i64 (f k 1) else (if m = k * 2 then Value.int .i64 (f k 0) else filledFaultS f k m)) = filledFaultS f (k + 1) m := by
  by_cases h1 : m = k * 2 + 1
  · subst h1; rw [if_pos rfl, filledFaultS, if_pos (by omega), flatFaultS, show (k * 2 + 1) / 2 = k by omega, show (k * 2 + 1) % 2 = 1 by omega]
  rw [if_neg h1]
  by_cases h0 : m = k * 2
  · subst h0; rw [if_pos rfl, filledFaultS, if_pos (by omega), flatFaultS, show (k * 2) / 2 = k by omega, show (k * 2) % 2 = 0 by omega]
  rw [if_neg h0]
  unfold filledFaultS
  by_cases h : m < k * 2
  · rw [if_pos h, if_pos (by omega)]
  · rw [if_neg h, if_neg (by omega)]
set_option maxHeartbeats 1000000 in
theorem toFaultS_some (b o n c : Nat) (f : Nat → Nat → Int) (w : World) (hn : n ≤ 1048576) (hcells : ∀ i, i < n → b < w.heap.size ∧ w.cell? ⟨b, o + i * 2, none⟩ = some (.int .i64 (f i 0)) ∧ w.cell? ⟨b, o + i * 2 + 1, none⟩ = some (.int .i64 (f i 1))) :
    Calls Try.prog 16 #[.slice (some ⟨b, o, none⟩) n c] w fun e w' => e = .returned (.slice (some ⟨w.heap.size, 0, none⟩) n n) ∧ OwnFaultS w' w.heap.size n f ∧ Below w.heap.size w w' := by
  have hmk := run_make_FaultS n (by omega)
  have H := Lib.hid hcells
  clear hcells
  go_enter Try.func16, Try.ntmps16
  go_wp2
  go_loopw [4] (fun i wr => ∃ k : Nat, k ≤ n ∧ i = .int .i64 k ∧ Own wr w.heap.size (n * 2) (filledFaultS f k) ∧ Below w.heap.size w wr) (fun i _ => n - (intOf i).toNat)
  case atStart => exact ⟨0, Nat.zero_le _, rfl, madeFaultS w n f, (Below.refl _ _).alloc (Nat.le_refl _) _⟩
  case round =>
    obtain ⟨k, hk, rfl, hrow, hb⟩ := hrel
    by_cases hlt : k < n
    · obtain ⟨hbl, hx0, hx1⟩ := H.out k hlt
      have hw0 : wr.cell? ⟨b, o + k * 2, none⟩ = some (.int .i64 (f k 0)) := (hb.cell hbl).trans hx0
      have hw1 : wr.cell? ⟨b, o + k * 2 + 1, none⟩ = some (.int .i64 (f k 1)) := (hb.cell hbl).trans hx1
      have HR := Lib.hid hrow
      have HB := Lib.hid hb
      have hsz : w.heap.size < wr.heap.size := hrow.1
      clear hrow hb hmk hx0 hx1
      have HT : Hid (∀ W, _) := fun W => toFault_bel (f k 0) (f k 1) W
      go_wp2_with fail
      refine (HT.out _).mono ?_
      rintro e w1 ⟨rfl, hb1⟩
      have HR1 := Lib.hid (HR.out.later hb1)
      have HB1 := Lib.hid (HB.out.trans (hb1.mono HB.out.size))
      have hy0 : w1.cell? ⟨w.heap.size, k * 2, none⟩ = some (filledFaultS f k (k * 2)) := HR1.out.cell (by omega)
      have hyf0 : w1.frozen? ⟨w.heap.size, k * 2, none⟩ = false := HR1.out.frozen (by omega)
      have hy1 : w1.cell? ⟨w.heap.size, k * 2 + 1, none⟩ = some (filledFaultS f k (k * 2 + 1)) := HR1.out.cell (by omega)
      have hyf1 : w1.frozen? ⟨w.heap.size, k * 2 + 1, none⟩ = false := HR1.out.frozen (by omega)
      clear hb1 
      go_wp2_with fail
      go_roundw
      case rel => exact ⟨k + 1, by omega, by go_num, (((HR1.out.set (show k * 2 < n * 2 by omega) (.int .i64 (f k 0))).set (show k * 2 + 1 < n * 2 by omega) (.int .i64 (f k 1)))).congr fun m _ => filledFaultS_step f k m, ((HB1.out.setCell (Nat.le_refl _) _).setCell (Nat.le_refl _) _)⟩
      case measure => simp [intOf]; omega
    · have HR := Lib.hid hrow
      have HB := Lib.hid hb
      clear hrow hb hmk
      go_wp2
      go_ret
      have hkn : k = n := by omega
      subst hkn
      exact ⟨rfl, HR.out.congr fun m hm => filledFaultS_all f _ m hm, HB.out⟩
theorem toFaultS_any (A : Option Addr) (n c : Nat) (f : Nat → Nat → Int) (w : World) (hn : n ≤ 1048576) (hr : Seg w w.heap.size 2 A n fun i j => .int .i64 (f i j)) :
    Calls Try.prog 16 #[.slice A n c] w fun e w' => e = .returned (.slice (some ⟨w.heap.size, 0, none⟩) n n) ∧ OwnFaultS w' w.heap.size n f ∧ Below w.heap.size w w' := by
  rcases Nat.eq_zero_or_pos n with rfl | h0
  · have hmk := run_make_FaultS 0 (by omega)
    simp only [Int.natCast_zero, Nat.zero_mul] at hmk
    clear hr
    go_enter Try.func16, Try.ntmps16
    go_wp2
    refine wp_loop_rounds 1 ?_; rw [rounds_succ]
    go_wp2
    go_ret
    exact ⟨rfl, ⟨by simp, fun i hi => absurd hi (by omega)⟩, (Below.refl _ _).alloc (Nat.le_refl _) _⟩
  · obtain ⟨b, o, rfl, hb, hc⟩ := hr h0
    exact toFaultS_some b o n c f w hn fun i hi => ⟨hb, hc i 0 hi (by omega), hc i 1 hi (by omega)⟩
set_option maxHeartbeats 1000000 in
theorem eqFaultS_some (b o c b' o' c' n : Nat) (f : Nat → Nat → Int) (w : World) (hn : n ≤ 1048576) (hcells : ∀ i, i < n → b < w.heap.size ∧ b' < w.heap.size ∧ w.cell? ⟨b, o + i * 2, none⟩ = some (.int .i64 (f i 0)) ∧ w.cell? ⟨b, o + i * 2 + 1, none⟩ = some (.int .i64 (f i 1)) ∧ w.cell? ⟨b', o' + i * 2, none⟩ = some (.int .i64 (f i 0)) ∧ w.cell? ⟨b', o' + i * 2 + 1, none⟩ = some (.int .i64 (f i 1))) :
    Calls Try.prog 19 #[.slice (some ⟨b, o, none⟩) n c, .slice (some ⟨b', o', none⟩) n c'] w fun e w' => e = .returned (.bool true) ∧ Below w.heap.size w w' := by
  have H := Lib.hid hcells
  clear hcells
  go_enter Try.func19, Try.ntmps19
  go_wp2
  go_loopw [5] (fun i wr => ∃ k : Nat, k ≤ n ∧ i = .int .i64 k ∧ Below w.heap.size w wr) (fun i _ => n - (intOf i).toNat)
  case atStart => exact ⟨0, Nat.zero_le _, rfl, Below.refl _ _⟩
  case round =>
    obtain ⟨k, hk, rfl, hb⟩ := hrel
    have HB := Lib.hid hb
    clear hb
    by_cases hlt : k < n
    · obtain ⟨hbl, hbl', hx0, hx1, hz0, hz1⟩ := H.out k hlt
      have hw0 : wr.cell? ⟨b, o + k * 2, none⟩ = some (.int .i64 (f k 0)) := (HB.out.cell hbl).trans hx0
      have hv0 : wr.cell? ⟨b', o' + k * 2, none⟩ = some (.int .i64 (f k 0)) := (HB.out.cell hbl').trans hz0
      have hw1 : wr.cell? ⟨b, o + k * 2 + 1, none⟩ = some (.int .i64 (f k 1)) := (HB.out.cell hbl).trans hx1
      have hv1 : wr.cell? ⟨b', o' + k * 2 + 1, none⟩ = some (.int .i64 (f k 1)) := (HB.out.cell hbl').trans hz1
      clear hx0 hz0 hx1 hz1
      have hlt' : (k : Int) < (n : Int) := by omega
      have HE : Hid (∀ W, _) := fun W => eqFault_bel (f k 0) (f k 1) W
      go_wp2_with fail
      go_region_with ((go_at_call 18; refine (HE.out _).mono ?_; rintro e w1 ⟨rfl, hb1⟩))
      all_goals
        have HB1 := Lib.hid (HB.out.drew.trans (hb1.mono HB.out.size))
        clear hb1
        go_wp2_with fail
        go_roundw
        case rel => exact ⟨k + 1, by omega, by go_num, HB1.out⟩
        case measure => simp [intOf]; omega
    · go_wp2
      go_ret
      exact ⟨rfl, HB.out⟩
theorem eqFaultS_any (A A' : Option Addr) (c c' n : Nat) (f : Nat → Nat → Int) (B B' : Nat) (w : World) (hn : n ≤ 1048576) (h : Row w B A (n * 2) (flatFaultS f)) (h' : Row w B' A' (n * 2) (flatFaultS f)) :
    Calls Try.prog 19 #[.slice A n c, .slice A' n c'] w fun e w' => e = .returned (.bool true) ∧ Below w.heap.size w w' := by
  rcases Nat.eq_zero_or_pos n with rfl | h0
  · clear h h'
    go_enter Try.func19, Try.ntmps19
    go_wp2
    refine wp_loop_rounds 1 ?_; rw [rounds_succ]
    go_wp2
    go_ret
    exact ⟨rfl, Below.refl _ _⟩
  · obtain ⟨b, o, rfl, _, hc⟩ := h (by omega)
    obtain ⟨b', o', rfl, _, hc'⟩ := h' (by omega)
    have at_ : ∀ {b o : Nat} (hc : ∀ m, m < n * 2 → w.cell? ⟨b, o + m, none⟩ = some (flatFaultS f m)) (i j : Nat), i < n → j < 2 → w.cell? ⟨b, o + (i * 2 + j), none⟩ = some (.int .i64 (f i j)) := fun {b o} hc i j hi hj => by
      rw [hc (i * 2 + j) (by omega), flatFaultS, show (i * 2 + j) / 2 = i by omega, show (i * 2 + j) % 2 = j by omega]
    exact eqFaultS_some b o c b' o' c' n f w hn fun i hi => ⟨cell_lt_size (at_ hc i 0 hi (by omega)), cell_lt_size (at_ hc' i 0 hi (by omega)), at_ hc i 0 hi (by omega), at_ hc i 1 hi (by omega), at_ hc' i 0 hi (by omega), at_ hc' i 1 hi (by omega)⟩
set_option maxHeartbeats 1000000 in
theorem markFaultS_own (g n c : Nat) (f : Nat → Nat → Int) (w : World) (hn : n ≤ 1048576) (h : OwnFaultS w g n f) :
    Calls Try.prog 23 #[.slice (some ⟨g, 0, none⟩) n c, .int .i64 1] w fun e w' => e = .returned (.int .i64 (1 + ((n * 2 : Nat) : Int))) ∧ (∃ F, Own w' g (n * 2) F) ∧ (∀ B, B ≤ g → Below B w w') ∧ w.heap.size = w'.heap.size ∧ (∀ b, b ≠ g → w'.heap[b]? = w.heap[b]?) := by
  have H := Lib.hid h
  clear h
  go_enter Try.func23, Try.ntmps23
  go_wp2
  go_loopw [1, 5] (fun m i wr => ∃ k : Nat, k ≤ n ∧ m = .int .i64 (1 + ((k * 2 : Nat) : Int)) ∧ i = .int .i64 k ∧ (∃ F, Own wr g (n * 2) F) ∧ (∀ B, B ≤ g → Below B w wr) ∧ w.heap.size = wr.heap.size ∧ (∀ b, b ≠ g → wr.heap[b]? = w.heap[b]?)) (fun _ i _ => n - (intOf i).toNat)
  case atStart => exact ⟨0, Nat.zero_le _, by simp, rfl, ⟨_, H.out⟩, fun _ _ => Below.refl _ _, rfl, fun _ _ => rfl⟩
  case round =>
    obtain ⟨k, hk, rfl, rfl, ⟨F, ho⟩, hb, hsz, hot⟩ := hrel
    have HB := Lib.hid hb
    have HS := Lib.hid hsz
    have HT := Lib.hid hot
    by_cases hlt : k < n
    · have HO := Lib.hid ho
      have hy0 : wr.cell? ⟨g, k * 2, none⟩ = some (F (k * 2)) := ho.cell (by omega)
      have hf0 : wr.frozen? ⟨g, k * 2, none⟩ = false := ho.frozen (by omega)
      have hy1 : wr.cell? ⟨g, k * 2 + 1, none⟩ = some (F (k * 2 + 1)) := ho.cell (by omega)
      have hf1 : wr.frozen? ⟨g, k * 2 + 1, none⟩ = false := ho.frozen (by omega)
      clear ho hb hsz hot
      go_wp2_with fail
      go_roundw
      case rel => exact ⟨k + 1, by omega, by go_num, by go_num, ⟨_, ((HO.out.set (show k * 2 < n * 2 by omega) _).set (show k * 2 + 1 < n * 2 by omega) _)⟩, fun B hB => (((HB.out B hB).setCell hB _).setCell hB _), by simpa [World.setCell] using HS.out, fun b hb => by simpa [World.setCell, Array.getElem?_modify, Ne.symm hb] using HT.out b hb⟩
      case measure => simp [intOf]; omega
    · have hkn : k = n := by omega
      have HK := Lib.hid hkn
      have HO := Lib.hid ho
      clear ho hb hsz hot hkn
      go_wp2
      go_ret
      obtain rfl := HK.out
      exact ⟨rfl, ⟨F, HO.out⟩, HB.out, HS.out, HT.out⟩
theorem szFaultS_big (A : Option Addr) (n c : Nat) (w : World) (h : 1048576 < (n : Int)) (hn : n ≤ 9223372036854775807) : Calls Try.prog 14 #[.slice A n c, .int .i64 1048576] w fun e w' => e = .returned (.int .i64 (-1)) ∧ w = w' := by
  have h2 : 1048576 - (n : Int) < 0 := by omega
  go_enter Try.func14, Try.ntmps14
  go_wp2
  go_ret
  exact ⟨rfl, rfl⟩
theorem szFaultS_small (A : Option Addr) (n c : Nat) (w : World) (h : (n : Int) ≤ 1048576) : Calls Try.prog 14 #[.slice A n c, .int .i64 1048576] w fun e w' => e = .returned (.int .i64 (1048576 - (n : Int))) ∧ w = w' := by
  have h2 : ¬ 1048576 - (n : Int) < 0 := by omega
  go_enter Try.func14, Try.ntmps14
  go_wp2
  go_ret
  exact ⟨rfl, rfl⟩
end Go.Proofs.Ytdnncmhfmpiocaa
