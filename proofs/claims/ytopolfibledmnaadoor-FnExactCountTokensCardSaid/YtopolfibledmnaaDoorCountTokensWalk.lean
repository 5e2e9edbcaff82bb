/-
  CountTokens, the program's and the reference's: both count the kinds; the walk of FnExactCountTokens.
-/
import Derived.Test.YtopolfibledmnaaDoorTokGoodL
import Derived.Test.YtopolfibledmnaaDoorTokMark
import Derived.Test.YtopolfibledmnaaDoorIntS
import Derived.Test.YtopolfibledmnaaDoorSliceOut
namespace Go.Proofs.YtopolfibledmnaaDoor
open Go.RowKit
/-- How many of the first n tokens have kind j + 1. -/
def cntT (f : Nat → Tk) : Nat → Nat → Int
  | 0, _ => 0
  | n + 1, j => if (f n).k = (j : Int) + 1 then cntT f n j + 1 else cntT f n j
theorem cntT_bd (f : Nat → Tk) (j : Nat) : ∀ n, 0 ≤ cntT f n j ∧ cntT f n j ≤ n
  | 0 => by simp [cntT]
  | n + 1 => by
    have := cntT_bd f j n
    unfold cntT
    split <;> omega
theorem info_int : (Tryd.prog.info? 3).map (fun i => (i.zero, i.size, i.bytes)) = some (some (.int .i64 0), 1, 8) := by kernel_rfl
theorem run_make_four (W : World) : (Instr.makeSlice 39 (.int .i64 4) (.int .i64 4)).run Tryd.prog W = .ok (.slice (some ⟨W.heap.size, 0, none⟩) 4 4) (W.alloc (.cells (madeCells #[.int .i64 0] 4) 3)) := by
  obtain ⟨i, hi, hz, hs, hby⟩ := info_parts info_int
  have hr := run_make (P := Tryd.prog) W 39 3 i _ Tryd.underlying39 hi hz .i64 .i64 4 4 (by omega) (by omega) (by rw [hby]; omega) (by omega)
  rw [hs] at hr
  exact hr
theorem madeFour (w : World) (f : Nat → Tk) : Own (w.alloc (.cells (madeCells #[.int .i64 0] 4) 3)) w.heap.size 4 (fun j => .int .i64 (cntT f 0 j)) :=
  ⟨by simp, fun i hi => ⟨(World.cell?_alloc_at (hn := rfl) ..).trans (by simp [madeCells, cntT, hi, Nat.mod_one]), World.frozen?_alloc_at (hn := rfl) ..⟩⟩
theorem cnt_set {W : World} {g k : Nat} {f : Nat → Tk} (h : Own W g 4 fun j => .int .i64 (cntT f k j)) {d : Nat} (hd : d < 4) (hk : (f k).k = (d : Int) + 1) :
    Own (W.setCell ⟨g, d, none⟩ (.int .i64 (cntT f k d + 1))) g 4 fun j => .int .i64 (cntT f (k + 1) j) := by
  refine (h.set hd _).congr fun j hj => ?_
  by_cases e : j = d
  · subst e; rw [if_pos rfl, cntT, if_pos hk]
  · rw [if_neg e, cntT, if_neg (by omega)]
set_option maxHeartbeats 2000000 in
theorem implCountTokens_yes (g c n : Nat) (f : Nat → Tk) (w : World) (hn : n ≤ 1048576) (hts : ∀ i, i < n → (f i).t.size ≤ 1048576) (h : OwnT w g n f) (hK : TabS w 0 keyNs) (hG : TabS w 1 signNs) (hgd : goodB f n = true) :
    Calls Tryd.prog 25 #[.slice (some ⟨g, 0, none⟩) n c] w (SliceOut w 4 (fun j => .int .i64 (cntT f n j)) true) := by
  have H := Lib.hid h
  have HC := Lib.hid (implareTokens_own g c n f w hn hts h hK hG)
  rw [hgd] at HC
  have hgl := h.1
  have HKD : Hid (∀ i, i < n → 1 ≤ (f i).k ∧ (f i).k ≤ 4) := fun i hi => gd_kind (allV_at (p := gdAt f) (by rw [goodB, Bool.and_eq_true] at hgd; exact hgd.1) i hi)
  have hmk := fun W => run_make_four W
  clear h hts hK hG hgd
  go_enter Tryd.func25, Tryd.ntmps25
  go_wp2_with fail
  refine HC.out.mono ?_
  rintro e w1 ⟨rfl, hb1⟩
  have HB1 := Lib.hid hb1
  have HM := Lib.hid (madeFour w1 f)
  clear hb1
  go_wp2_with fail
  go_loopw [13] (fun i wr => ∃ k : Nat, k ≤ n ∧ i = .int .i64 k ∧ Own wr w1.heap.size 4 (fun j => .int .i64 (cntT f k j)) ∧ Below w1.heap.size w1 wr) (fun i _ => n - (intOf i).toNat)
  case atStart => exact ⟨0, Nat.zero_le _, rfl, HM.out, belAlloc (Below.refl _ _) _⟩
  case round =>
    obtain ⟨k, hk, rfl, hown, hb⟩ := hrel
    have HO := Lib.hid hown
    have HB := Lib.hid hb
    clear hmk
    by_cases hlt : k < n
    · obtain ⟨x0, x1, x2, x3⟩ := (H.out.later (belNext HB1.out hb)).at_ hlt
      have hgr : g < wr.heap.size := Nat.lt_of_lt_of_le hgl (belNext HB1.out hb).size
      have hsz : w1.heap.size < wr.heap.size := hown.1
      obtain ⟨hk1, hk4⟩ := HKD.out k hlt
      clear hown hb
      rcases (show (f k).k = ((0 : Nat) : Int) + 1 ∨ (f k).k = ((1 : Nat) : Int) + 1 ∨ (f k).k = ((2 : Nat) : Int) + 1 ∨ (f k).k = ((3 : Nat) : Int) + 1 by omega) with hkk | hkk | hkk | hkk
      · obtain ⟨b0, b1⟩ := cntT_bd f 0 k
        have y0 : wr.cell? ⟨w1.heap.size, 0, none⟩ = some (.int .i64 (cntT f k 0)) := HO.out.cell (by omega)
        have f0 : wr.frozen? ⟨w1.heap.size, 0, none⟩ = false := HO.out.frozen (i := 0) (by omega)
        have HS := Lib.hid (cnt_set HO.out (d := 0) (by omega) hkk)
        rw [hkk] at x0
        clear hkk hk1 hk4
        generalize cntT f k 0 = cc at y0 b0 b1 HS
        generalize f k = x at x0 x1 x2 x3
        go_wp2_with fail
        go_roundw
        case rel => exact ⟨k + 1, by omega, by go_num, HS.out.later (belAlloc (Below.refl _ _) _), ((HB.out.setCell (Nat.le_refl _) _)).alloc (by simp [World.setCell]; omega) _⟩
        case measure => simp [intOf]; omega
      · obtain ⟨b0, b1⟩ := cntT_bd f 1 k
        have y0 : wr.cell? ⟨w1.heap.size, 1, none⟩ = some (.int .i64 (cntT f k 1)) := HO.out.cell (by omega)
        have f0 : wr.frozen? ⟨w1.heap.size, 1, none⟩ = false := HO.out.frozen (i := 1) (by omega)
        have HS := Lib.hid (cnt_set HO.out (d := 1) (by omega) hkk)
        rw [hkk] at x0
        clear hkk hk1 hk4
        generalize cntT f k 1 = cc at y0 b0 b1 HS
        generalize f k = x at x0 x1 x2 x3
        go_wp2_with fail
        go_roundw
        case rel => exact ⟨k + 1, by omega, by go_num, HS.out.later (belAlloc (Below.refl _ _) _), ((HB.out.setCell (Nat.le_refl _) _)).alloc (by simp [World.setCell]; omega) _⟩
        case measure => simp [intOf]; omega
      · obtain ⟨b0, b1⟩ := cntT_bd f 2 k
        have y0 : wr.cell? ⟨w1.heap.size, 2, none⟩ = some (.int .i64 (cntT f k 2)) := HO.out.cell (by omega)
        have f0 : wr.frozen? ⟨w1.heap.size, 2, none⟩ = false := HO.out.frozen (i := 2) (by omega)
        have HS := Lib.hid (cnt_set HO.out (d := 2) (by omega) hkk)
        rw [hkk] at x0
        clear hkk hk1 hk4
        generalize cntT f k 2 = cc at y0 b0 b1 HS
        generalize f k = x at x0 x1 x2 x3
        go_wp2_with fail
        go_roundw
        case rel => exact ⟨k + 1, by omega, by go_num, HS.out.later (belAlloc (Below.refl _ _) _), ((HB.out.setCell (Nat.le_refl _) _)).alloc (by simp [World.setCell]; omega) _⟩
        case measure => simp [intOf]; omega
      · obtain ⟨b0, b1⟩ := cntT_bd f 3 k
        have y0 : wr.cell? ⟨w1.heap.size, 3, none⟩ = some (.int .i64 (cntT f k 3)) := HO.out.cell (by omega)
        have f0 : wr.frozen? ⟨w1.heap.size, 3, none⟩ = false := HO.out.frozen (i := 3) (by omega)
        have HS := Lib.hid (cnt_set HO.out (d := 3) (by omega) hkk)
        rw [hkk] at x0
        clear hkk hk1 hk4
        generalize cntT f k 3 = cc at y0 b0 b1 HS
        generalize f k = x at x0 x1 x2 x3
        go_wp2_with fail
        go_roundw
        case rel => exact ⟨k + 1, by omega, by go_num, HS.out.later (belAlloc (Below.refl _ _) _), ((HB.out.setCell (Nat.le_refl _) _)).alloc (by simp [World.setCell]; omega) _⟩
        case measure => simp [intOf]; omega
    · have hkn : k = n := by omega
      have HK := Lib.hid hkn
      clear hkn hown hb
      go_wp2_with fail
      go_ret2
      obtain rfl := HK.out
      exact ⟨some ⟨w1.heap.size, 0, none⟩, 4, rfl, fun _ => ⟨w1.heap.size, rfl, HB1.out.size, HO.out⟩, belNext HB1.out HB.out⟩
set_option maxHeartbeats 1000000 in
theorem implCountTokens_no (g c n : Nat) (f : Nat → Tk) (w : World) (hn : n ≤ 1048576) (hts : ∀ i, i < n → (f i).t.size ≤ 1048576) (h : OwnT w g n f) (hK : TabS w 0 keyNs) (hG : TabS w 1 signNs) (hgd : goodB f n = false) :
    Calls Tryd.prog 25 #[.slice (some ⟨g, 0, none⟩) n c] w (SliceOut w 0 (fun j => .int .i64 (cntT f n j)) false) := by
  have HC := Lib.hid (implareTokens_own g c n f w hn hts h hK hG)
  rw [hgd] at HC
  clear h hts hK hG hgd
  go_enter Tryd.func25, Tryd.ntmps25
  go_wp2_with fail
  refine HC.out.mono ?_
  rintro e w1 ⟨rfl, hb1⟩
  have HB1 := Lib.hid hb1
  clear hb1
  go_wp2_with fail
  go_ret2
  exact ⟨none, 0, rfl, fun h => absurd h (by omega), HB1.out⟩
set_option maxHeartbeats 2000000 in
theorem specCountTokens_yes (g c n : Nat) (f : Nat → Tk) (w : World) (hn : n ≤ 1048576) (hts : ∀ i, i < n → (f i).t.size ≤ 1048576) (h : OwnT w g n f) (hK : TabS w 0 keyNs) (hG : TabS w 1 signNs) (hgd : goodB f n = true) :
    Calls Tryd.prog 23 #[.slice (some ⟨g, 0, none⟩) n c] w (SliceOut w 4 (fun j => .int .i64 (cntT f n j)) true) := by
  have H := Lib.hid h
  have HC := Lib.hid (spectkList_own g c n f w hn hts h hK hG)
  rw [hgd] at HC
  have hgl := h.1
  have HKD : Hid (∀ i, i < n → 1 ≤ (f i).k ∧ (f i).k ≤ 4) := fun i hi => gd_kind (allV_at (p := gdAt f) (by rw [goodB, Bool.and_eq_true] at hgd; exact hgd.1) i hi)
  have hmk := fun W => run_make_four W
  clear h hts hK hG hgd
  go_enter Tryd.func23, Tryd.ntmps23
  go_wp2_with fail
  refine HC.out.mono ?_
  rintro e w1 ⟨rfl, hb1⟩
  have HB1 := Lib.hid hb1
  have HM := Lib.hid (madeFour w1 f)
  clear hb1
  go_wp2_with fail
  go_loopw [13] (fun i wr => ∃ k : Nat, k ≤ n ∧ i = .int .i64 k ∧ Own wr w1.heap.size 4 (fun j => .int .i64 (cntT f k j)) ∧ Below w1.heap.size w1 wr) (fun i _ => n - (intOf i).toNat)
  case atStart => exact ⟨0, Nat.zero_le _, rfl, HM.out, belAlloc (Below.refl _ _) _⟩
  case round =>
    obtain ⟨k, hk, rfl, hown, hb⟩ := hrel
    have HO := Lib.hid hown
    have HB := Lib.hid hb
    clear hmk
    by_cases hlt : k < n
    · obtain ⟨x0, x1, x2, x3⟩ := (H.out.later (belNext HB1.out hb)).at_ hlt
      have hgr : g < wr.heap.size := Nat.lt_of_lt_of_le hgl (belNext HB1.out hb).size
      have hsz : w1.heap.size < wr.heap.size := hown.1
      obtain ⟨hk1, hk4⟩ := HKD.out k hlt
      clear hown hb
      rcases (show (f k).k = ((0 : Nat) : Int) + 1 ∨ (f k).k = ((1 : Nat) : Int) + 1 ∨ (f k).k = ((2 : Nat) : Int) + 1 ∨ (f k).k = ((3 : Nat) : Int) + 1 by omega) with hkk | hkk | hkk | hkk
      · obtain ⟨b0, b1⟩ := cntT_bd f 0 k
        have y0 : wr.cell? ⟨w1.heap.size, 0, none⟩ = some (.int .i64 (cntT f k 0)) := HO.out.cell (by omega)
        have f0 : wr.frozen? ⟨w1.heap.size, 0, none⟩ = false := HO.out.frozen (i := 0) (by omega)
        have HS := Lib.hid (cnt_set HO.out (d := 0) (by omega) hkk)
        rw [hkk] at x0
        clear hkk hk1 hk4
        generalize cntT f k 0 = cc at y0 b0 b1 HS
        generalize f k = x at x0 x1 x2 x3
        go_wp2_with fail
        go_roundw
        case rel => exact ⟨k + 1, by omega, by go_num, HS.out.later (belAlloc (Below.refl _ _) _), ((HB.out.setCell (Nat.le_refl _) _)).alloc (by simp [World.setCell]; omega) _⟩
        case measure => simp [intOf]; omega
      · obtain ⟨b0, b1⟩ := cntT_bd f 1 k
        have y0 : wr.cell? ⟨w1.heap.size, 1, none⟩ = some (.int .i64 (cntT f k 1)) := HO.out.cell (by omega)
        have f0 : wr.frozen? ⟨w1.heap.size, 1, none⟩ = false := HO.out.frozen (i := 1) (by omega)
        have HS := Lib.hid (cnt_set HO.out (d := 1) (by omega) hkk)
        rw [hkk] at x0
        clear hkk hk1 hk4
        generalize cntT f k 1 = cc at y0 b0 b1 HS
        generalize f k = x at x0 x1 x2 x3
        go_wp2_with fail
        go_roundw
        case rel => exact ⟨k + 1, by omega, by go_num, HS.out.later (belAlloc (Below.refl _ _) _), ((HB.out.setCell (Nat.le_refl _) _)).alloc (by simp [World.setCell]; omega) _⟩
        case measure => simp [intOf]; omega
      · obtain ⟨b0, b1⟩ := cntT_bd f 2 k
        have y0 : wr.cell? ⟨w1.heap.size, 2, none⟩ = some (.int .i64 (cntT f k 2)) := HO.out.cell (by omega)
        have f0 : wr.frozen? ⟨w1.heap.size, 2, none⟩ = false := HO.out.frozen (i := 2) (by omega)
        have HS := Lib.hid (cnt_set HO.out (d := 2) (by omega) hkk)
        rw [hkk] at x0
        clear hkk hk1 hk4
        generalize cntT f k 2 = cc at y0 b0 b1 HS
        generalize f k = x at x0 x1 x2 x3
        go_wp2_with fail
        go_roundw
        case rel => exact ⟨k + 1, by omega, by go_num, HS.out.later (belAlloc (Below.refl _ _) _), ((HB.out.setCell (Nat.le_refl _) _)).alloc (by simp [World.setCell]; omega) _⟩
        case measure => simp [intOf]; omega
      · obtain ⟨b0, b1⟩ := cntT_bd f 3 k
        have y0 : wr.cell? ⟨w1.heap.size, 3, none⟩ = some (.int .i64 (cntT f k 3)) := HO.out.cell (by omega)
        have f0 : wr.frozen? ⟨w1.heap.size, 3, none⟩ = false := HO.out.frozen (i := 3) (by omega)
        have HS := Lib.hid (cnt_set HO.out (d := 3) (by omega) hkk)
        rw [hkk] at x0
        clear hkk hk1 hk4
        generalize cntT f k 3 = cc at y0 b0 b1 HS
        generalize f k = x at x0 x1 x2 x3
        go_wp2_with fail
        go_roundw
        case rel => exact ⟨k + 1, by omega, by go_num, HS.out.later (belAlloc (Below.refl _ _) _), ((HB.out.setCell (Nat.le_refl _) _)).alloc (by simp [World.setCell]; omega) _⟩
        case measure => simp [intOf]; omega
    · have hkn : k = n := by omega
      have HK := Lib.hid hkn
      clear hkn hown hb
      go_wp2_with fail
      go_ret2
      obtain rfl := HK.out
      exact ⟨some ⟨w1.heap.size, 0, none⟩, 4, rfl, fun _ => ⟨w1.heap.size, rfl, HB1.out.size, HO.out⟩, belNext HB1.out HB.out⟩
set_option maxHeartbeats 1000000 in
theorem specCountTokens_no (g c n : Nat) (f : Nat → Tk) (w : World) (hn : n ≤ 1048576) (hts : ∀ i, i < n → (f i).t.size ≤ 1048576) (h : OwnT w g n f) (hK : TabS w 0 keyNs) (hG : TabS w 1 signNs) (hgd : goodB f n = false) :
    Calls Tryd.prog 23 #[.slice (some ⟨g, 0, none⟩) n c] w (SliceOut w 0 (fun j => .int .i64 (cntT f n j)) false) := by
  have HC := Lib.hid (spectkList_own g c n f w hn hts h hK hG)
  rw [hgd] at HC
  clear h hts hK hG hgd
  go_enter Tryd.func23, Tryd.ntmps23
  go_wp2_with fail
  refine HC.out.mono ?_
  rintro e w1 ⟨rfl, hb1⟩
  have HB1 := Lib.hid hb1
  clear hb1
  go_wp2_with fail
  go_ret2
  exact ⟨none, 0, rfl, fun h => absurd h (by omega), HB1.out⟩
set_option maxHeartbeats 4000000 in
theorem countTokens_yes (w : World) (A : Option Addr) (n c : Nat) (f : Nat → Tk) (hn : n ≤ maxLen) (hok : ∀ i, (f i).Ok) (hr : Seg w w.heap.size 4 A n fun i j => (f i).cell j) (hK : TabS w 0 keyNs) (hG : TabS w 1 signNs) (hgd : goodB f n = true) :
    Calls Tryd.prog 6 #[.slice A n c] w fun e w' => e = .returned (.bool true) ∧ Below w.heap.size w w' := by
  have HZ := Lib.hid (szTokenS_any A n c f w hn hok hr)
  have HTS : Hid (∀ W, n ≤ 1048576 → Below w.heap.size w W → _) := fun W h1 hW => toTokenS_any A n c f W h1 ((hr.below hW).more hW.size)
  have HS : Hid (∀ g W, n ≤ 1048576 → (∀ i, i < n → (f i).t.size ≤ 1048576) → Below w.heap.size w W → OwnT W g n f → _) := fun g W h1 h2 hW ho => (specCountTokens_yes g n n f W h1 h2 ho (hK.later hW) (hG.later hW) hgd).mono fun _ _ h => h.some_ (by omega)
  have HI : Hid (∀ g W, n ≤ 1048576 → (∀ i, i < n → (f i).t.size ≤ 1048576) → Below w.heap.size w W → OwnT W g n f → _) := fun g W h1 h2 hW ho => (implCountTokens_yes g n n f W h1 h2 ho (hK.later hW) (hG.later hW) hgd).mono fun _ _ h => h.some_ (by omega)
  clear hK hG hgd hr hok
  unfold maxLen at hn
  go_enter Tryd.func6, Tryd.ntmps6
  go_wp2_with fail
  refine HZ.out.mono ?_
  rintro e w0 ⟨x, rfl, hx, hb0⟩
  have HB0 := Lib.hid hb0
  clear hb0
  rcases hx with rfl | ⟨hx0, h1, h2⟩
  · go_wp2_with fail
    go_ret
    exact ⟨rfl, HB0.out⟩
  have H2 := Lib.hid h2
  have hx0' : ¬ x < 0 := by omega
  have hkp : ¬ ((1 + n * 4 : Nat) : Int) < 0 := by omega
  clear h2
  go_wp2_with fail
  refine (HTS.out _ h1 HB0.out).mono ?_
  rintro e w1 ⟨rfl, ho1, hb1⟩
  have HB1 := Lib.hid (belNext HB0.out hb1)
  have O1 := Lib.hid ho1
  clear ho1 hb1
  go_wp2_with fail
  refine (HS.out _ _ h1 H2.out HB1.out O1.out).mono ?_
  rintro e w2 ⟨gS, cS, rfl, hgS, hoS, hb2⟩
  have HB2 := Lib.hid (belNext HB1.out hb2)
  have OS := Lib.hid hoS
  have hgS2 : gS < w2.heap.size := hoS.1
  clear hoS hb2 hgS
  go_wp2_with fail
  refine (HTS.out _ h1 HB2.out).mono ?_
  rintro e w3 ⟨rfl, ho3, hb3⟩
  have HB3 := Lib.hid (belNext HB2.out hb3)
  have OX3 := Lib.hid ho3
  have OS3 := Lib.hid (OS.out.later hb3)
  have hX3 : w2.heap.size < w3.heap.size := ho3.1
  clear ho3 hb3
  go_wp2_with fail
  refine (HI.out _ _ h1 H2.out HB3.out OX3.out).mono ?_
  rintro e w4 ⟨gG, cG, rfl, hgG, hoG, hb4⟩
  have HB4 := Lib.hid (belNext HB3.out hb4)
  have OX4 := Lib.hid (OX3.out.later hb4)
  have OS4 := Lib.hid (OS3.out.later hb4)
  have OG4 := Lib.hid hoG
  have hne1 : gS ≠ w2.heap.size := by omega
  have hne2 : gG ≠ w2.heap.size := by omega
  have hne3 : gS ≠ gG := by omega
  have HNE := Lib.hid (And.intro hne1 (And.intro hne2 hne3))
  have hgw : w.heap.size ≤ gG := by have := HB3.out.size; omega
  have hxw : w.heap.size ≤ w2.heap.size := HB2.out.size
  clear hoG hb4 hgG hne1 hne2 hne3
  go_wp2_with fail
  refine (eqIntS_any _ _ cG cS 4 (fun j => cntT f n j) _ _ _ (by omega) OG4.out.row OS4.out.row).mono ?_
  rintro e w5 ⟨rfl, hb5⟩
  have HB5 := Lib.hid (belNext HB4.out hb5)
  have OX5 := Lib.hid (OX4.out.later hb5)
  have OS5 := Lib.hid (OS4.out.later hb5)
  have OG5 := Lib.hid (OG4.out.later hb5)
  clear hb5
  go_wp2_with fail
  refine (HTS.out _ h1 HB5.out).mono ?_
  rintro e w6 ⟨rfl, ho6, hb6⟩
  have HB6 := Lib.hid (belNext HB5.out hb6)
  have OX6 := Lib.hid (OX5.out.later hb6)
  have OS6 := Lib.hid (OS5.out.later hb6)
  have OG6 := Lib.hid (OG5.out.later hb6)
  have OY6 := Lib.hid ho6
  clear hb6 ho6
  go_wp2_with fail
  refine (eqTokenS_own _ _ n n n f _ h1 OX6.out OY6.out).mono ?_
  rintro e w7 ⟨rfl, hb7⟩
  have HB7 := Lib.hid (belNext HB6.out hb7)
  have OX7 := Lib.hid (OX6.out.later hb7)
  have OS7 := Lib.hid (OS6.out.later hb7)
  have OG7 := Lib.hid (OG6.out.later hb7)
  clear hb7
  go_wp2_with fail
  refine (markTokenS_own _ n n f _ h1 OX7.out).mono ?_
  rintro e w8 ⟨rfl, _, hb8, hs8, ht8⟩
  have HB8 := Lib.hid (HB7.out.trans (hb8 _ hxw HB7.out.size))
  have OS8 := Lib.hid (Own.keepT OS7.out hs8 (ht8 gS HNE.out.1 OS7.out.1))
  have OG8 := Lib.hid (Own.keepT OG7.out hs8 (ht8 gG HNE.out.2.1 OG7.out.1))
  clear hb8 hs8 ht8
  go_wp2_with fail
  refine (eqIntS_any _ _ cG cS 4 (fun j => cntT f n j) _ _ _ (by omega) OG8.out.row OS8.out.row).mono ?_
  rintro e w9 ⟨rfl, hb9⟩
  have HB9 := Lib.hid (belNext HB8.out hb9)
  have OS9 := Lib.hid (OS8.out.later hb9)
  have OG9 := Lib.hid (OG8.out.later hb9)
  clear hb9
  go_wp2_with fail
  refine (markIntS_own gG 4 cG (fun j => cntT f n j) _ (by omega) OG9.out).mono ?_
  rintro e w10 ⟨rfl, ho10, hb10, hs10, ht10⟩
  have HB10 := Lib.hid (HB9.out.trans (hb10 _ hgw))
  have OS10 := Lib.hid (OS9.out.other hs10 (ht10 gS HNE.out.2.2))
  have OG10 := Lib.hid ho10
  clear ho10 hb10 hs10 ht10
  go_wp2_with fail
  refine (heldIntS_own gG 4 cG _ _ (by omega) OG10.out).mono ?_
  rintro e w11 ⟨rfl, rfl⟩
  go_wp2_with fail
  refine (HTS.out _ h1 HB10.out).mono ?_
  rintro e w11 ⟨rfl, ho11, hb11⟩
  have HB11 := Lib.hid (belNext HB10.out hb11)
  have OS11 := Lib.hid (OS10.out.later hb11)
  have OG11 := Lib.hid (OG10.out.later hb11)
  have OY11 := Lib.hid ho11
  clear ho11 hb11
  go_wp2_with fail
  refine (HI.out _ _ h1 H2.out HB11.out OY11.out).mono ?_
  rintro e w12 ⟨gH, cH, rfl, hgH, hoH, hb12⟩
  have HB12 := Lib.hid (belNext HB11.out hb12)
  have OS12 := Lib.hid (OS11.out.later hb12)
  have OG12 := Lib.hid (OG11.out.later hb12)
  have OH12 := Lib.hid hoH
  clear hoH hb12 hgH
  go_wp2_with fail
  refine (eqIntS_any _ _ cH cS 4 (fun j => cntT f n j) _ _ _ (by omega) OH12.out.row OS12.out.row).mono ?_
  rintro e w13 ⟨rfl, hb13⟩
  have HB13 := Lib.hid (belNext HB12.out hb13)
  have OG13 := Lib.hid (OG12.out.later hb13)
  clear hb13
  go_wp2_with fail
  refine (heldIntS_own gG 4 cG _ _ (by omega) OG13.out).mono ?_
  rintro e w14 ⟨rfl, rfl⟩
  go_wp2_with fail
  go_ret
  exact ⟨rfl, HB13.out⟩
set_option maxHeartbeats 4000000 in
theorem countTokens_no (w : World) (A : Option Addr) (n c : Nat) (f : Nat → Tk) (hn : n ≤ maxLen) (hok : ∀ i, (f i).Ok) (hr : Seg w w.heap.size 4 A n fun i j => (f i).cell j) (hK : TabS w 0 keyNs) (hG : TabS w 1 signNs) (hgd : goodB f n = false) :
    Calls Tryd.prog 6 #[.slice A n c] w fun e w' => e = .returned (.bool true) ∧ Below w.heap.size w w' := by
  have HZ := Lib.hid (szTokenS_any A n c f w hn hok hr)
  have HTS : Hid (∀ W, n ≤ 1048576 → Below w.heap.size w W → _) := fun W h1 hW => toTokenS_any A n c f W h1 ((hr.below hW).more hW.size)
  have HS : Hid (∀ g W, n ≤ 1048576 → (∀ i, i < n → (f i).t.size ≤ 1048576) → Below w.heap.size w W → OwnT W g n f → _) := fun g W h1 h2 hW ho => (specCountTokens_no g n n f W h1 h2 ho (hK.later hW) (hG.later hW) hgd).mono fun _ _ h => h.zero_
  have HI : Hid (∀ g W, n ≤ 1048576 → (∀ i, i < n → (f i).t.size ≤ 1048576) → Below w.heap.size w W → OwnT W g n f → _) := fun g W h1 h2 hW ho => (implCountTokens_no g n n f W h1 h2 ho (hK.later hW) (hG.later hW) hgd).mono fun _ _ h => h.zero_
  clear hK hG hgd hr hok
  unfold maxLen at hn
  go_enter Tryd.func6, Tryd.ntmps6
  go_wp2_with fail
  refine HZ.out.mono ?_
  rintro e w0 ⟨x, rfl, hx, hb0⟩
  have HB0 := Lib.hid hb0
  clear hb0
  rcases hx with rfl | ⟨hx0, h1, h2⟩
  · go_wp2_with fail
    go_ret
    exact ⟨rfl, HB0.out⟩
  have H2 := Lib.hid h2
  have hx0' : ¬ x < 0 := by omega
  have hkp : ¬ ((1 + n * 4 : Nat) : Int) < 0 := by omega
  clear h2
  go_wp2_with fail
  refine (HTS.out _ h1 HB0.out).mono ?_
  rintro e w1 ⟨rfl, ho1, hb1⟩
  have HB1 := Lib.hid (belNext HB0.out hb1)
  have O1 := Lib.hid ho1
  clear ho1 hb1
  go_wp2_with fail
  refine (HS.out _ _ h1 H2.out HB1.out O1.out).mono ?_
  rintro e w2 ⟨AS, cS, rfl, hb2⟩
  have HB2 := Lib.hid (belNext HB1.out hb2)
  clear hb2
  go_wp2_with fail
  refine (HTS.out _ h1 HB2.out).mono ?_
  rintro e w3 ⟨rfl, ho3, hb3⟩
  have HB3 := Lib.hid (belNext HB2.out hb3)
  have OX3 := Lib.hid ho3
  have hxw : w.heap.size ≤ w2.heap.size := HB2.out.size
  clear ho3 hb3
  go_wp2_with fail
  refine (HI.out _ _ h1 H2.out HB3.out OX3.out).mono ?_
  rintro e w4 ⟨AG, cG, rfl, hb4⟩
  have HB4 := Lib.hid (belNext HB3.out hb4)
  have OX4 := Lib.hid (OX3.out.later hb4)
  clear hb4
  go_wp2_with fail
  refine (eqIntS_any AG AS cG cS 0 (fun _ => 0) 0 0 _ (by omega) (fun h => absurd h (by omega)) (fun h => absurd h (by omega))).mono ?_
  rintro e w5 ⟨rfl, hb5⟩
  have HB5 := Lib.hid (belNext HB4.out hb5)
  have OX5 := Lib.hid (OX4.out.later hb5)
  clear hb5
  go_wp2_with fail
  refine (HTS.out _ h1 HB5.out).mono ?_
  rintro e w6 ⟨rfl, ho6, hb6⟩
  have HB6 := Lib.hid (belNext HB5.out hb6)
  have OX6 := Lib.hid (OX5.out.later hb6)
  have OY6 := Lib.hid ho6
  clear hb6 ho6
  go_wp2_with fail
  refine (eqTokenS_own _ _ n n n f _ h1 OX6.out OY6.out).mono ?_
  rintro e w7 ⟨rfl, hb7⟩
  have HB7 := Lib.hid (belNext HB6.out hb7)
  have OX7 := Lib.hid (OX6.out.later hb7)
  clear hb7
  go_wp2_with fail
  refine (markTokenS_own _ n n f _ h1 OX7.out).mono ?_
  rintro e w8 ⟨rfl, _, hb8, hs8, ht8⟩
  have HB8 := Lib.hid (HB7.out.trans (hb8 _ hxw HB7.out.size))
  clear hb8 hs8 ht8
  go_wp2_with fail
  refine (eqIntS_any AG AS cG cS 0 (fun _ => 0) 0 0 _ (by omega) (fun h => absurd h (by omega)) (fun h => absurd h (by omega))).mono ?_
  rintro e w9 ⟨rfl, hb9⟩
  have HB9 := Lib.hid (belNext HB8.out hb9)
  clear hb9
  go_wp2_with fail
  refine (markIntS_none AG cG _).mono ?_
  rintro e w10 ⟨rfl, rfl⟩
  go_wp2_with fail
  refine (heldIntS_none AG cG _).mono ?_
  rintro e w10 ⟨rfl, rfl⟩
  go_wp2_with fail
  refine (HTS.out _ h1 HB9.out).mono ?_
  rintro e w11 ⟨rfl, ho11, hb11⟩
  have HB11 := Lib.hid (belNext HB9.out hb11)
  have OY11 := Lib.hid ho11
  clear ho11 hb11
  go_wp2_with fail
  refine (HI.out _ _ h1 H2.out HB11.out OY11.out).mono ?_
  rintro e w12 ⟨AH, cH, rfl, hb12⟩
  have HB12 := Lib.hid (belNext HB11.out hb12)
  clear hb12
  go_wp2_with fail
  refine (eqIntS_any AH AS cH cS 0 (fun _ => 0) 0 0 _ (by omega) (fun h => absurd h (by omega)) (fun h => absurd h (by omega))).mono ?_
  rintro e w13 ⟨rfl, hb13⟩
  have HB13 := Lib.hid (belNext HB12.out hb13)
  clear hb13
  go_wp2_with fail
  refine (heldIntS_none AG cG _).mono ?_
  rintro e w14 ⟨rfl, rfl⟩
  go_wp2_with fail
  go_ret
  exact ⟨rfl, HB13.out⟩
theorem fnExactCountTokens_walk (w : World) (A : Option Addr) (n c : Nat) (f : Nat → Tk) (hn : n ≤ maxLen) (hok : ∀ i, (f i).Ok) (hr : Seg w w.heap.size 4 A n fun i j => (f i).cell j) (hL : laidMetH Tryd.prog Rows.fnExactCountTokensRow.laid w) :
    Calls Tryd.prog 6 #[.slice A n c] w fun e w' => e = .returned (.bool true) ∧ Below w.heap.size w w' := by
  have hK := keyTab_of hL (by simp [Rows.fnExactCountTokensRow])
  have hG := signTab_of hL (by simp [Rows.fnExactCountTokensRow])
  cases hgd : goodB f n with
  | true => exact countTokens_yes w A n c f hn hok hr hK hG hgd
  | false => exact countTokens_no w A n c f hn hok hr hK hG hgd
end Go.Proofs.YtopolfibledmnaaDoor
