/-
  CountFaults, the program's and the reference's: both return the plain counts; the walk of FnExactCountFaults.
-/
import Derived.Test.YtdnncmhfmpiocaaFaultList
import Derived.Test.YtdnncmhfmpiocaaSliceOut
import Derived.Test.YtdnncmhfmpiocaaIntS
namespace Go.Proofs.Ytdnncmhfmpiocaa
open Go.RowKit
/-- How many of the first k faults are of kind i + 1. -/
def cntF (f : Nat → Nat → Int) : Nat → Nat → Int
  | 0, _ => 0
  | k + 1, i => cntF f k i + (if f k 0 = (i : Int) + 1 then 1 else 0)
theorem cntF_bd (f : Nat → Nat → Int) : ∀ (k i : Nat), 0 ≤ cntF f k i ∧ cntF f k i ≤ k
  | 0, _ => by simp [cntF]
  | k + 1, i => by
    have := cntF_bd f k i
    simp only [cntF]
    split <;> omega
theorem cntF_step (f : Nat → Nat → Int) (k i q : Nat) (h : f k 0 = (q : Int) + 1) : (if i = q then Value.int .i64 (cntF f k q + 1) else .int .i64 (cntF f k i)) = .int .i64 (cntF f (k + 1) i) := by
  by_cases e : i = q
  · subst e; rw [if_pos rfl, cntF, if_pos h]
  · rw [if_neg e, cntF, if_neg (by omega), Int.add_zero]
def cfM (f : Nat → Nat → Int) (n : Nat) : Nat := if fltsB f n then 7 else 0
theorem cfM_le (f : Nat → Nat → Int) (n : Nat) : cfM f n ≤ 7 := by unfold cfM; split <;> omega
set_option maxHeartbeats 2000000 in
theorem implCountFaults_any (g c n : Nat) (f : Nat → Nat → Int) (w : World) (_ : ∀ i j, -9223372036854775808 ≤ f i j ∧ f i j ≤ 9223372036854775807) (hn : n ≤ 1048576) (hown : OwnFaultS w g n f) :
    Calls Try.prog 21 #[.slice (some ⟨g, 0, none⟩) n c] w fun e w' => SliceOut w (cfM f n) (fun i => .int .i64 (cntF f n i)) (fltsB f n) e w' := by
  have HL := Lib.hid (areFaults_any g c n f w hn hown)
  have HC := Lib.hid hown
  clear hown
  by_cases h : fltsB f n = true
  · rw [cfM, if_pos h]
    obtain ⟨h40, hat⟩ := fltsB_at h
    have HAT := Lib.hid hat
    rw [h] at HL ⊢
    clear h hat
    have hmk : ∀ W : World, (Instr.makeSlice 41 (.int .i64 7) (.int .i64 7)).run Try.prog W = .ok (.slice (some ⟨W.heap.size, 0, none⟩) 7 7) (W.alloc (.cells (madeCells #[.int .i64 0] 7) 3)) := fun W => run_make_row' (P := Try.prog) 41 3 (.int .i64 0) 8 Try.underlying41 infoIntS rfl .i64 .i64 7 (by omega) (by omega) W
    go_enter Try.func21, Try.ntmps21
    go_wp2_with fail
    refine HL.out.mono ?_
    rintro e w1 ⟨rfl, hb1⟩
    have HB1 := Lib.hid hb1
    clear hb1
    go_wp2_with fail
    go_loopw [6, 13] (fun _ i wr => ∃ k : Nat, k ≤ n ∧ i = .int .i64 k ∧ Own wr w1.heap.size 7 (fun i => .int .i64 (cntF f k i)) ∧ Below w1.heap.size w1 wr) (fun _ i _ => n - (intOf i).toNat)
    case atStart => exact ⟨0, Nat.zero_le _, rfl, (Own.of_row (World.rowIs_made _ _ _ _)).congr (fun i _ => rfl), (Below.refl _ _).alloc (Nat.le_refl _) _⟩
    case round =>
      obtain ⟨k, hk, rfl, ho, hb⟩ := hrel
      have HO := Lib.hid ho
      have HB := Lib.hid hb
      by_cases hlt : k < n
      · obtain ⟨⟨q1, q2⟩, _, _⟩ := HAT.out k hlt
        obtain ⟨q, hq⟩ := Int.eq_ofNat_of_zero_le (show 0 ≤ f k 0 - 1 by omega)
        have hq7 : q < 7 := by omega
        have hq1 : f k 0 = (q : Int) + 1 := by omega
        obtain ⟨hw0, hw1⟩ := ((HC.out.later HB1.out).later HB.out).at_ hlt
        rw [hq1] at hw0
        have hgl : g < wr.heap.size := Nat.lt_of_lt_of_le HC.out.1 (Nat.le_trans HB1.out.size HB.out.size)
        have hg2 : w1.heap.size < wr.heap.size := ho.1
        have hcq := ho.cell hq7
        have hfq := ho.frozen hq7
        have hbd := cntF_bd f k q
        have HQ := Lib.hid hq1
        have hk41 : k < 41 := by omega
        clear ho hb hmk hq hq1 q1 q2
        go_wp2_with fail
        go_roundw
        case rel => exact ⟨k + 1, by omega, by go_num, ((HO.out.set hq7 _).congr (fun i _ => cntF_step f k i q HQ.out)).later (belAlloc (Below.refl _ _) _), belAlloc (HB.out.setCell (Nat.le_refl _) _) _⟩
        case measure => simp [intOf]; omega
      · have hkn : k = n := by omega
        have HK := Lib.hid hkn
        clear ho hb hmk hkn
        go_wp2_with fail
        go_ret2
        obtain rfl := HK.out
        exact ⟨_, _, rfl, fun _ => ⟨_, rfl, HB1.out.size, HO.out⟩, HB1.out.trans (HB.out.mono HB1.out.size)⟩
  · have h' : fltsB f n = false := by simpa using h
    rw [cfM, if_neg h]
    rw [h'] at HL ⊢
    clear h h'
    go_enter Try.func21, Try.ntmps21
    go_wp2_with fail
    refine HL.out.mono ?_
    rintro e w1 ⟨rfl, hb1⟩
    go_wp2_with fail
    go_ret2
    exact ⟨none, 0, rfl, fun h => absurd h (by omega), hb1⟩
set_option maxHeartbeats 2000000 in
theorem specCountFaults_any (g c n : Nat) (f : Nat → Nat → Int) (w : World) (_ : ∀ i j, -9223372036854775808 ≤ f i j ∧ f i j ≤ 9223372036854775807) (hn : n ≤ 1048576) (hown : OwnFaultS w g n f) :
    Calls Try.prog 20 #[.slice (some ⟨g, 0, none⟩) n c] w fun e w' => SliceOut w (cfM f n) (fun i => .int .i64 (cntF f n i)) (fltsB f n) e w' := by
  have HL := Lib.hid (erList_any g c n f w hn hown)
  have HC := Lib.hid hown
  clear hown
  by_cases h : fltsB f n = true
  · rw [cfM, if_pos h]
    obtain ⟨h40, hat⟩ := fltsB_at h
    have HAT := Lib.hid hat
    rw [h] at HL ⊢
    clear h hat
    have hmk : ∀ W : World, (Instr.makeSlice 41 (.int .i64 7) (.int .i64 7)).run Try.prog W = .ok (.slice (some ⟨W.heap.size, 0, none⟩) 7 7) (W.alloc (.cells (madeCells #[.int .i64 0] 7) 3)) := fun W => run_make_row' (P := Try.prog) 41 3 (.int .i64 0) 8 Try.underlying41 infoIntS rfl .i64 .i64 7 (by omega) (by omega) W
    go_enter Try.func20, Try.ntmps20
    go_wp2_with fail
    refine HL.out.mono ?_
    rintro e w1 ⟨rfl, hb1⟩
    have HB1 := Lib.hid hb1
    clear hb1
    go_wp2_with fail
    go_loopw [6, 13] (fun _ i wr => ∃ k : Nat, k ≤ n ∧ i = .int .i64 k ∧ Own wr w1.heap.size 7 (fun i => .int .i64 (cntF f k i)) ∧ Below w1.heap.size w1 wr) (fun _ i _ => n - (intOf i).toNat)
    case atStart => exact ⟨0, Nat.zero_le _, rfl, (Own.of_row (World.rowIs_made _ _ _ _)).congr (fun i _ => rfl), (Below.refl _ _).alloc (Nat.le_refl _) _⟩
    case round =>
      obtain ⟨k, hk, rfl, ho, hb⟩ := hrel
      have HO := Lib.hid ho
      have HB := Lib.hid hb
      by_cases hlt : k < n
      · obtain ⟨⟨q1, q2⟩, _, _⟩ := HAT.out k hlt
        obtain ⟨q, hq⟩ := Int.eq_ofNat_of_zero_le (show 0 ≤ f k 0 - 1 by omega)
        have hq7 : q < 7 := by omega
        have hq1 : f k 0 = (q : Int) + 1 := by omega
        obtain ⟨hw0, hw1⟩ := ((HC.out.later HB1.out).later HB.out).at_ hlt
        rw [hq1] at hw0
        have hgl : g < wr.heap.size := Nat.lt_of_lt_of_le HC.out.1 (Nat.le_trans HB1.out.size HB.out.size)
        have hg2 : w1.heap.size < wr.heap.size := ho.1
        have hcq := ho.cell hq7
        have hfq := ho.frozen hq7
        have hbd := cntF_bd f k q
        have HQ := Lib.hid hq1
        have hk41 : k < 41 := by omega
        clear ho hb hmk hq hq1 q1 q2
        go_wp2_with fail
        go_roundw
        case rel => exact ⟨k + 1, by omega, by go_num, ((HO.out.set hq7 _).congr (fun i _ => cntF_step f k i q HQ.out)).later (belAlloc (Below.refl _ _) _), belAlloc (HB.out.setCell (Nat.le_refl _) _) _⟩
        case measure => simp [intOf]; omega
      · have hkn : k = n := by omega
        have HK := Lib.hid hkn
        clear ho hb hmk hkn
        go_wp2_with fail
        go_ret2
        obtain rfl := HK.out
        exact ⟨_, _, rfl, fun _ => ⟨_, rfl, HB1.out.size, HO.out⟩, HB1.out.trans (HB.out.mono HB1.out.size)⟩
  · have h' : fltsB f n = false := by simpa using h
    rw [cfM, if_neg h]
    rw [h'] at HL ⊢
    clear h h'
    go_enter Try.func20, Try.ntmps20
    go_wp2_with fail
    refine HL.out.mono ?_
    rintro e w1 ⟨rfl, hb1⟩
    go_wp2_with fail
    go_ret2
    exact ⟨none, 0, rfl, fun h => absurd h (by omega), hb1⟩
set_option maxHeartbeats 4000000 in
theorem fnExactCountFaults_walk (w : World) (A : Option Addr) (n c : Nat) (f : Nat → Nat → Int) (hn : n ≤ maxLen) (hf : ∀ i j, -9223372036854775808 ≤ f i j ∧ f i j ≤ 9223372036854775807) (hr : Seg w w.heap.size 2 A n fun i j => .int .i64 (f i j))  :
    Calls Try.prog 7 #[.slice A n c] w fun e w' => e = .returned (.bool true) ∧ Below w.heap.size w w' := by
  unfold maxLen at hn
  have HF := Lib.hid hf
  have HR := Lib.hid hr
  clear hf hr
  by_cases hbig : 1048576 < (n : Int)
  · go_enter Try.func7, Try.ntmps7
    go_wp2_with (first | (go_at_call 14; refine (szFaultS_big _ _ _ _ (by omega) (by omega)).mono ?_; rintro e w0 ⟨rfl, rfl⟩) | (go_at_call 14; refine (szFaultS_small _ _ _ _ (by omega)).mono ?_; rintro e w0 ⟨rfl, rfl⟩))
    go_ret
    exact ⟨rfl, Below.refl _ _⟩
  have hM : cfM f n ≤ 1048576 := by have := cfM_le f n; omega
  have hS : ∀ (g c : Nat) (W : World), OwnFaultS W g n f → Calls Try.prog 20 #[.slice (some ⟨g, 0, none⟩) n c] W fun e w' => SliceOut W (cfM f n) (fun i => .int .i64 (cntF f n i)) (fltsB f n) e w' := fun g c W ho => specCountFaults_any g c n f W HF.out (by omega) ho
  have hI : ∀ (g c : Nat) (W : World), OwnFaultS W g n f → Calls Try.prog 21 #[.slice (some ⟨g, 0, none⟩) n c] W fun e w' => SliceOut W (cfM f n) (fun i => .int .i64 (cntF f n i)) (fltsB f n) e w' := fun g c W ho => implCountFaults_any g c n f W HF.out (by omega) ho
  generalize cfM f n = M at hM hS hI
  generalize fltsB f n = ok at hS hI
  generalize cntF f n = bf at hS hI
  have HS := Lib.hid hS
  have HI := Lib.hid hI
  clear hS hI
  go_enter Try.func7, Try.ntmps7
  go_wp2_with (first | (go_at_call 14; refine (szFaultS_big _ _ _ _ (by omega) (by omega)).mono ?_; rintro e w0 ⟨rfl, rfl⟩) | (go_at_call 14; refine (szFaultS_small _ _ _ _ (by omega)).mono ?_; rintro e w0 ⟨rfl, rfl⟩))
  refine (toFaultS_any A n c f _ (by omega) HR.out).mono ?_
  rintro e w1 ⟨rfl, hr1, hb1⟩
  have O1 := Lib.hid (hr1)
  have B1 := Lib.hid hb1
  clear hr1 hb1
  rcases Nat.eq_zero_or_pos M with rfl | hm
  · go_wp2_with fail
    refine ((HS.out _ _ _ O1.out).mono fun _ _ h => h.zero_).mono ?_
    rintro e w2 ⟨A1, c1, rfl, hb2⟩
    have B2 := Lib.hid (B1.out.trans (hb2.mono B1.out.size))
    clear hb2 O1
    go_wp2_with fail
    refine (toFaultS_any A n c f _ (by omega) ((HR.out.below B2.out).more B2.out.size)).mono ?_
    rintro e w3 ⟨rfl, hr2, hb3⟩
    have O2 := Lib.hid (hr2)
    have B3 := Lib.hid (B2.out.trans (hb3.mono B2.out.size))
    have hgX : w.heap.size ≤ w2.heap.size := B2.out.size
    clear hr2 hb3
    go_wp2_with fail
    refine ((HI.out _ _ _ O2.out).mono fun _ _ h => h.zero_).mono ?_
    rintro e w4 ⟨A2, c2, rfl, hb4⟩
    have O2 := Lib.hid (O2.out.later hb4)
    have B4 := Lib.hid (B3.out.trans (hb4.mono B3.out.size))
    clear hb4
    go_wp2_with fail
    refine (eqIntS_any A2 A1 c2 c1 0 (fun _ => 0) 0 0 _ (by omega) (fun h => absurd h (by omega)) (fun h => absurd h (by omega))).mono ?_
    rintro e w5 ⟨rfl, hb5⟩
    have O2 := Lib.hid (O2.out.later hb5)
    have B5 := Lib.hid (B4.out.trans (hb5.mono B4.out.size))
    clear hb5
    go_wp2_with fail
    refine (toFaultS_any A n c f _ (by omega) ((HR.out.below B5.out).more B5.out.size)).mono ?_
    rintro e w6 ⟨rfl, hr3, hb6⟩
    have O3 := Lib.hid (hr3)
    have O2 := Lib.hid (O2.out.later hb6)
    have B6 := Lib.hid (B5.out.trans (hb6.mono B5.out.size))
    clear hr3 hb6
    go_wp2_with fail
    refine (eqFaultS_any _ _ _ _ n f _ _ _ (by omega) O2.out.row O3.out.row).mono ?_
    rintro e w7 ⟨rfl, hb7⟩
    have O2 := Lib.hid (O2.out.later hb7)
    have B7 := Lib.hid (B6.out.trans (hb7.mono B6.out.size))
    clear hb7 O3
    go_wp2_with fail
    refine (markFaultS_own _ n _ f _ (by omega) O2.out).mono ?_
    rintro e w8 ⟨rfl, ho8, hb8, hs8, ht8⟩
    have B8 := Lib.hid (B7.out.trans (hb8 _ hgX))
    clear ho8 hb8 hs8 ht8 O2
    go_wp2_with fail
    refine (eqIntS_any A2 A1 c2 c1 0 (fun _ => 0) 0 0 _ (by omega) (fun h => absurd h (by omega)) (fun h => absurd h (by omega))).mono ?_
    rintro e w9 ⟨rfl, hb9⟩
    have B9 := Lib.hid (B8.out.trans (hb9.mono B8.out.size))
    clear hb9
    go_wp2_with fail
    refine (markIntS_none A2 c2 _).mono ?_
    rintro e w10 ⟨rfl, rfl⟩
    go_wp2_with fail
    refine (heldIntS_none A2 c2 _).mono ?_
    rintro e w10 ⟨rfl, rfl⟩
    go_wp2_with fail
    refine (toFaultS_any A n c f _ (by omega) ((HR.out.below B9.out).more B9.out.size)).mono ?_
    rintro e w11 ⟨rfl, hr4, hb11⟩
    have O4 := Lib.hid (hr4)
    have B11 := Lib.hid (B9.out.trans (hb11.mono B9.out.size))
    clear hr4 hb11
    go_wp2_with fail
    refine ((HI.out _ _ _ O4.out).mono fun _ _ h => h.zero_).mono ?_
    rintro e w12 ⟨A4, c4, rfl, hb12⟩
    have B12 := Lib.hid (B11.out.trans (hb12.mono B11.out.size))
    clear hb12
    go_wp2_with fail
    refine (eqIntS_any A4 A1 c4 c1 0 (fun _ => 0) 0 0 _ (by omega) (fun h => absurd h (by omega)) (fun h => absurd h (by omega))).mono ?_
    rintro e w13 ⟨rfl, hb13⟩
    have B13 := Lib.hid (B12.out.trans (hb13.mono B12.out.size))
    clear hb13
    go_wp2_with fail
    refine (heldIntS_none A2 c2 _).mono ?_
    rintro e w14 ⟨rfl, rfl⟩
    go_wp2_with fail
    go_ret
    exact ⟨rfl, B13.out⟩
  · go_wp2_with fail
    refine ((HS.out _ _ _ O1.out).mono fun _ _ h => h.some_ hm).mono ?_
    rintro e w2 ⟨gS, c1, rfl, hgS, hoS, hb2⟩
    have OS := Lib.hid hoS
    have B2 := Lib.hid (B1.out.trans (hb2.mono B1.out.size))
    clear hb2 hoS O1
    go_wp2_with fail
    refine (toFaultS_any A n c f _ (by omega) ((HR.out.below B2.out).more B2.out.size)).mono ?_
    rintro e w3 ⟨rfl, hr2, hb3⟩
    have O2 := Lib.hid (hr2)
    have hneSX : gS ≠ w2.heap.size := Nat.ne_of_lt OS.out.1
    have HSX := Lib.hid hneSX
    have OS := Lib.hid (OS.out.later hb3)
    have B3 := Lib.hid (B2.out.trans (hb3.mono B2.out.size))
    have hgX : w.heap.size ≤ w2.heap.size := B2.out.size
    clear hr2 hb3 hneSX
    go_wp2_with fail
    refine ((HI.out _ _ _ O2.out).mono fun _ _ h => h.some_ hm).mono ?_
    rintro e w4 ⟨gG, c2, rfl, hgG, hoG, hb4⟩
    have OG := Lib.hid hoG
    have hneGX : gG ≠ w2.heap.size := by have := O2.out.1; omega
    have HGX := Lib.hid hneGX
    have hneSG : gS ≠ gG := by have := OS.out.1; omega
    have HSG := Lib.hid hneSG
    have hgB : w.heap.size ≤ gG := Nat.le_trans B3.out.size hgG
    have O2 := Lib.hid (O2.out.later hb4)
    have OS := Lib.hid (OS.out.later hb4)
    have B4 := Lib.hid (B3.out.trans (hb4.mono B3.out.size))
    clear hb4 hoG hneGX hneSG
    go_wp2_with fail
    refine (eqIntS_any _ _ c2 c1 M bf _ _ _ hM OG.out.row OS.out.row).mono ?_
    rintro e w5 ⟨rfl, hb5⟩
    have O2 := Lib.hid (O2.out.later hb5)
    have OS := Lib.hid (OS.out.later hb5)
    have OG := Lib.hid (OG.out.later hb5)
    have B5 := Lib.hid (B4.out.trans (hb5.mono B4.out.size))
    clear hb5
    go_wp2_with fail
    refine (toFaultS_any A n c f _ (by omega) ((HR.out.below B5.out).more B5.out.size)).mono ?_
    rintro e w6 ⟨rfl, hr3, hb6⟩
    have O3 := Lib.hid (hr3)
    have O2 := Lib.hid (O2.out.later hb6)
    have OS := Lib.hid (OS.out.later hb6)
    have OG := Lib.hid (OG.out.later hb6)
    have B6 := Lib.hid (B5.out.trans (hb6.mono B5.out.size))
    clear hr3 hb6
    go_wp2_with fail
    refine (eqFaultS_any _ _ _ _ n f _ _ _ (by omega) O2.out.row O3.out.row).mono ?_
    rintro e w7 ⟨rfl, hb7⟩
    have O2 := Lib.hid (O2.out.later hb7)
    have OS := Lib.hid (OS.out.later hb7)
    have OG := Lib.hid (OG.out.later hb7)
    have B7 := Lib.hid (B6.out.trans (hb7.mono B6.out.size))
    clear hb7 O3
    go_wp2_with fail
    refine (markFaultS_own _ n _ f _ (by omega) O2.out).mono ?_
    rintro e w8 ⟨rfl, ho8, hb8, hs8, ht8⟩
    have OS := Lib.hid (OS.out.other hs8 (ht8 _ HSX.out))
    have OG := Lib.hid (OG.out.other hs8 (ht8 _ HGX.out))
    have B8 := Lib.hid (B7.out.trans (hb8 _ hgX))
    clear ho8 hb8 hs8 ht8 O2
    go_wp2_with fail
    refine (eqIntS_any _ _ c2 c1 M bf _ _ _ hM OG.out.row OS.out.row).mono ?_
    rintro e w9 ⟨rfl, hb9⟩
    have OS := Lib.hid (OS.out.later hb9)
    have OG := Lib.hid (OG.out.later hb9)
    have B9 := Lib.hid (B8.out.trans (hb9.mono B8.out.size))
    clear hb9
    go_wp2_with fail
    refine (markIntS_own gG M c2 bf _ hM OG.out).mono ?_
    rintro e w10 ⟨rfl, ho10, hb10, hs10, ht10⟩
    have OS := Lib.hid (OS.out.other hs10 (ht10 _ HSG.out))
    have OG := Lib.hid ho10
    have B10 := Lib.hid (B9.out.trans (hb10 _ hgB))
    clear ho10 hb10 hs10 ht10
    go_wp2_with fail
    refine (heldIntS_own gG M c2 _ _ hM OG.out).mono ?_
    rintro e w11 ⟨rfl, rfl⟩
    go_wp2_with fail
    refine (toFaultS_any A n c f _ (by omega) ((HR.out.below B10.out).more B10.out.size)).mono ?_
    rintro e w11 ⟨rfl, hr4, hb11⟩
    have O4 := Lib.hid (hr4)
    have OS := Lib.hid (OS.out.later hb11)
    have OG := Lib.hid (OG.out.later hb11)
    have B11 := Lib.hid (B10.out.trans (hb11.mono B10.out.size))
    clear hr4 hb11
    go_wp2_with fail
    refine ((HI.out _ _ _ O4.out).mono fun _ _ h => h.some_ hm).mono ?_
    rintro e w12 ⟨gH, c4, rfl, hgH, hoH, hb12⟩
    have OH := Lib.hid hoH
    have OS := Lib.hid (OS.out.later hb12)
    have OG := Lib.hid (OG.out.later hb12)
    have B12 := Lib.hid (B11.out.trans (hb12.mono B11.out.size))
    clear hb12 hoH O4
    go_wp2_with fail
    refine (eqIntS_any _ _ c4 c1 M bf _ _ _ hM OH.out.row OS.out.row).mono ?_
    rintro e w13 ⟨rfl, hb13⟩
    have OG := Lib.hid (OG.out.later hb13)
    have B13 := Lib.hid (B12.out.trans (hb13.mono B12.out.size))
    clear hb13
    go_wp2_with fail
    refine (heldIntS_own gG M c2 _ _ hM OG.out).mono ?_
    rintro e w14 ⟨rfl, rfl⟩
    go_wp2_with fail
    go_ret
    exact ⟨rfl, B13.out⟩
end Go.Proofs.Ytdnncmhfmpiocaa
