/-
  WriteLittle, the program's and the reference's: both return the bytes of the number, the lowest one first; the walk of FnExactWriteLittle.
-/
import Derived.Test.YtfddfhobkfkmiaaIn
import Derived.Test.YtfddfhobkfkmiaaBits
import Derived.Test.YtfddfhobkfkmiaaByteS
import Derived.Test.YtfddfhobkfkmiaaSliceOut
import Derived.Test.YtfddfhobkfkmiaaReadLittleWalk
namespace Go.Proofs.Ytfddfhobkfkmiaa
open Go.RowKit
/-- Byte i of a number. -/
def lbv (n : Nat) : Nat → Nat
  | 0 => n % 256
  | i + 1 => lbv (n / 256) i
def lbs (n : Nat) : Nat → Nat
  | 0 => n
  | i + 1 => lbs n i / 256
theorem lbv_lbs : ∀ (i n : Nat), lbv n i = lbs n i % 256
  | 0, n => rfl
  | i + 1, n => by
    have key : ∀ i n, lbs (n / 256) i = lbs n i / 256 := by
      intro i
      induction i with
      | zero => intro n; rfl
      | succ i ih => intro n; simp only [lbs]; rw [ih]
    rw [lbv, lbv_lbs i (n / 256), lbs, key]
theorem lbs_le (n : Nat) : ∀ i, lbs n i ≤ n
  | 0 => Nat.le_refl _
  | i + 1 => by have := lbs_le n i; unfold lbs; omega
def lbF (n : Nat) : Nat → Value := fun i => .int .u8 ((lbs n i : Int) % 256)
set_option maxHeartbeats 400000 in
theorem scWrite_any (n v : Nat) (w : World) (hn : n < 4294967296) (hv : v ≤ 4) :
    Calls Try.prog 56 #[.int .i64 n, .int .i64 v] w fun e w' => (∃ sv, e = .returned sv ∧ Grows w' w.heap.size 5 sv v (lbF n)) ∧ Below w.heap.size w w' := by
  obtain ⟨i0, hi, hz0, hz1, hz2⟩ := info_parts infoByteS
  go_enter Try.func56, Try.ntmps56
  go_wp2
  go_loopw [0, 1, 5] (fun x u sv wr => ∃ j : Nat, j ≤ v ∧ x = .int .i64 (lbs n j) ∧ u = .int .i64 ((v : Int) - j) ∧ Grows wr w.heap.size 5 sv j (lbF n) ∧ Below w.heap.size w wr) (fun _ u _ _ => (intOf u).toNat)
  case atStart => exact ⟨0, Nat.zero_le _, rfl, by simp, Grows.nil _ _ _ _, Below.refl _ _⟩
  case round =>
    obtain ⟨j, hj, rfl, rfl, hown, hb⟩ := hrel
    have hle := lbs_le n j
    have HB := Lib.hid hb
    have HO := Lib.hid hown
    have hsz := hb.size
    clear hb hown
    by_cases hlt : j < v
    · go_wp2_with (at_builtin; refine wpList_append_own _ rfl _ _ 30 rfl w.heap.size 5 i0 (.int .u8 0) 1 1 Try.underlying30 hi hz0 hz1 hz2 rfl (by decide) _ _ _ rfl (HO.out.alloc _) ⟨wr.heap.size, 0, none⟩ 1 1 [lbF n j] rfl rfl ?c1 ?c2 ?c3 ?c4 ?c5 ?_)
      case c1 => exact news_one _ _ _
      case c2 => intro u hu; simp at hu; subst hu; rfl
      case c3 => unfold maxLen; omega
      case c4 => omega
      case c5 => simp; omega
      intro v' w1 hown' hg hne
      have HO' := Lib.hid (Grows.snoc hown')
      have HB' := Lib.hid ((HB.out.alloc hsz _).grown hg (by simp; omega) (HO.out.ownBlock))
      clear hown' hg hne
      go_wp2
      go_roundw
      case rel => exact ⟨j + 1, by omega, by simp only [lbs]; go_num, by go_num, HO'.out, HB'.out⟩
      case measure => simp [intOf]; omega
    · have hjv : j = v := by omega
      have HJ := Lib.hid hjv
      clear hjv
      go_wp2
      go_ret
      obtain rfl := HJ.out
      exact ⟨⟨_, rfl, HO.out⟩, HB.out⟩
/-- The bound of a width. -/
def topV (v : Nat) : Int := if v = 1 then 256 else if v = 2 then 65536 else 4294967296
theorem scTop_any (v : Nat) (w : World) (hv : v = 1 ∨ v = 2 ∨ v = 4) : Calls Try.prog 55 #[.int .i64 v] w fun e w' => e = .returned (.int .i64 (topV v)) ∧ w = w' := by
  rcases hv with rfl | rfl | rfl
  all_goals
    go_enter Try.func55, Try.ntmps55
    go_wp2
    refine wp_loop_rounds 6 ?_
    repeat (rw [rounds_succ]; go_wp2)
    go_ret
    exact ⟨rfl, rfl⟩
set_option maxHeartbeats 400000 in
theorem implWriteLittle_1 (n : Nat) (w : World) (hn : n < 256) : Calls Try.prog 32 #[.int .i64 n, .int .i64 1] w fun e w' => SliceOut w 1 (lbF n) true e w' := by
  have hmk : ∀ W : World, (Instr.makeSlice 30 (.int .i64 1) (.int .i64 1)).run Try.prog W = .ok (.slice (some ⟨W.heap.size, 0, none⟩) 1 1) (W.alloc (.cells #[.int .u8 0] 5)) := fun _ => by kernel_rfl
  have hd1 : decide ((n : Int) < 0) = false := decide_eq_false (by omega)
  have hd2 : decide (256 ≤ (n : Int)) = false := decide_eq_false (by omega)
  go_enter Try.func32, Try.ntmps32
  go_wp2
  refine wp_loop_rounds 6 ?_
  repeat (rw [rounds_succ]; go_wp2)
  go_ret2
  refine ⟨_, _, rfl, fun _ => ⟨_, rfl, Nat.le_refl _, Own.lit _ _ _ _ _ fun i hi => ?_⟩, (Below.refl _ _).alloc (Nat.le_refl _) _⟩
  match i, hi with
  | 0, _ => first | (simp [lbF, lbs]; done) | (simp [lbF, lbs]; omega)
set_option maxHeartbeats 400000 in
theorem implWriteLittle_2 (n : Nat) (w : World) (hn : n < 65536) : Calls Try.prog 32 #[.int .i64 n, .int .i64 2] w fun e w' => SliceOut w 2 (lbF n) true e w' := by
  have hmk : ∀ W : World, (Instr.makeSlice 30 (.int .i64 2) (.int .i64 2)).run Try.prog W = .ok (.slice (some ⟨W.heap.size, 0, none⟩) 2 2) (W.alloc (.cells #[.int .u8 0, .int .u8 0] 5)) := fun _ => by kernel_rfl
  have hd1 : decide ((n : Int) < 0) = false := decide_eq_false (by omega)
  have hd2 : decide (65536 ≤ (n : Int)) = false := decide_eq_false (by omega)
  go_enter Try.func32, Try.ntmps32
  go_wp2
  refine wp_loop_rounds 6 ?_
  repeat (rw [rounds_succ]; go_wp2)
  go_ret2
  refine ⟨_, _, rfl, fun _ => ⟨_, rfl, Nat.le_refl _, Own.lit _ _ _ _ _ fun i hi => ?_⟩, (Below.refl _ _).alloc (Nat.le_refl _) _⟩
  match i, hi with
  | 0, _ => first | (simp [lbF, lbs]; done) | (simp [lbF, lbs]; omega)
  | 1, _ => first | (simp [lbF, lbs]; done) | (simp [lbF, lbs]; omega)
set_option maxHeartbeats 400000 in
theorem implWriteLittle_4 (n : Nat) (w : World) (hn : n < 4294967296) : Calls Try.prog 32 #[.int .i64 n, .int .i64 4] w fun e w' => SliceOut w 4 (lbF n) true e w' := by
  have hmk : ∀ W : World, (Instr.makeSlice 30 (.int .i64 4) (.int .i64 4)).run Try.prog W = .ok (.slice (some ⟨W.heap.size, 0, none⟩) 4 4) (W.alloc (.cells #[.int .u8 0, .int .u8 0, .int .u8 0, .int .u8 0] 5)) := fun _ => by kernel_rfl
  have hd1 : decide ((n : Int) < 0) = false := decide_eq_false (by omega)
  have hd2 : decide (4294967296 ≤ (n : Int)) = false := decide_eq_false (by omega)
  go_enter Try.func32, Try.ntmps32
  go_wp2
  refine wp_loop_rounds 6 ?_
  repeat (rw [rounds_succ]; go_wp2)
  go_ret2
  refine ⟨_, _, rfl, fun _ => ⟨_, rfl, Nat.le_refl _, Own.lit _ _ _ _ _ fun i hi => ?_⟩, (Below.refl _ _).alloc (Nat.le_refl _) _⟩
  match i, hi with
  | 0, _ => first | (simp [lbF, lbs]; done) | (simp [lbF, lbs]; omega)
  | 1, _ => first | (simp [lbF, lbs]; done) | (simp [lbF, lbs]; omega)
  | 2, _ => first | (simp [lbF, lbs]; done) | (simp [lbF, lbs]; omega)
  | 3, _ => first | (simp [lbF, lbs]; done) | (simp [lbF, lbs]; omega)
/-- When WriteLittle succeeds, and how many bytes it returns. -/
def wlOk (n v : Int) : Bool := decide ((v = 1 ∨ v = 2 ∨ v = 4) ∧ 0 ≤ n ∧ n < topV v.toNat)
def wlM (n v : Int) : Nat := if wlOk n v then v.toNat else 0
theorem wl_yes {n v : Int} (h : (v = 1 ∨ v = 2 ∨ v = 4) ∧ 0 ≤ n ∧ n < topV v.toNat) : wlOk n v = true ∧ wlM n v = v.toNat := by
  have : wlOk n v = true := decide_eq_true h
  exact ⟨this, by rw [wlM, if_pos this]⟩
theorem wl_no {n v : Int} (h : ¬ ((v = 1 ∨ v = 2 ∨ v = 4) ∧ 0 ≤ n ∧ n < topV v.toNat)) : wlOk n v = false ∧ wlM n v = 0 := by
  have : wlOk n v = false := decide_eq_false h
  exact ⟨this, by rw [wlM, if_neg (by simp [this])]⟩
set_option maxHeartbeats 1000000 in
theorem implWriteLittle_any (n v : Int) (w : World) : Calls Try.prog 32 #[.int .i64 n, .int .i64 v] w fun e w' => SliceOut w (wlM n v) (lbF n.toNat) (wlOk n v) e w' := by
  by_cases hok : (v = 1 ∨ v = 2 ∨ v = 4) ∧ 0 ≤ n ∧ n < topV v.toNat
  · rw [(wl_yes hok).1, (wl_yes hok).2]
    obtain ⟨hv, h0, h1⟩ := hok
    obtain ⟨x, rfl⟩ := Int.eq_ofNat_of_zero_le h0
    rcases hv with rfl | rfl | rfl
    · exact implWriteLittle_1 x w (by simp [topV] at h1; omega)
    · exact implWriteLittle_2 x w (by simp [topV] at h1; omega)
    · exact implWriteLittle_4 x w (by simp [topV] at h1; omega)
  · rw [(wl_no hok).1, (wl_no hok).2]
    by_cases hv : v = 1 ∨ v = 2 ∨ v = 4
    · have hn : n < 0 ∨ (0 ≤ n ∧ topV v.toNat ≤ n) := by
        by_cases h : n < 0
        · exact .inl h
        · exact .inr ⟨by omega, by have := fun h' => hok ⟨hv, by omega, h'⟩; omega⟩
      clear hok
      rcases hv with rfl | rfl | rfl
      all_goals
        simp [topV] at hn
        rcases hn with h | ⟨h, h'⟩
        · go_enter Try.func32, Try.ntmps32
          go_wp2
          go_ret2
          exact SliceOut.none_ _ _
        · have hd1 : decide (n < 0) = false := decide_eq_false (by omega)
          go_enter Try.func32, Try.ntmps32
          go_wp2
          go_ret2
          exact SliceOut.none_ _ _
    · have hW := Lib.hid (isWidth_no v (by omega) (by omega) (by omega) w)
      clear hok hv
      go_enter Try.func32, Try.ntmps32
      go_wp2_with (go_at_call 53; refine hW.out.mono ?_; rintro e w1 ⟨rfl, rfl⟩)
      go_ret2
      exact SliceOut.none_ _ _
set_option maxHeartbeats 1000000 in
theorem specWriteLittle_any (n v : Int) (w : World) : Calls Try.prog 31 #[.int .i64 n, .int .i64 v] w fun e w' => SliceOut w (wlM n v) (lbF n.toNat) (wlOk n v) e w' := by
  by_cases hok : (v = 1 ∨ v = 2 ∨ v = 4) ∧ 0 ≤ n ∧ n < topV v.toNat
  · rw [(wl_yes hok).1, (wl_yes hok).2]
    obtain ⟨hv, h0, h1⟩ := hok
    obtain ⟨x, rfl⟩ := Int.eq_ofNat_of_zero_le h0
    obtain ⟨y, rfl⟩ := Int.eq_ofNat_of_zero_le (show 0 ≤ v by omega)
    rw [Int.toNat_natCast] at h1 ⊢
    rw [Int.toNat_natCast]
    have hv' : y = 1 ∨ y = 2 ∨ y = 4 := by omega
    have htop : topV y ≤ 4294967296 := by unfold topV; split <;> (try split) <;> omega
    have hT := Lib.hid (scTop_any y w hv')
    have hW := Lib.hid (scWidth_any y hv' w)
    have hWr := Lib.hid (scWrite_any x y w (by omega) (by omega))
    clear hv hv'
    go_enter Try.func31, Try.ntmps31
    go_wp2_with (first | (go_at_call 43; refine (l1In_yes _ _ _ _ (by omega) (by omega)).mono ?_; rintro e w1 ⟨rfl, rfl⟩) | (go_at_call 43; refine (l1In_no _ _ _ _ (by omega)).mono ?_; rintro e w1 ⟨rfl, rfl⟩) | (go_at_call 51; refine hW.out.mono ?_; rintro e w1 ⟨rfl, rfl⟩) | (go_at_call 55; refine hT.out.mono ?_; rintro e w1 ⟨rfl, rfl⟩) | (go_at_call 56; refine hWr.out.mono ?_; rintro e w1 ⟨⟨sv, rfl, hg⟩, hb⟩))
    have HG := Lib.hid hg
    have HB := Lib.hid hb
    clear hg hb
    go_wp2
    go_ret2
    obtain ⟨A, c, rfl, hA⟩ := HG.out.form
    exact ⟨A, c, rfl, hA, HB.out⟩
  · rw [(wl_no hok).1, (wl_no hok).2]
    by_cases hv : v = 1 ∨ v = 2 ∨ v = 4
    · obtain ⟨y, rfl⟩ := Int.eq_ofNat_of_zero_le (show 0 ≤ v by omega)
      have hv' : y = 1 ∨ y = 2 ∨ y = 4 := by omega
      have hn : n < 0 ∨ topV y - 1 < n := by
        rw [Int.toNat_natCast] at hok
        by_cases h : n < 0
        · exact .inl h
        · exact .inr (by have := fun h' => hok ⟨hv, by omega, h'⟩; omega)
      have htop : 1 ≤ topV y ∧ topV y ≤ 4294967296 := by unfold topV; split <;> (try split) <;> omega
      have hT := Lib.hid (scTop_any y w hv')
      have hW := Lib.hid (scWidth_any y hv' w)
      clear hok hv hv'
      go_enter Try.func31, Try.ntmps31
      go_wp2_with (first | (go_at_call 43; refine (l1In_yes _ _ _ _ (by omega) (by omega)).mono ?_; rintro e w1 ⟨rfl, rfl⟩) | (go_at_call 43; refine (l1In_no _ _ _ _ (by omega)).mono ?_; rintro e w1 ⟨rfl, rfl⟩) | (go_at_call 51; refine hW.out.mono ?_; rintro e w1 ⟨rfl, rfl⟩) | (go_at_call 55; refine hT.out.mono ?_; rintro e w1 ⟨rfl, rfl⟩))
      go_ret2
      exact SliceOut.none_ _ _
    · have hW := Lib.hid (scWidth_no v (by omega) (by omega) (by omega) w)
      clear hok hv
      go_enter Try.func31, Try.ntmps31
      go_wp2_with (go_at_call 51; refine hW.out.mono ?_; rintro e w1 ⟨rfl, rfl⟩)
      go_ret2
      exact SliceOut.none_ _ _
theorem wlM_le (n v : Int) : wlM n v ≤ 4 := by
  unfold wlM wlOk
  split
  · rename_i h
    have := of_decide_eq_true h
    omega
  · omega
set_option maxHeartbeats 2000000 in
theorem fnExactWriteLittle_walk (n : Int) (_ : -9223372036854775808 ≤ n) (_ : n ≤ 9223372036854775807) (v : Int) (_ : -9223372036854775808 ≤ v) (_ : v ≤ 9223372036854775807) (w : World) :
    Calls Try.prog 10 #[.int .i64 n, .int .i64 v] w fun e w' => e = .returned (.bool true) ∧ Below w.heap.size w w' := by
  have hM : wlM n v ≤ 1048576 := by have := wlM_le n v; omega
  have hS : ∀ W : World, Calls Try.prog 31 #[.int .i64 n, .int .i64 v] W fun e w' => SliceOut W (wlM n v) (fun i => .int .u8 ((fun i => (lbs n.toNat i : Int) % 256) i)) (wlOk n v) e w' := fun W => specWriteLittle_any n v W
  have hI : ∀ W : World, Calls Try.prog 32 #[.int .i64 n, .int .i64 v] W fun e w' => SliceOut W (wlM n v) (fun i => .int .u8 ((fun i => (lbs n.toNat i : Int) % 256) i)) (wlOk n v) e w' := fun W => implWriteLittle_any n v W
  generalize wlM n v = M at hM hS hI
  generalize wlOk n v = ok at hS hI
  generalize (fun i => (lbs n.toNat i : Int) % 256) = bf at hS hI
  have HS := Lib.hid hS
  have HI := Lib.hid hI
  clear hS hI
  rcases Nat.eq_zero_or_pos M with rfl | hm
  · go_enter Try.func10, Try.ntmps10
    go_wp2_with fail
    refine ((HS.out _).mono fun _ _ h => h.zero_).mono ?_
    rintro e w1 ⟨A1, c1, rfl, hb1⟩
    have B1 := Lib.hid hb1
    clear hb1
    go_wp2_with fail
    refine ((HI.out _).mono fun _ _ h => h.zero_).mono ?_
    rintro e w2 ⟨A2, c2, rfl, hb2⟩
    have B2 := Lib.hid (B1.out.trans (hb2.mono B1.out.size))
    clear hb2
    go_wp2_with fail
    refine (eqByteS_any A2 A1 c2 c1 0 (fun _ => 0) 0 0 _ (by omega) (fun h => absurd h (by omega)) (fun h => absurd h (by omega))).mono ?_
    rintro e w3 ⟨rfl, hb3⟩
    have B3 := Lib.hid (B2.out.trans (hb3.mono B2.out.size))
    clear hb3
    go_wp2_with fail
    refine (markByteS_none A2 c2 _).mono ?_
    rintro e w4 ⟨rfl, rfl⟩
    go_wp2_with fail
    refine (heldByteS_none A2 c2 _).mono ?_
    rintro e w4 ⟨rfl, rfl⟩
    go_wp2_with fail
    refine ((HI.out _).mono fun _ _ h => h.zero_).mono ?_
    rintro e w4 ⟨A4, c4, rfl, hb4⟩
    have B4 := Lib.hid (B3.out.trans (hb4.mono B3.out.size))
    clear hb4
    go_wp2_with fail
    refine (eqByteS_any A4 A1 c4 c1 0 (fun _ => 0) 0 0 _ (by omega) (fun h => absurd h (by omega)) (fun h => absurd h (by omega))).mono ?_
    rintro e w5 ⟨rfl, hb5⟩
    have B5 := Lib.hid (B4.out.trans (hb5.mono B4.out.size))
    clear hb5
    go_wp2_with fail
    refine (heldByteS_none A2 c2 _).mono ?_
    rintro e w6 ⟨rfl, rfl⟩
    go_wp2_with fail
    go_ret
    exact ⟨rfl, B5.out⟩
  · go_enter Try.func10, Try.ntmps10
    go_wp2_with fail
    refine ((HS.out _).mono fun _ _ h => h.some_ hm).mono ?_
    rintro e w1 ⟨g1, c1, rfl, hg1, ho1, hb1⟩
    have B1 := Lib.hid hb1
    have O1 := Lib.hid ho1
    clear hb1 ho1
    go_wp2_with fail
    refine ((HI.out _).mono fun _ _ h => h.some_ hm).mono ?_
    rintro e w2 ⟨g2, c2, rfl, hg2, ho2, hb2⟩
    have hne : g1 ≠ g2 := by have := O1.out.1; omega
    have HNE := Lib.hid hne
    have hgB : w.heap.size ≤ g2 := Nat.le_trans B1.out.size hg2
    have O1' := Lib.hid (O1.out.later hb2)
    have O2 := Lib.hid ho2
    have B2 := Lib.hid (B1.out.trans (hb2.mono B1.out.size))
    clear hb2 ho2 hne
    go_wp2_with fail
    refine (eqByteS_any _ _ c2 c1 M bf _ _ _ hM O2.out.row O1'.out.row).mono ?_
    rintro e w3 ⟨rfl, hb3⟩
    have O1a := Lib.hid (O1'.out.later hb3)
    have O2a := Lib.hid (O2.out.later hb3)
    have B3 := Lib.hid (B2.out.trans (hb3.mono B2.out.size))
    clear hb3
    go_wp2_with fail
    refine (markByteS_own g2 M c2 bf _ hM O2a.out).mono ?_
    rintro e w4 ⟨rfl, ho4, hb4, hs4, ht4⟩
    have O1b := Lib.hid (O1a.out.other hs4 (ht4 g1 HNE.out))
    have O2b := Lib.hid ho4
    have B4 := Lib.hid (B3.out.trans (hb4 _ hgB))
    clear ho4 hb4 hs4 ht4
    go_wp2_with fail
    refine (heldByteS_own g2 M c2 _ _ hM O2b.out).mono ?_
    rintro e w5 ⟨rfl, rfl⟩
    go_wp2_with fail
    refine ((HI.out _).mono fun _ _ h => h.some_ hm).mono ?_
    rintro e w5 ⟨g3, c3, rfl, hg3, ho3, hb5⟩
    have O1c := Lib.hid (O1b.out.later hb5)
    have O2c := Lib.hid (O2b.out.later hb5)
    have O3 := Lib.hid ho3
    have B5 := Lib.hid (B4.out.trans (hb5.mono B4.out.size))
    clear hb5 ho3
    go_wp2_with fail
    refine (eqByteS_any _ _ c3 c1 M bf _ _ _ hM O3.out.row O1c.out.row).mono ?_
    rintro e w6 ⟨rfl, hb6⟩
    have O2d := Lib.hid (O2c.out.later hb6)
    have B6 := Lib.hid (B5.out.trans (hb6.mono B5.out.size))
    clear hb6
    go_wp2_with fail
    refine (heldByteS_own g2 M c2 _ _ hM O2d.out).mono ?_
    rintro e w7 ⟨rfl, rfl⟩
    go_wp2_with fail
    go_ret
    exact ⟨rfl, B6.out⟩
end Go.Proofs.Ytfddfhobkfkmiaa
