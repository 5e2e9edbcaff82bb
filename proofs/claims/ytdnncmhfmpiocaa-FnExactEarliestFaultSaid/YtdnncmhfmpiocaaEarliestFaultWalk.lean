/-
  EarliestFault, the program's and the reference's: both return the plain earliest fault; the walk of FnExactEarliestFault.
-/
import Derived.Test.YtdnncmhfmpiocaaFaultList
namespace Go.Proofs.Ytdnncmhfmpiocaa
open Go.RowKit
/-- Which of the first k faults is the earliest one. -/
def efI (f : Nat → Nat → Int) : Nat → Nat
  | 0 => 0
  | k + 1 => if f k 1 < f (efI f k) 1 ∨ (f k 1 = f (efI f k) 1 ∧ f k 0 < f (efI f k) 0) then k else efI f k
def efB (f : Nat → Nat → Int) (n : Nat) : Bool := fltsB f n && decide (0 < n)
def efK (f : Nat → Nat → Int) (n : Nat) : Int := if efB f n then f (efI f n) 0 else 0
def efA (f : Nat → Nat → Int) (n : Nat) : Int := if efB f n then f (efI f n) 1 else 0
theorem ef_cell {w w1 : World} {t : TypeId} (hb : Below (w.alloc (.cells #[.int .i64 0, .int .i64 0] t)).heap.size (w.alloc (.cells #[.int .i64 0, .int .i64 0] t)) w1) (i : Nat) (hi : i < 2) : w1.cell? ⟨w.heap.size, i, none⟩ = some (.int .i64 0) :=
  (hb.cell (p := ⟨w.heap.size, i, none⟩) (by simp)).trans ((World.cell?_alloc_at (hn := rfl) ..).trans (by match i, hi with | 0, _ => rfl | 1, _ => rfl))
theorem ef_frozen {w w1 : World} {t : TypeId} (hb : Below (w.alloc (.cells #[.int .i64 0, .int .i64 0] t)).heap.size (w.alloc (.cells #[.int .i64 0, .int .i64 0] t)) w1) (i : Nat) : w1.frozen? ⟨w.heap.size, i, none⟩ = false :=
  (hb.frozen (p := ⟨w.heap.size, i, none⟩) (by simp)).trans (World.frozen?_alloc_at (hn := rfl) ..)
theorem ef_own {w w1 : World} {t : TypeId} (hb : Below (w.alloc (.cells #[.int .i64 0, .int .i64 0] t)).heap.size (w.alloc (.cells #[.int .i64 0, .int .i64 0] t)) w1) : Own w1 w.heap.size 2 fun _ => .int .i64 0 :=
  ⟨Nat.lt_of_lt_of_le (by simp) hb.size, fun i hi => ⟨ef_cell hb i hi, ef_frozen hb i⟩⟩
theorem ef_below {w w1 : World} {o : Obj} (hb : Below (w.alloc o).heap.size (w.alloc o) w1) : Below w.heap.size w w1 := belNext (belAlloc (Below.refl _ _) o) hb
theorem set2 {W : World} {R : Nat} {F : Nat → Value} (h : Own W R 2 F) (a b : Value) : ((W.setCell ⟨R, 0, none⟩ a).setCell ⟨R, 1, none⟩ b).cell? ⟨R, 0, none⟩ = some a ∧ ((W.setCell ⟨R, 0, none⟩ a).setCell ⟨R, 1, none⟩ b).cell? ⟨R, 1, none⟩ = some b := by
  have h2 := (h.set (i := 0) (by omega) a).set (i := 1) (by omega) b
  exact ⟨by simpa using h2.cell (i := 0) (by omega), by simpa using h2.cell (i := 1) (by omega)⟩
theorem Own.of_two (w : World) (x y : Value) (t : TypeId) (F : Nat → Value) (h0 : x = F 0) (h1 : y = F 1) : Own (w.alloc (.cells #[x, y] t)) w.heap.size 2 F := by
  refine ⟨by simp, fun i hi => ⟨(World.cell?_alloc_at (hn := rfl) ..).trans ?_, World.frozen?_alloc_at (hn := rfl) ..⟩⟩
  match i, hi with
  | 0, _ => simp [h0]
  | 1, _ => simp [h1]
theorem ef_new {W : World} {G k b : Nat} {f : Nat → Nat → Int} (h : Own W G 2 fun j => .int .i64 (f b j)) {m : Nat} (hm : m = k) : Own ((W.setCell ⟨G, 0, none⟩ (.int .i64 (f k 0))).setCell ⟨G, 1, none⟩ (.int .i64 (f k 1))) G 2 fun j => .int .i64 (f m j) := by
  subst hm
  refine ((h.set (i := 0) (by omega) (.int .i64 (f m 0))).set (i := 1) (by omega) (.int .i64 (f m 1))).congr fun i hi => ?_
  match i, hi with
  | 0, _ => rfl
  | 1, _ => rfl
theorem ef_cases (f : Nat → Nat → Int) (k : Nat) : (f k 1 < f (efI f k) 1 ∧ efI f (k + 1) = k) ∨ (¬ f k 1 < f (efI f k) 1 ∧ f k 1 = f (efI f k) 1 ∧ f k 0 < f (efI f k) 0 ∧ efI f (k + 1) = k) ∨ (¬ f k 1 < f (efI f k) 1 ∧ f k 1 ≠ f (efI f k) 1 ∧ efI f (k + 1) = efI f k) ∨ (¬ f k 1 < f (efI f k) 1 ∧ f k 1 = f (efI f k) 1 ∧ ¬ f k 0 < f (efI f k) 0 ∧ efI f (k + 1) = efI f k) := by
  by_cases h1 : f k 1 < f (efI f k) 1
  · exact .inl ⟨h1, by rw [efI, if_pos (.inl h1)]⟩
  by_cases h2 : f k 1 = f (efI f k) 1
  · by_cases h3 : f k 0 < f (efI f k) 0
    · exact .inr (.inl ⟨h1, h2, h3, by rw [efI, if_pos (.inr ⟨h2, h3⟩)]⟩)
    · exact .inr (.inr (.inr ⟨h1, h2, h3, by rw [efI, if_neg (by omega)]⟩))
  · exact .inr (.inr (.inl ⟨h1, h2, by rw [efI, if_neg (by omega)]⟩))
set_option maxHeartbeats 4000000 in
theorem specEarliestFault_any (g c n : Nat) (f : Nat → Nat → Int) (w : World) (hf : ∀ i j, -9223372036854775808 ≤ f i j ∧ f i j ≤ 9223372036854775807) (hn : n ≤ 1048576) (hown : OwnFaultS w g n f) :
    Calls Try.prog 15 #[.slice (some ⟨g, 0, none⟩) n c] w fun e w' => e = .returned (.tuple #[.agg #[.int .i64 (efK f n), .int .i64 (efA f n)], .bool (efB f n)]) ∧ Below w.heap.size w w' := by
  have HL : Hid (∀ W, OwnFaultS W g n f → _) := fun W ho => erList_any g c n f W hn ho
  have HC := Lib.hid hown
  have HF := Lib.hid hf
  have hgw : g < w.heap.size := hown.1
  clear hown hf
  have HZ : Hid (OwnFaultS (w.alloc (.cells #[.int .i64 0, .int .i64 0] 26)) g n f) := OwnFaultS.later HC.out (belAlloc (Below.refl _ _) _)
  by_cases h : fltsB f n = true
  rotate_left
  · have h' : fltsB f n = false := by simpa using h
    rw [efK, efA, show efB f n = false by rw [efB, h', Bool.false_and], if_neg (by simp), if_neg (by simp)]
    rw [h'] at HL
    clear h h'
    go_enter Try.func15, Try.ntmps15
    go_wp2_with fail
    refine (HL.out _ HZ.out).mono ?_
    rintro e w1 ⟨rfl, hb1⟩
    have HB1 := Lib.hid hb1
    have r0 := ef_cell hb1 0 (by omega)
    have r1 := ef_cell hb1 1 (by omega)
    have p0 := ef_frozen hb1 0
    have p1 := ef_frozen hb1 1
    clear hb1
    go_wp2_with fail
    have HR : Hid (Own w1 w.heap.size 2 fun _ => .int .i64 0) := ef_own HB1.out
    obtain ⟨c0, c1⟩ := set2 HR.out (.int .i64 0) (.int .i64 0)
    exact bodyPost_ret (v := .tuple #[.agg #[.int .i64 0, .int .i64 0], .bool false]) (by simp [results, Try.results15, go_sem, c0, c1]) rfl ⟨rfl, ((ef_below HB1.out).setCell (Nat.le_refl _) _).setCell (Nat.le_refl _) _⟩
  obtain ⟨h40, hat⟩ := fltsB_at h
  rcases Nat.eq_zero_or_pos n with hz | hpos
  · rw [efK, efA, show efB f n = false by rw [efB, decide_eq_false (by omega), Bool.and_false], if_neg (by simp), if_neg (by simp)]
    rw [h] at HL
    have hz0 : ((n : Int) == 0) = true := by simp; omega
    have hz1 : (n == 0) = true := by simp; omega
    have HN := Lib.hid hz
    clear h hat hz
    go_enter Try.func15, Try.ntmps15
    go_wp2_with fail
    refine (HL.out _ HZ.out).mono ?_
    rintro e w1 ⟨rfl, hb1⟩
    have HB1 := Lib.hid hb1
    have r0 := ef_cell hb1 0 (by omega)
    have r1 := ef_cell hb1 1 (by omega)
    have p0 := ef_frozen hb1 0
    have p1 := ef_frozen hb1 1
    clear hb1
    go_wp2_with fail
    have HR : Hid (Own w1 w.heap.size 2 fun _ => .int .i64 0) := ef_own HB1.out
    obtain ⟨c0, c1⟩ := set2 HR.out (.int .i64 0) (.int .i64 0)
    exact bodyPost_ret (v := .tuple #[.agg #[.int .i64 0, .int .i64 0], .bool false]) (by simp [results, Try.results15, go_sem, c0, c1]) rfl ⟨rfl, ((ef_below HB1.out).setCell (Nat.le_refl _) _).setCell (Nat.le_refl _) _⟩
  have hok : efB f n = true := by rw [efB, h, decide_eq_true hpos]; rfl
  rw [efK, efA, hok, if_pos rfl, if_pos rfl]
  rw [h] at HL
  have hz0 : ((n : Int) == 0) = false := by simp; omega
  have hz1 : (n == 0) = false := by simp; omega
  have hpi : 0 < (n : Int) := by omega
  clear h hat hok
  go_enter Try.func15, Try.ntmps15
  go_wp2_with fail
  refine (HL.out _ HZ.out).mono ?_
  rintro e w1 ⟨rfl, hb1⟩
  have HB1 := Lib.hid hb1
  have HO1 := Lib.hid (OwnFaultS.later HZ.out hb1)
  obtain ⟨u0, u1⟩ := HO1.out.at_ hpos
  simp only [Nat.zero_mul, Nat.zero_add] at u0 u1
  clear hb1
  go_wp2_with fail
  go_loopw [6, 21] (fun _ i wr => ∃ k : Nat, k ≤ n ∧ i = .int .i64 k ∧ Own wr w1.heap.size 2 (fun j => .int .i64 (f (efI f k) j)) ∧ Below w1.heap.size w1 wr) (fun _ i _ => n - (intOf i).toNat)
  case atStart => exact ⟨0, Nat.zero_le _, rfl, Own.of_two _ _ _ _ _ rfl rfl, (Below.refl _ _).alloc (Nat.le_refl _) _⟩
  case round =>
    obtain ⟨k, hk, rfl, ho, hb⟩ := hrel
    have HO := Lib.hid ho
    have HB := Lib.hid hb
    have b0 := ho.cell (i := 0) (by omega)
    have b1 := ho.cell (i := 1) (by omega)
    have hg2 : w1.heap.size < wr.heap.size := ho.1
    by_cases hlt : k < n
    · obtain ⟨v0, v1⟩ := (HO1.out.later HB.out).at_ hlt
      have hgl : g < wr.heap.size := Nat.lt_of_lt_of_le HO1.out.1 HB.out.size
      have fz0 := ho.frozen (i := 0) (by omega)
      have fz1 := ho.frozen (i := 1) (by omega)
      rcases ef_cases f k with ⟨q1, q⟩ | ⟨q1, q2, q3, q⟩ | ⟨q1, q2, q⟩ | ⟨q1, q2, q3, q⟩
      · have HQ := Lib.hid q
        clear ho hb q u0 u1
        go_wp2_with fail
        go_roundw
        case rel => exact ⟨k + 1, by omega, by go_num, (ef_new HO.out HQ.out).later (belAlloc (Below.refl _ _) _), belAlloc ((HB.out.setCell (Nat.le_refl _) _).setCell (Nat.le_refl _) _) _⟩
        case measure => simp [intOf]; omega
      · have HQ := Lib.hid q
        have d1 : decide (f k 1 < f (efI f k) 1) = false := decide_eq_false q1
        have e1 : (f k 1 == f (efI f k) 1) = true := by simpa using q2
        clear ho hb q u0 u1 q1 q2
        go_wp2_with fail
        go_roundw
        case rel => exact ⟨k + 1, by omega, by go_num, (ef_new HO.out HQ.out).later (belAlloc (Below.refl _ _) _), belAlloc ((HB.out.setCell (Nat.le_refl _) _).setCell (Nat.le_refl _) _) _⟩
        case measure => simp [intOf]; omega
      · have HQ := Lib.hid q
        have d1 : decide (f k 1 < f (efI f k) 1) = false := decide_eq_false q1
        have e1 : (f k 1 == f (efI f k) 1) = false := by simpa using q2
        clear ho hb q u0 u1 q1 q2
        go_wp2_with fail
        go_roundw
        case rel => exact ⟨k + 1, by omega, by go_num, by rw [HQ.out]; exact HO.out.later (belAlloc (Below.refl _ _) _), belAlloc HB.out _⟩
        case measure => simp [intOf]; omega
      · have HQ := Lib.hid q
        have d1 : decide (f k 1 < f (efI f k) 1) = false := decide_eq_false q1
        have e1 : (f k 1 == f (efI f k) 1) = true := by simpa using q2
        have d3 : decide (f k 0 < f (efI f k) 0) = false := decide_eq_false q3
        clear ho hb q u0 u1 q1 q2 q3
        go_wp2_with fail
        go_roundw
        case rel => exact ⟨k + 1, by omega, by go_num, by rw [HQ.out]; exact HO.out.later (belAlloc (Below.refl _ _) _), belAlloc HB.out _⟩
        case measure => simp [intOf]; omega
    · have HK := Lib.hid (show k = n by omega)
      have HR : Hid (Own wr w.heap.size 2 fun _ => .int .i64 0) := (ef_own HB1.out).later HB.out
      have r0 := HR.out.cell (i := 0) (by omega)
      have r1 := HR.out.cell (i := 1) (by omega)
      have p0 := HR.out.frozen (i := 0) (by omega)
      have p1 := HR.out.frozen (i := 1) (by omega)
      clear ho hb u0 u1
      go_wp2_with fail
      obtain ⟨c0, c1⟩ := set2 HR.out (.int .i64 (f (efI f k) 0)) (.int .i64 (f (efI f k) 1))
      refine bodyPost_ret (v := .tuple #[.agg #[.int .i64 (f (efI f k) 0), .int .i64 (f (efI f k) 1)], .bool true]) (by simp [results, Try.results15, go_sem, c0, c1]) rfl ⟨?_, ((belNext (ef_below HB1.out) HB.out).setCell (Nat.le_refl _) _).setCell (Nat.le_refl _) _⟩
      obtain rfl := HK.out
      rfl
set_option maxHeartbeats 4000000 in
theorem implEarliestFault_any (g c n : Nat) (f : Nat → Nat → Int) (w : World) (hf : ∀ i j, -9223372036854775808 ≤ f i j ∧ f i j ≤ 9223372036854775807) (hn : n ≤ 1048576) (hown : OwnFaultS w g n f) :
    Calls Try.prog 17 #[.slice (some ⟨g, 0, none⟩) n c] w fun e w' => e = .returned (.tuple #[.agg #[.int .i64 (efK f n), .int .i64 (efA f n)], .bool (efB f n)]) ∧ Below w.heap.size w w' := by
  have HL : Hid (∀ W, OwnFaultS W g n f → _) := fun W ho => areFaults_any g c n f W hn ho
  have HC := Lib.hid hown
  have HF := Lib.hid hf
  have hgw : g < w.heap.size := hown.1
  clear hown hf
  have HZ : Hid (OwnFaultS (w.alloc (.cells #[.int .i64 0, .int .i64 0] 26)) g n f) := OwnFaultS.later HC.out (belAlloc (Below.refl _ _) _)
  by_cases h : fltsB f n = true
  rotate_left
  · have h' : fltsB f n = false := by simpa using h
    rw [efK, efA, show efB f n = false by rw [efB, h', Bool.false_and], if_neg (by simp), if_neg (by simp)]
    rw [h'] at HL
    clear h h'
    go_enter Try.func17, Try.ntmps17
    go_wp2_with fail
    refine (HL.out _ HZ.out).mono ?_
    rintro e w1 ⟨rfl, hb1⟩
    have HB1 := Lib.hid hb1
    have r0 := ef_cell hb1 0 (by omega)
    have r1 := ef_cell hb1 1 (by omega)
    have p0 := ef_frozen hb1 0
    have p1 := ef_frozen hb1 1
    clear hb1
    go_wp2_with fail
    have HR : Hid (Own w1 w.heap.size 2 fun _ => .int .i64 0) := ef_own HB1.out
    obtain ⟨c0, c1⟩ := set2 HR.out (.int .i64 0) (.int .i64 0)
    exact bodyPost_ret (v := .tuple #[.agg #[.int .i64 0, .int .i64 0], .bool false]) (by simp [results, Try.results17, go_sem, c0, c1]) rfl ⟨rfl, ((ef_below HB1.out).setCell (Nat.le_refl _) _).setCell (Nat.le_refl _) _⟩
  obtain ⟨h40, hat⟩ := fltsB_at h
  rcases Nat.eq_zero_or_pos n with hz | hpos
  · rw [efK, efA, show efB f n = false by rw [efB, decide_eq_false (by omega), Bool.and_false], if_neg (by simp), if_neg (by simp)]
    rw [h] at HL
    have hz0 : ((n : Int) == 0) = true := by simp; omega
    have hz1 : (n == 0) = true := by simp; omega
    have HN := Lib.hid hz
    clear h hat hz
    go_enter Try.func17, Try.ntmps17
    go_wp2_with fail
    refine (HL.out _ HZ.out).mono ?_
    rintro e w1 ⟨rfl, hb1⟩
    have HB1 := Lib.hid hb1
    have r0 := ef_cell hb1 0 (by omega)
    have r1 := ef_cell hb1 1 (by omega)
    have p0 := ef_frozen hb1 0
    have p1 := ef_frozen hb1 1
    clear hb1
    go_wp2_with fail
    have HR : Hid (Own w1 w.heap.size 2 fun _ => .int .i64 0) := ef_own HB1.out
    obtain ⟨c0, c1⟩ := set2 HR.out (.int .i64 0) (.int .i64 0)
    exact bodyPost_ret (v := .tuple #[.agg #[.int .i64 0, .int .i64 0], .bool false]) (by simp [results, Try.results17, go_sem, c0, c1]) rfl ⟨rfl, ((ef_below HB1.out).setCell (Nat.le_refl _) _).setCell (Nat.le_refl _) _⟩
  have hok : efB f n = true := by rw [efB, h, decide_eq_true hpos]; rfl
  rw [efK, efA, hok, if_pos rfl, if_pos rfl]
  rw [h] at HL
  have hz0 : ((n : Int) == 0) = false := by simp; omega
  have hz1 : (n == 0) = false := by simp; omega
  have hpi : 0 < (n : Int) := by omega
  clear h hat hok
  go_enter Try.func17, Try.ntmps17
  go_wp2_with fail
  refine (HL.out _ HZ.out).mono ?_
  rintro e w1 ⟨rfl, hb1⟩
  have HB1 := Lib.hid hb1
  have HO1 := Lib.hid (OwnFaultS.later HZ.out hb1)
  obtain ⟨u0, u1⟩ := HO1.out.at_ hpos
  simp only [Nat.zero_mul, Nat.zero_add] at u0 u1
  clear hb1
  go_wp2_with fail
  go_loopw [6, 21] (fun _ i wr => ∃ k : Nat, k ≤ n ∧ i = .int .i64 k ∧ Own wr w1.heap.size 2 (fun j => .int .i64 (f (efI f k) j)) ∧ Below w1.heap.size w1 wr) (fun _ i _ => n - (intOf i).toNat)
  case atStart => exact ⟨0, Nat.zero_le _, rfl, Own.of_two _ _ _ _ _ rfl rfl, (Below.refl _ _).alloc (Nat.le_refl _) _⟩
  case round =>
    obtain ⟨k, hk, rfl, ho, hb⟩ := hrel
    have HO := Lib.hid ho
    have HB := Lib.hid hb
    have b0 := ho.cell (i := 0) (by omega)
    have b1 := ho.cell (i := 1) (by omega)
    have hg2 : w1.heap.size < wr.heap.size := ho.1
    by_cases hlt : k < n
    · obtain ⟨v0, v1⟩ := (HO1.out.later HB.out).at_ hlt
      have hgl : g < wr.heap.size := Nat.lt_of_lt_of_le HO1.out.1 HB.out.size
      have fz0 := ho.frozen (i := 0) (by omega)
      have fz1 := ho.frozen (i := 1) (by omega)
      rcases ef_cases f k with ⟨q1, q⟩ | ⟨q1, q2, q3, q⟩ | ⟨q1, q2, q⟩ | ⟨q1, q2, q3, q⟩
      · have HQ := Lib.hid q
        clear ho hb q u0 u1
        go_wp2_with fail
        go_roundw
        case rel => exact ⟨k + 1, by omega, by go_num, (ef_new HO.out HQ.out).later (belAlloc (Below.refl _ _) _), belAlloc ((HB.out.setCell (Nat.le_refl _) _).setCell (Nat.le_refl _) _) _⟩
        case measure => simp [intOf]; omega
      · have HQ := Lib.hid q
        have d1 : decide (f k 1 < f (efI f k) 1) = false := decide_eq_false q1
        have e1 : (f k 1 == f (efI f k) 1) = true := by simpa using q2
        clear ho hb q u0 u1 q1 q2
        go_wp2_with fail
        go_roundw
        case rel => exact ⟨k + 1, by omega, by go_num, (ef_new HO.out HQ.out).later (belAlloc (Below.refl _ _) _), belAlloc ((HB.out.setCell (Nat.le_refl _) _).setCell (Nat.le_refl _) _) _⟩
        case measure => simp [intOf]; omega
      · have HQ := Lib.hid q
        have d1 : decide (f k 1 < f (efI f k) 1) = false := decide_eq_false q1
        have e1 : (f k 1 == f (efI f k) 1) = false := by simpa using q2
        clear ho hb q u0 u1 q1 q2
        go_wp2_with fail
        go_roundw
        case rel => exact ⟨k + 1, by omega, by go_num, by rw [HQ.out]; exact HO.out.later (belAlloc (Below.refl _ _) _), belAlloc HB.out _⟩
        case measure => simp [intOf]; omega
      · have HQ := Lib.hid q
        have d1 : decide (f k 1 < f (efI f k) 1) = false := decide_eq_false q1
        have e1 : (f k 1 == f (efI f k) 1) = true := by simpa using q2
        have d3 : decide (f k 0 < f (efI f k) 0) = false := decide_eq_false q3
        clear ho hb q u0 u1 q1 q2 q3
        go_wp2_with fail
        go_roundw
        case rel => exact ⟨k + 1, by omega, by go_num, by rw [HQ.out]; exact HO.out.later (belAlloc (Below.refl _ _) _), belAlloc HB.out _⟩
        case measure => simp [intOf]; omega
    · have HK := Lib.hid (show k = n by omega)
      have HR : Hid (Own wr w.heap.size 2 fun _ => .int .i64 0) := (ef_own HB1.out).later HB.out
      have r0 := HR.out.cell (i := 0) (by omega)
      have r1 := HR.out.cell (i := 1) (by omega)
      have p0 := HR.out.frozen (i := 0) (by omega)
      have p1 := HR.out.frozen (i := 1) (by omega)
      clear ho hb u0 u1
      go_wp2_with fail
      obtain ⟨c0, c1⟩ := set2 HR.out (.int .i64 (f (efI f k) 0)) (.int .i64 (f (efI f k) 1))
      refine bodyPost_ret (v := .tuple #[.agg #[.int .i64 (f (efI f k) 0), .int .i64 (f (efI f k) 1)], .bool true]) (by simp [results, Try.results17, go_sem, c0, c1]) rfl ⟨?_, ((belNext (ef_below HB1.out) HB.out).setCell (Nat.le_refl _) _).setCell (Nat.le_refl _) _⟩
      obtain rfl := HK.out
      rfl
set_option maxHeartbeats 2000000 in
theorem fnExactEarliestFault_walk (w : World) (A : Option Addr) (n c : Nat) (f : Nat → Nat → Int) (hn : n ≤ maxLen) (hf : ∀ i j, -9223372036854775808 ≤ f i j ∧ f i j ≤ 9223372036854775807) (hr : Seg w w.heap.size 2 A n fun i j => .int .i64 (f i j)) :
    Calls Try.prog 6 #[.slice A n c] w fun e w' => e = .returned (.bool true) ∧ Below w.heap.size w w' := by
  unfold maxLen at hn
  have HF := Lib.hid hf
  have HR := Lib.hid hr
  clear hf hr
  by_cases hbig : 1048576 < (n : Int)
  · go_enter Try.func6, Try.ntmps6
    go_wp2_with (go_at_call 14; refine (szFaultS_big _ _ _ _ (by omega) (by omega)).mono ?_; rintro e w0 ⟨rfl, rfl⟩)
    go_ret
    exact ⟨rfl, Below.refl _ _⟩
  · have HS : Hid (∀ (g c : Nat) (W : World), OwnFaultS W g n f → _) := fun g c W ho => specEarliestFault_any g c n f W HF.out (by omega) ho
    have HI : Hid (∀ (g c : Nat) (W : World), OwnFaultS W g n f → _) := fun g c W ho => implEarliestFault_any g c n f W HF.out (by omega) ho
    generalize efK f n = K at HS HI
    generalize efA f n = At at HS HI
    generalize efB f n = ok at HS HI
    go_enter Try.func6, Try.ntmps6
    go_wp2_with (go_at_call 14; refine (szFaultS_small _ _ _ _ (by omega)).mono ?_; rintro e w0 ⟨rfl, rfl⟩)
    refine (toFaultS_any A n c f _ (by omega) HR.out).mono ?_
    rintro e w1 ⟨rfl, ho1, hb1⟩
    have O1 := Lib.hid ho1
    have B1 := Lib.hid hb1
    clear ho1 hb1
    go_wp2_with fail
    refine (HS.out _ _ _ O1.out).mono ?_
    rintro e w2 ⟨rfl, hbs⟩
    have B2 := Lib.hid (belNext B1.out hbs)
    clear hbs O1
    go_wp2_with fail
    have BA := Lib.hid (belAlloc B2.out (.cells #[.int .i64 K, .int .i64 At] 26))
    refine (toFaultS_any A n c f _ (by omega) ((HR.out.below BA.out).more BA.out.size)).mono ?_
    rintro e w3 ⟨rfl, ho3, hb3⟩
    rw [show (w2.alloc (.cells #[.int .i64 K, .int .i64 At] 26)).heap.size = w2.heap.size + 1 by simp] at ho3
    have O3 := Lib.hid ho3
    have P3 := Lib.hid hb3
    have B3 := Lib.hid (belNext BA.out hb3)
    clear ho3 hb3
    go_wp2_with fail
    refine (HI.out _ _ _ O3.out).mono ?_
    rintro e w4 ⟨rfl, hbs⟩
    have O4 := Lib.hid (O3.out.later hbs)
    have B4 := Lib.hid (belNext B3.out hbs)
    have P4 := Lib.hid ((Own.of_two w2 (.int .i64 K) (.int .i64 At) 26 (fun j => if j = 0 then .int .i64 K else .int .i64 At) rfl rfl).later (belNext P3.out hbs))
    have c0 : w4.cell? ⟨w2.heap.size, 0, none⟩ = some (.int .i64 K) := P4.out.cell (i := 0) (by omega)
    have c1 : w4.cell? ⟨w2.heap.size, 1, none⟩ = some (.int .i64 At) := P4.out.cell (i := 1) (by omega)
    have hlt : w2.heap.size < w4.heap.size := P4.out.1
    clear hbs
    go_wp2_with fail
    refine (eqFault_bel K At _).mono ?_
    rintro e w5 ⟨rfl, hb5⟩
    have O5 := Lib.hid ((O4.out.later (belAlloc (Below.refl _ _) (.cells #[.int .i64 K, .int .i64 At] 26))).later hb5)
    have B5 := Lib.hid (belNext (belAlloc B4.out (.cells #[.int .i64 K, .int .i64 At] 26)) hb5)
    clear hb5 c0 c1 hlt
    go_wp2_with fail
    refine (toFaultS_any A n c f _ (by omega) ((HR.out.below B5.out).more B5.out.size)).mono ?_
    rintro e w6 ⟨rfl, ho6, hb6⟩
    have O6 := Lib.hid ho6
    have O5 := Lib.hid (O5.out.later hb6)
    have B6 := Lib.hid (belNext B5.out hb6)
    clear ho6 hb6
    go_wp2_with fail
    refine (eqFaultS_any _ _ _ _ n f _ _ _ (by omega) O5.out.row O6.out.row).mono ?_
    rintro e w7 ⟨rfl, hb7⟩
    have B7 := Lib.hid (belNext B6.out hb7)
    clear hb7
    go_wp2_with fail
    go_ret
    exact ⟨rfl, B7.out⟩
end Go.Proofs.Ytdnncmhfmpiocaa
