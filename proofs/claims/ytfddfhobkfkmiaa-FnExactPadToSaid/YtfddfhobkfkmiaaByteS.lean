/-
  The law files' helpers on slices of bytes, each walked once: the copy (toByteS), the comparison of equal rows (eqByteS), the marking (markByteS) and the look at the marks (heldByteS).
-/
import Derived.Test.YtfddfhobkfkmiaaProg
import Derived.WalkKit
import Derived.Outline
import Derived.WalkLawsBesides
import Derived.Test.YtfddfhobkfkmiaaBase
import Derived.Lib.Hide
import Derived.Deep.OwnRows
import Derived.Deep.QuietTactic
import Derived.BigQuiet
namespace Go.Proofs.Ytfddfhobkfkmiaa
open Go.RowKit
theorem infoByteS : (Try.prog.info? 5).map (fun i => (i.zero, i.size, i.bytes)) = some (some (.int .u8 0), 1, 1) := by kernel_rfl

/-- The first k cells are filled with f's numbers, the others still hold zero. -/
def filledByteS (f : Nat → Int) (k : Nat) : Nat → Value := fun i => .int .u8 (if i < k then f i else 0)
theorem filledByteS_zero (f : Nat → Int) (i : Nat) : Value.int .u8 0 = filledByteS f 0 i := by simp [filledByteS]
theorem filledByteS_step (f : Nat → Int) (k i : Nat) : (if i = k then Value.int .u8 (f k) else filledByteS f k i) = filledByteS f (k + 1) i := by
  unfold filledByteS
  by_cases h : i = k
  · subst h; simp
  · rw [if_neg h]
    by_cases h2 : i < k
    · rw [if_pos h2, if_pos (by omega)]
    · rw [if_neg h2, if_neg (by omega)]
theorem filledByteS_all (f : Nat → Int) (n i : Nat) (h : i < n) : filledByteS f n i = .int .u8 (f i) := by simp [filledByteS, h]

set_option maxHeartbeats 400000 in
theorem toByteS_some (b o n c : Nat) (f : Nat → Int) (w : World) (hn : n ≤ 1048576) (hcells : ∀ i, i < n → b < w.heap.size ∧ w.cell? ⟨b, o + i, none⟩ = some (.int .u8 (f i))) :
    Calls Try.prog 22 #[.slice (some ⟨b, o, none⟩) n c] w fun e w' => e = .returned (.slice (some ⟨w.heap.size, 0, none⟩) n n) ∧ w'.rowIs w.heap.size 5 n (fun i => .int .u8 (f i)) ∧ Below w.heap.size w w' := by
  have hmk := run_make_row' (P := Try.prog) 30 5 (.int .u8 0) 1 Try.underlying30 infoByteS rfl .i64 .i64 n (by omega) (by omega)
  have H := Lib.hid hcells
  clear hcells
  go_enter Try.func22, Try.ntmps22
  go_wp2
  go_loopw [4] (fun i wr => ∃ k : Nat, k ≤ n ∧ i = .int .i64 k ∧ wr.rowIs w.heap.size 5 n (filledByteS f k) ∧ Below w.heap.size w wr) (fun i _ => n - (intOf i).toNat)
  case atStart => exact ⟨0, Nat.zero_le _, rfl, (World.rowIs_made _ _ _ _).congr fun i _ => filledByteS_zero f i, (Below.refl _ _).alloc (Nat.le_refl _) _⟩
  case round =>
    obtain ⟨k, hk, rfl, hrow, hb⟩ := hrel
    by_cases hlt : k < n
    · have hx : wr.cell? ⟨b, o + k, none⟩ = some (.int .u8 (f k)) := (hb.cell (H.out k hlt).1).trans (H.out k hlt).2
      have hy := hrow.cell hlt
      have hz := hrow.frozen k
      have HR := Lib.hid hrow
      have HB := Lib.hid hb
      clear hrow hb hmk
      go_wp2
      go_roundw
      case rel => exact ⟨k + 1, by omega, by go_num, (HR.out.set k _).congr fun i _ => filledByteS_step f k i, HB.out.setCell (Nat.le_refl _) _⟩
      case measure => simp [intOf]; omega
    · have HR := Lib.hid hrow
      have HB := Lib.hid hb
      clear hrow hb hmk
      go_wp2
      go_ret
      have hkn : k = n := by omega
      subst hkn
      exact ⟨rfl, HR.out.congr fun i hi => filledByteS_all f _ i hi, HB.out⟩
theorem toByteS_any (A : Option Addr) (n c : Nat) (f : Nat → Int) (w : World) (hn : n ≤ 1048576) (hr : Row w w.heap.size A n fun i => .int .u8 (f i)) :
    Calls Try.prog 22 #[.slice A n c] w fun e w' => e = .returned (.slice (some ⟨w.heap.size, 0, none⟩) n n) ∧ w'.rowIs w.heap.size 5 n (fun i => .int .u8 (f i)) ∧ Below w.heap.size w w' := by
  rcases Nat.eq_zero_or_pos n with rfl | h0
  · have hmk : ∀ W : World, (Instr.makeSlice 30 (.int .i64 0) (.int .i64 0)).run Try.prog W = .ok (.slice (some ⟨W.heap.size, 0, none⟩) 0 0) (W.alloc (.cells (madeCells #[.int .u8 0] 0) 5)) :=
      fun W => run_make_row' (P := Try.prog) 30 5 (.int .u8 0) 1 Try.underlying30 infoByteS rfl .i64 .i64 0 (by omega) (by omega) W
    clear hr
    go_enter Try.func22, Try.ntmps22
    go_wp2
    refine wp_loop_rounds 1 ?_; rw [rounds_succ]
    go_wp2
    go_ret
    exact ⟨rfl, (World.rowIs_made _ _ _ _).congr fun i hi => absurd hi (by omega), (Below.refl _ _).alloc (Nat.le_refl _) _⟩
  · obtain ⟨b, o, rfl, hb, hc⟩ := hr h0
    exact toByteS_some b o n c f w hn fun i hi => ⟨hb, hc i hi⟩

set_option maxHeartbeats 400000 in
theorem eqByteS_some (b o c b' o' c' n : Nat) (f : Nat → Int) (w : World) (hn : n ≤ 1048576) (hcells : ∀ i, i < n → w.cell? ⟨b, o + i, none⟩ = some (.int .u8 (f i)) ∧ w.cell? ⟨b', o' + i, none⟩ = some (.int .u8 (f i))) :
    Calls Try.prog 24 #[.slice (some ⟨b, o, none⟩) n c, .slice (some ⟨b', o', none⟩) n c'] w fun e w' => e = .returned (.bool true) ∧ ∃ m, w' = w.drewN m := by
  have H := Lib.hid hcells
  clear hcells
  go_enter Try.func24, Try.ntmps24
  go_wp2
  go_loopw [5] (fun i wr => ∃ k : Nat, k ≤ n ∧ i = .int .i64 k ∧ ∃ m, wr = w.drewN m) (fun i _ => n - (intOf i).toNat)
  case atStart => exact ⟨0, Nat.zero_le _, rfl, 0, rfl⟩
  case round =>
    obtain ⟨k, hk, rfl, m, rfl⟩ := hrel
    by_cases hlt : k < n
    · obtain ⟨hx, hy⟩ := H.out k hlt
      have hlt' : (k : Int) < (n : Int) := by omega
      go_wp2
      go_quiet (fail)
      go_wp2
      go_roundw
      case rel => exact ⟨k + 1, by omega, by go_num, _, rfl⟩
      case measure => simp [intOf]; omega
    · go_wp2
      go_ret
      exact ⟨rfl, m, rfl⟩
theorem eqByteS_any (A A' : Option Addr) (c c' n : Nat) (f : Nat → Int) (B B' : Nat) (w : World) (hn : n ≤ 1048576) (h : Row w B A n fun i => .int .u8 (f i)) (h' : Row w B' A' n fun i => .int .u8 (f i)) :
    Calls Try.prog 24 #[.slice A n c, .slice A' n c'] w fun e w' => e = .returned (.bool true) ∧ Below w.heap.size w w' := by
  rcases Nat.eq_zero_or_pos n with rfl | h0
  · clear h h'
    go_enter Try.func24, Try.ntmps24
    go_wp2
    refine wp_loop_rounds 1 ?_; rw [rounds_succ]
    go_wp2
    go_ret
    exact ⟨rfl, Below.refl _ _⟩
  · obtain ⟨b, o, rfl, _, hc⟩ := h h0
    obtain ⟨b', o', rfl, _, hc'⟩ := h' h0
    refine (eqByteS_some b o c b' o' c' n f w hn fun i hi => ⟨hc i hi, hc' i hi⟩).mono ?_
    rintro e w' ⟨rfl, m, rfl⟩
    exact ⟨rfl, rfl, rfl, rfl, Nat.le_refl _, fun _ _ => rfl⟩

/-- The mark that cell i gets; the first k cells are marked. -/
def markedByteS (F : Nat → Value) (k : Nat) : Nat → Value := fun i => if i < k then .int .u8 ((1 + (i : Int)) % 256) else F i
theorem markedByteS_step (F : Nat → Value) (k i : Nat) : (if i = k then Value.int .u8 ((1 + (k : Int)) % 256) else markedByteS F k i) = markedByteS F (k + 1) i := by
  unfold markedByteS
  by_cases h : i = k
  · subst h; simp
  · rw [if_neg h]
    by_cases h2 : i < k
    · rw [if_pos h2, if_pos (by omega)]
    · rw [if_neg h2, if_neg (by omega)]
set_option maxHeartbeats 400000 in
theorem markByteS_own (g n c : Nat) (f : Nat → Int) (w : World) (hn : n ≤ 1048576) (h : Own w g n fun i => .int .u8 (f i)) :
    Calls Try.prog 33 #[.slice (some ⟨g, 0, none⟩) n c, .int .i64 1] w fun e w' => e = .returned (.int .i64 (1 + n)) ∧ Own w' g n (markedByteS (fun i => .int .u8 (f i)) n) ∧ (∀ B, B ≤ g → Below B w w') ∧ w.heap.size = w'.heap.size ∧ (∀ b, b ≠ g → w'.heap[b]? = w.heap[b]?) := by
  have H := Lib.hid h
  clear h
  go_enter Try.func33, Try.ntmps33
  go_wp2
  go_loopw [1, 5] (fun kk i wr => ∃ k : Nat, k ≤ n ∧ i = .int .i64 k ∧ kk = .int .i64 (1 + k) ∧ Own wr g n (markedByteS (fun i => .int .u8 (f i)) k) ∧ (∀ B, B ≤ g → Below B w wr) ∧ w.heap.size = wr.heap.size ∧ (∀ b, b ≠ g → wr.heap[b]? = w.heap[b]?)) (fun _ i _ => n - (intOf i).toNat)
  case atStart => exact ⟨0, Nat.zero_le _, rfl, rfl, H.out.congr fun i _ => by simp [markedByteS], fun _ _ => Below.refl _ _, rfl, fun _ _ => rfl⟩
  case round =>
    obtain ⟨k, hk, rfl, rfl, hown, hb, hsz, hot⟩ := hrel
    have HO := Lib.hid hown
    have HB := Lib.hid hb
    have HS := Lib.hid hsz
    have HT := Lib.hid hot
    clear hown hb hsz hot
    by_cases hlt : k < n
    · have hy := HO.out.cell hlt
      have hz := HO.out.frozen hlt
      rw [show markedByteS (fun i => .int .u8 (f i)) k k = .int .u8 (f k) by simp [markedByteS]] at hy
      go_wp2
      go_roundw
      case rel => exact ⟨k + 1, by omega, by go_num, by go_num, (HO.out.set hlt _).congr fun i _ => markedByteS_step _ k i, fun B hB => (HB.out B hB).setCell hB _, by simpa [World.setCell] using HS.out, fun b hb => (Below.heap_setCell _ _ _ _ hb).trans (HT.out b hb)⟩
      case measure => simp [intOf]; omega
    · have hkn : k = n := by omega
      have HK := Lib.hid hkn
      clear hkn
      go_wp2
      go_ret
      obtain rfl := HK.out
      exact ⟨rfl, HO.out, HB.out, HS.out, HT.out⟩
set_option maxHeartbeats 400000 in
theorem heldByteS_own (g n c : Nat) (F : Nat → Value) (w : World) (hn : n ≤ 1048576) (h : Own w g n (markedByteS F n)) :
    Calls Try.prog 34 #[.slice (some ⟨g, 0, none⟩) n c, .int .i64 1] w fun e w' => e = .returned (.int .i64 (1 + n)) ∧ w = w' := by
  have H := Lib.hid h
  clear h
  go_enter Try.func34, Try.ntmps34
  go_wp2
  go_loop [1, 5] (fun kk i => ∃ k : Nat, k ≤ n ∧ i = .int .i64 k ∧ kk = .int .i64 (1 + k)) (fun _ i => n - (intOf i).toNat)
  case atStart => exact ⟨0, Nat.zero_le _, rfl, rfl⟩
  case round =>
    obtain ⟨k, hk, rfl, rfl⟩ := hrel
    by_cases hlt : k < n
    · have hy := H.out.cell hlt
      rw [show markedByteS F n k = .int .u8 ((1 + (k : Int)) % 256) by simp [markedByteS, hlt]] at hy
      go_wp2
      go_round
      case rel => exact ⟨k + 1, by omega, by go_num, by go_num⟩
      case measure => simp [intOf]; omega
    · have hkn : k = n := by omega
      have HK := Lib.hid hkn
      clear hkn
      go_wp2
      go_ret
      obtain rfl := HK.out
      exact ⟨rfl, rfl⟩
theorem markByteS_none (A : Option Addr) (c : Nat) (w : World) :
    Calls Try.prog 33 #[.slice A 0 c, .int .i64 1] w fun e w' => e = .returned (.int .i64 1) ∧ w = w' := by
  go_enter Try.func33, Try.ntmps33
  go_wp2
  refine wp_loop_rounds 1 ?_; rw [rounds_succ]
  go_wp2
  go_ret
  exact ⟨rfl, rfl⟩
theorem heldByteS_none (A : Option Addr) (c : Nat) (w : World) :
    Calls Try.prog 34 #[.slice A 0 c, .int .i64 1] w fun e w' => e = .returned (.int .i64 1) ∧ w = w' := by
  go_enter Try.func34, Try.ntmps34
  go_wp2
  refine wp_loop_rounds 1 ?_; rw [rounds_succ]
  go_wp2
  go_ret
  exact ⟨rfl, rfl⟩
end Go.Proofs.Ytfddfhobkfkmiaa
