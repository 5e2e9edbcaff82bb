/-
  The law files' helpers on slices of ints, each walked once: the copy (toIntS), the comparison of equal rows (eqIntS), the marking (markIntS) and the look at the marks (heldIntS).
-/
import Derived.Test.YtkcigdcjpnojnaaProg
import Derived.WalkKit
import Derived.Outline
import Derived.WalkLawsBesides
import Derived.Test.YtkcigdcjpnojnaaBase
import Derived.Lib.Hide
import Derived.Deep.OwnRows
import Derived.Deep.QuietTactic
import Derived.BigQuiet
namespace Go.Proofs.Ytkcigdcjpnojnaa
open Go.RowKit
theorem infoIntS : (Try.prog.info? 3).map (fun i => (i.zero, i.size, i.bytes)) = some (some (.int .i64 0), 1, 8) := by kernel_rfl

/-- The first k cells are filled with f's numbers, the others still hold zero. -/
def filledIntS (f : Nat → Int) (k : Nat) : Nat → Value := fun i => .int .i64 (if i < k then f i else 0)
theorem filledIntS_zero (f : Nat → Int) (i : Nat) : Value.int .i64 0 = filledIntS f 0 i := by simp [filledIntS]
theorem filledIntS_step (f : Nat → Int) (k i : Nat) : (if i = k then Value.int .i64 (f k) else filledIntS f k i) = filledIntS f (k + 1) i := by
  unfold filledIntS
  by_cases h : i = k
  · subst h; simp
  · rw [if_neg h]
    by_cases h2 : i < k
    · rw [if_pos h2, if_pos (by omega)]
    · rw [if_neg h2, if_neg (by omega)]
theorem filledIntS_all (f : Nat → Int) (n i : Nat) (h : i < n) : filledIntS f n i = .int .i64 (f i) := by simp [filledIntS, h]

set_option maxHeartbeats 400000 in
theorem toIntS_some (b o n c : Nat) (f : Nat → Int) (w : World) (hn : n ≤ 1048576) (hcells : ∀ i, i < n → b < w.heap.size ∧ w.cell? ⟨b, o + i, none⟩ = some (.int .i64 (f i))) :
    Calls Try.prog 18 #[.slice (some ⟨b, o, none⟩) n c] w fun e w' => e = .returned (.slice (some ⟨w.heap.size, 0, none⟩) n n) ∧ w'.rowIs w.heap.size 3 n (fun i => .int .i64 (f i)) ∧ Below w.heap.size w w' := by
  have hmk := run_make_row' (P := Try.prog) 30 3 (.int .i64 0) 8 Try.underlying30 infoIntS rfl .i64 .i64 n (by omega) (by omega)
  have H := Lib.hid hcells
  clear hcells
  go_enter Try.func18, Try.ntmps18
  go_wp2
  go_loopw [4] (fun i wr => ∃ k : Nat, k ≤ n ∧ i = .int .i64 k ∧ wr.rowIs w.heap.size 3 n (filledIntS f k) ∧ Below w.heap.size w wr) (fun i _ => n - (intOf i).toNat)
  case atStart => exact ⟨0, Nat.zero_le _, rfl, (World.rowIs_made _ _ _ _).congr fun i _ => filledIntS_zero f i, (Below.refl _ _).alloc (Nat.le_refl _) _⟩
  case round =>
    obtain ⟨k, hk, rfl, hrow, hb⟩ := hrel
    by_cases hlt : k < n
    · have hx : wr.cell? ⟨b, o + k, none⟩ = some (.int .i64 (f k)) := (hb.cell (H.out k hlt).1).trans (H.out k hlt).2
      have hy := hrow.cell hlt
      have hz := hrow.frozen k
      have HR := Lib.hid hrow
      have HB := Lib.hid hb
      clear hrow hb hmk
      go_wp2
      go_roundw
      case rel => exact ⟨k + 1, by omega, by go_num, (HR.out.set k _).congr fun i _ => filledIntS_step f k i, HB.out.setCell (Nat.le_refl _) _⟩
      case measure => simp [intOf]; omega
    · have HR := Lib.hid hrow
      have HB := Lib.hid hb
      clear hrow hb hmk
      go_wp2
      go_ret
      have hkn : k = n := by omega
      subst hkn
      exact ⟨rfl, HR.out.congr fun i hi => filledIntS_all f _ i hi, HB.out⟩
theorem toIntS_any (A : Option Addr) (n c : Nat) (f : Nat → Int) (w : World) (hn : n ≤ 1048576) (hr : Row w w.heap.size A n fun i => .int .i64 (f i)) :
    Calls Try.prog 18 #[.slice A n c] w fun e w' => e = .returned (.slice (some ⟨w.heap.size, 0, none⟩) n n) ∧ w'.rowIs w.heap.size 3 n (fun i => .int .i64 (f i)) ∧ Below w.heap.size w w' := by
  rcases Nat.eq_zero_or_pos n with rfl | h0
  · have hmk : ∀ W : World, (Instr.makeSlice 30 (.int .i64 0) (.int .i64 0)).run Try.prog W = .ok (.slice (some ⟨W.heap.size, 0, none⟩) 0 0) (W.alloc (.cells (madeCells #[.int .i64 0] 0) 3)) :=
      fun W => run_make_row' (P := Try.prog) 30 3 (.int .i64 0) 8 Try.underlying30 infoIntS rfl .i64 .i64 0 (by omega) (by omega) W
    clear hr
    go_enter Try.func18, Try.ntmps18
    go_wp2
    refine wp_loop_rounds 1 ?_; rw [rounds_succ]
    go_wp2
    go_ret
    exact ⟨rfl, (World.rowIs_made _ _ _ _).congr fun i hi => absurd hi (by omega), (Below.refl _ _).alloc (Nat.le_refl _) _⟩
  · obtain ⟨b, o, rfl, hb, hc⟩ := hr h0
    exact toIntS_some b o n c f w hn fun i hi => ⟨hb, hc i hi⟩

set_option maxHeartbeats 400000 in
theorem eqIntS_some (b o c b' o' c' n : Nat) (f : Nat → Int) (w : World) (hn : n ≤ 1048576) (hcells : ∀ i, i < n → w.cell? ⟨b, o + i, none⟩ = some (.int .i64 (f i)) ∧ w.cell? ⟨b', o' + i, none⟩ = some (.int .i64 (f i))) :
    Calls Try.prog 20 #[.slice (some ⟨b, o, none⟩) n c, .slice (some ⟨b', o', none⟩) n c'] w fun e w' => e = .returned (.bool true) ∧ ∃ m, w' = w.drewN m := by
  have H := Lib.hid hcells
  clear hcells
  go_enter Try.func20, Try.ntmps20
  go_wp2
  go_loopw [5] (fun i wr => ∃ k : Nat, k ≤ n ∧ i = .int .i64 k ∧ ∃ m, wr = w.drewN m) (fun i _ => n - (intOf i).toNat)
  case atStart => exact ⟨0, Nat.zero_le _, rfl, 0, rfl⟩
  case round =>
    obtain ⟨k, hk, rfl, m, rfl⟩ := hrel
    by_cases hlt : k < n
    · obtain ⟨hx, hy⟩ := H.out k hlt
      have hlt' : (k : Int) < (n : Int) := by omega
      go_wp2
      go_quiet (fail)
      go_wp2
      go_roundw
      case rel => exact ⟨k + 1, by omega, by go_num, _, rfl⟩
      case measure => simp [intOf]; omega
    · go_wp2
      go_ret
      exact ⟨rfl, m, rfl⟩
theorem eqIntS_any (A A' : Option Addr) (c c' n : Nat) (f : Nat → Int) (B B' : Nat) (w : World) (hn : n ≤ 1048576) (h : Row w B A n fun i => .int .i64 (f i)) (h' : Row w B' A' n fun i => .int .i64 (f i)) :
    Calls Try.prog 20 #[.slice A n c, .slice A' n c'] w fun e w' => e = .returned (.bool true) ∧ Below w.heap.size w w' := by
  rcases Nat.eq_zero_or_pos n with rfl | h0
  · clear h h'
    go_enter Try.func20, Try.ntmps20
    go_wp2
    refine wp_loop_rounds 1 ?_; rw [rounds_succ]
    go_wp2
    go_ret
    exact ⟨rfl, Below.refl _ _⟩
  · obtain ⟨b, o, rfl, _, hc⟩ := h h0
    obtain ⟨b', o', rfl, _, hc'⟩ := h' h0
    refine (eqIntS_some b o c b' o' c' n f w hn fun i hi => ⟨hc i hi, hc' i hi⟩).mono ?_
    rintro e w' ⟨rfl, m, rfl⟩
    exact ⟨rfl, rfl, rfl, rfl, Nat.le_refl _, fun _ _ => rfl⟩

/-- The mark that cell i gets; the first k cells are marked. -/
def markedIntS (F : Nat → Value) (k : Nat) : Nat → Value := fun i => if i < k then .int .i64 (1 + (i : Int)) else F i
theorem markedIntS_step (F : Nat → Value) (k i : Nat) : (if i = k then Value.int .i64 (1 + (k : Int)) else markedIntS F k i) = markedIntS F (k + 1) i := by
  unfold markedIntS
  by_cases h : i = k
  · subst h; simp
  · rw [if_neg h]
    by_cases h2 : i < k
    · rw [if_pos h2, if_pos (by omega)]
    · rw [if_neg h2, if_neg (by omega)]
end Go.Proofs.Ytkcigdcjpnojnaa
