/-
  The law files' helpers on slices of ints, each walked once: the copy (toIntS), the comparison of equal rows (eqIntS), the marking (markIntS) and the look at the marks (heldIntS).
-/
import Derived.Test.YtopolfibledmnaaDoorProg
import Derived.WalkKit
import Derived.Outline
import Derived.WalkLawsBesides
import Derived.Test.YtopolfibledmnaaDoorBase
import Derived.Lib.Hide
import Derived.Deep.OwnRows
import Derived.Deep.QuietTactic
import Derived.BigQuiet
namespace Go.Proofs.YtopolfibledmnaaDoor
open Go.RowKit
theorem infoIntS : (Tryd.prog.info? 3).map (fun i => (i.zero, i.size, i.bytes)) = some (some (.int .i64 0), 1, 8) := by kernel_rfl

/-- The first k cells are filled with f's numbers, the others still hold zero. -/
def filledIntS (f : Nat → Int) (k : Nat) : Nat → Value := fun i => .int .i64 (if i < k then f i else 0)
theorem filledIntS_zero (f : Nat → Int) (i : Nat) : Value.int .i64 0 = filledIntS f 0 i := by simp [filledIntS]
theorem filledIntS_step (f : Nat → Int) (k i : Nat) : (if i = k then Value.int .i64 (f k) else filledIntS f k i) = filledIntS f (k + 1) i := by
  unfold filledIntS
  by_cases h : i = k
  · subst h; simp
  · rw [if_neg h]
    by_cases h2 : i < k
    · rw [if_pos h2, if_pos (by omega)]
    · rw [if_neg h2, if_neg (by omega)]
theorem filledIntS_all (f : Nat → Int) (n i : Nat) (h : i < n) : filledIntS f n i = .int .i64 (f i) := by simp [filledIntS, h]

set_option maxHeartbeats 400000 in
theorem eqIntS_some (b o c b' o' c' n : Nat) (f : Nat → Int) (w : World) (hn : n ≤ 1048576) (hcells : ∀ i, i < n → w.cell? ⟨b, o + i, none⟩ = some (.int .i64 (f i)) ∧ w.cell? ⟨b', o' + i, none⟩ = some (.int .i64 (f i))) :
    Calls Tryd.prog 26 #[.slice (some ⟨b, o, none⟩) n c, .slice (some ⟨b', o', none⟩) n c'] w fun e w' => e = .returned (.bool true) ∧ ∃ m, w' = w.drewN m := by
  have H := Lib.hid hcells
  clear hcells
  go_enter Tryd.func26, Tryd.ntmps26
  go_wp2
  go_loopw [5] (fun i wr => ∃ k : Nat, k ≤ n ∧ i = .int .i64 k ∧ ∃ m, wr = w.drewN m) (fun i _ => n - (intOf i).toNat)
  case atStart => exact ⟨0, Nat.zero_le _, rfl, 0, rfl⟩
  case round =>
    obtain ⟨k, hk, rfl, m, rfl⟩ := hrel
    by_cases hlt : k < n
    · obtain ⟨hx, hy⟩ := H.out k hlt
      have hlt' : (k : Int) < (n : Int) := by omega
      go_wp2
      go_quiet (fail)
      go_wp2
      go_roundw
      case rel => exact ⟨k + 1, by omega, by go_num, _, rfl⟩
      case measure => simp [intOf]; omega
    · go_wp2
      go_ret
      exact ⟨rfl, m, rfl⟩
theorem eqIntS_any (A A' : Option Addr) (c c' n : Nat) (f : Nat → Int) (B B' : Nat) (w : World) (hn : n ≤ 1048576) (h : Row w B A n fun i => .int .i64 (f i)) (h' : Row w B' A' n fun i => .int .i64 (f i)) :
    Calls Tryd.prog 26 #[.slice A n c, .slice A' n c'] w fun e w' => e = .returned (.bool true) ∧ Below w.heap.size w w' := by
  rcases Nat.eq_zero_or_pos n with rfl | h0
  · clear h h'
    go_enter Tryd.func26, Tryd.ntmps26
    go_wp2
    refine wp_loop_rounds 1 ?_; rw [rounds_succ]
    go_wp2
    go_ret
    exact ⟨rfl, Below.refl _ _⟩
  · obtain ⟨b, o, rfl, _, hc⟩ := h h0
    obtain ⟨b', o', rfl, _, hc'⟩ := h' h0
    refine (eqIntS_some b o c b' o' c' n f w hn fun i hi => ⟨hc i hi, hc' i hi⟩).mono ?_
    rintro e w' ⟨rfl, m, rfl⟩
    exact ⟨rfl, rfl, rfl, rfl, Nat.le_refl _, fun _ _ => rfl⟩

/-- The mark that cell i gets; the first k cells are marked. -/
def markedIntS (F : Nat → Value) (k : Nat) : Nat → Value := fun i => if i < k then .int .i64 (1 + (i : Int)) else F i
theorem markedIntS_step (F : Nat → Value) (k i : Nat) : (if i = k then Value.int .i64 (1 + (k : Int)) else markedIntS F k i) = markedIntS F (k + 1) i := by
  unfold markedIntS
  by_cases h : i = k
  · subst h; simp
  · rw [if_neg h]
    by_cases h2 : i < k
    · rw [if_pos h2, if_pos (by omega)]
    · rw [if_neg h2, if_neg (by omega)]
set_option maxHeartbeats 400000 in
theorem markIntS_own (g n c : Nat) (f : Nat → Int) (w : World) (hn : n ≤ 1048576) (h : Own w g n fun i => .int .i64 (f i)) :
    Calls Tryd.prog 29 #[.slice (some ⟨g, 0, none⟩) n c, .int .i64 1] w fun e w' => e = .returned (.int .i64 (1 + n)) ∧ Own w' g n (markedIntS (fun i => .int .i64 (f i)) n) ∧ (∀ B, B ≤ g → Below B w w') ∧ w.heap.size = w'.heap.size ∧ (∀ b, b ≠ g → w'.heap[b]? = w.heap[b]?) := by
  have H := Lib.hid h
  clear h
  go_enter Tryd.func29, Tryd.ntmps29
  go_wp2
  go_loopw [1, 5] (fun kk i wr => ∃ k : Nat, k ≤ n ∧ i = .int .i64 k ∧ kk = .int .i64 (1 + k) ∧ Own wr g n (markedIntS (fun i => .int .i64 (f i)) k) ∧ (∀ B, B ≤ g → Below B w wr) ∧ w.heap.size = wr.heap.size ∧ (∀ b, b ≠ g → wr.heap[b]? = w.heap[b]?)) (fun _ i _ => n - (intOf i).toNat)
  case atStart => exact ⟨0, Nat.zero_le _, rfl, rfl, H.out.congr fun i _ => by simp [markedIntS], fun _ _ => Below.refl _ _, rfl, fun _ _ => rfl⟩
  case round =>
    obtain ⟨k, hk, rfl, rfl, hown, hb, hsz, hot⟩ := hrel
    have HO := Lib.hid hown
    have HB := Lib.hid hb
    have HS := Lib.hid hsz
    have HT := Lib.hid hot
    clear hown hb hsz hot
    by_cases hlt : k < n
    · have hy := HO.out.cell hlt
      have hz := HO.out.frozen hlt
      rw [show markedIntS (fun i => .int .i64 (f i)) k k = .int .i64 (f k) by simp [markedIntS]] at hy
      go_wp2
      go_roundw
      case rel => exact ⟨k + 1, by omega, by go_num, by go_num, (HO.out.set hlt _).congr fun i _ => markedIntS_step _ k i, fun B hB => (HB.out B hB).setCell hB _, by simpa [World.setCell] using HS.out, fun b hb => (Below.heap_setCell _ _ _ _ hb).trans (HT.out b hb)⟩
      case measure => simp [intOf]; omega
    · have hkn : k = n := by omega
      have HK := Lib.hid hkn
      clear hkn
      go_wp2
      go_ret
      obtain rfl := HK.out
      exact ⟨rfl, HO.out, HB.out, HS.out, HT.out⟩
set_option maxHeartbeats 400000 in
theorem heldIntS_own (g n c : Nat) (F : Nat → Value) (w : World) (hn : n ≤ 1048576) (h : Own w g n (markedIntS F n)) :
    Calls Tryd.prog 30 #[.slice (some ⟨g, 0, none⟩) n c, .int .i64 1] w fun e w' => e = .returned (.int .i64 (1 + n)) ∧ w = w' := by
  have H := Lib.hid h
  clear h
  go_enter Tryd.func30, Tryd.ntmps30
  go_wp2
  go_loop [1, 5] (fun kk i => ∃ k : Nat, k ≤ n ∧ i = .int .i64 k ∧ kk = .int .i64 (1 + k)) (fun _ i => n - (intOf i).toNat)
  case atStart => exact ⟨0, Nat.zero_le _, rfl, rfl⟩
  case round =>
    obtain ⟨k, hk, rfl, rfl⟩ := hrel
    by_cases hlt : k < n
    · have hy := H.out.cell hlt
      rw [show markedIntS F n k = .int .i64 (1 + (k : Int)) by simp [markedIntS, hlt]] at hy
      go_wp2
      go_round
      case rel => exact ⟨k + 1, by omega, by go_num, by go_num⟩
      case measure => simp [intOf]; omega
    · have hkn : k = n := by omega
      have HK := Lib.hid hkn
      clear hkn
      go_wp2
      go_ret
      obtain rfl := HK.out
      exact ⟨rfl, rfl⟩
theorem markIntS_none (A : Option Addr) (c : Nat) (w : World) :
    Calls Tryd.prog 29 #[.slice A 0 c, .int .i64 1] w fun e w' => e = .returned (.int .i64 1) ∧ w = w' := by
  go_enter Tryd.func29, Tryd.ntmps29
  go_wp2
  refine wp_loop_rounds 1 ?_; rw [rounds_succ]
  go_wp2
  go_ret
  exact ⟨rfl, rfl⟩
theorem heldIntS_none (A : Option Addr) (c : Nat) (w : World) :
    Calls Tryd.prog 30 #[.slice A 0 c, .int .i64 1] w fun e w' => e = .returned (.int .i64 1) ∧ w = w' := by
  go_enter Tryd.func30, Tryd.ntmps30
  go_wp2
  refine wp_loop_rounds 1 ?_; rw [rounds_succ]
  go_wp2
  go_ret
  exact ⟨rfl, rfl⟩
end Go.Proofs.YtopolfibledmnaaDoor
