/-
  Rows of texts in the law files: compared, marked, asked for the marks.
-/
import Derived.Test.YtkcigdcjpnojnaaDoorMarkText
import Derived.Test.YtkcigdcjpnojnaaDoorBase
import Derived.Deep.QuietTactic
import Derived.BigQuiet
namespace Go.Proofs.YtkcigdcjpnojnaaDoor
open Go.RowKit
theorem Own.keep_ {w w' : World} {g n : Nat} {F : Nat → Value} (h : Own w g n F) (hs : w.heap.size ≤ w'.heap.size) (hh : w'.heap[g]? = w.heap[g]?) : Own w' g n F :=
  ⟨Nat.lt_of_lt_of_le h.1 hs, fun i hi => ⟨by have := h.cell hi; unfold World.cell? at this ⊢; rw [hh]; exact this, by have := h.frozen hi; unfold World.frozen? at this ⊢; rw [hh]; exact this⟩⟩
def strF (ss : List ByteArray) : Nat → Value := fun i => .string (ss.getD i ⟨#[]⟩)
set_option maxHeartbeats 1000000 in
theorem eqStringS_any (g c g' c' n : Nat) (ss : List ByteArray) (w : World) (hn : n ≤ 1048576) (h : Own w g n (strF ss)) (h' : Own w g' n (strF ss)) :
    Calls Tryd.prog 10 #[.slice (some ⟨g, 0, none⟩) n c, .slice (some ⟨g', 0, none⟩) n c'] w fun e w' => e = .returned (.bool true) ∧ Below w.heap.size w w' := by
  have H := Lib.hid h
  have H' := Lib.hid h'
  clear h h'
  go_enter Tryd.func10, Tryd.ntmps10
  go_wp2
  go_loopw [5] (fun i wr => ∃ k : Nat, k ≤ n ∧ i = .int .i64 k ∧ ∃ m, wr = w.drewN m) (fun i _ => n - (intOf i).toNat)
  case atStart => exact ⟨0, Nat.zero_le _, rfl, 0, rfl⟩
  case round =>
    obtain ⟨k, hk, rfl, m, rfl⟩ := hrel
    by_cases hlt : k < n
    · have hx : w.cell? ⟨g, k, none⟩ = some (.string (ss.getD k ⟨#[]⟩)) := H.out.cell hlt
      have hy : w.cell? ⟨g', k, none⟩ = some (.string (ss.getD k ⟨#[]⟩)) := H'.out.cell hlt
      generalize ss.getD k ⟨#[]⟩ = p at *
      have hlt' : (k : Int) < (n : Int) := by omega
      go_wp2
      go_quiet (fail)
      go_wp2
      go_roundw
      case rel => exact ⟨k + 1, by omega, by go_num, _, rfl⟩
      case measure => simp [intOf]; omega
    · go_wp2
      go_ret
      exact ⟨rfl, rfl, rfl, rfl, Nat.le_refl _, fun _ _ => rfl⟩
/-- The first k are marked. -/
def mkS (F : Nat → Value) (k : Nat) : Nat → Value := fun i => if i < k then .string (mtx (1 + i)) else F i
theorem mkS_step (F : Nat → Value) (k i : Nat) : (if i = k then Value.string (mtx (1 + k)) else mkS F k i) = mkS F (k + 1) i := by
  unfold mkS
  by_cases h : i = k
  · subst h; simp
  · rw [if_neg h]
    by_cases h2 : i < k
    · rw [if_pos h2, if_pos (by omega)]
    · rw [if_neg h2, if_neg (by omega)]
set_option maxHeartbeats 1000000 in
theorem markStringS_own (g n c : Nat) (ss : List ByteArray) (w : World) (hn : n ≤ 1048576) (h : Own w g n (strF ss)) :
    Calls Tryd.prog 11 #[.slice (some ⟨g, 0, none⟩) n c, .int .i64 1] w fun e w' => e = .returned (.int .i64 (1 + n)) ∧ Own w' g n (mkS (strF ss) n) ∧ (∀ B, B ≤ g → B ≤ w.heap.size → Below B w w') ∧ w.heap.size ≤ w'.heap.size ∧ (∀ b, b ≠ g → b < w.heap.size → w'.heap[b]? = w.heap[b]?) := by
  have H := Lib.hid h
  clear h
  go_enter Tryd.func11, Tryd.ntmps11
  go_wp2
  go_loopw [1, 5] (fun kk i wr => ∃ k : Nat, k ≤ n ∧ i = .int .i64 k ∧ kk = .int .i64 (1 + k) ∧ Own wr g n (mkS (strF ss) k) ∧ (∀ B, B ≤ g → B ≤ w.heap.size → Below B w wr) ∧ w.heap.size ≤ wr.heap.size ∧ (∀ b, b ≠ g → b < w.heap.size → wr.heap[b]? = w.heap[b]?)) (fun _ i _ => n - (intOf i).toNat)
  case atStart => exact ⟨0, Nat.zero_le _, rfl, rfl, H.out.congr fun i _ => by simp [mkS], fun _ _ _ => Below.refl _ _, Nat.le_refl _, fun _ _ _ => rfl⟩
  case round =>
    obtain ⟨k, hk, rfl, rfl, hown, hb, hsz, hot⟩ := hrel
    have HO := Lib.hid hown
    have HB := Lib.hid hb
    have HT := Lib.hid hot
    clear hown hb hot
    by_cases hlt : k < n
    · have hc := markText_any (1 + k) wr (by omega) (by omega)
      rw [show ((1 + k : Nat) : Int) = 1 + (k : Int) by omega] at hc
      have HM := Lib.hid hc
      clear hc
      have hgw : g < wr.heap.size := HO.out.1
      go_wp2_with fail
      refine HM.out.mono ?_
      rintro e w1 ⟨rfl, hb1⟩
      have HO1 := Lib.hid (HO.out.later hb1)
      have hy := HO1.out.cell hlt
      have hz := HO1.out.frozen hlt
      have HB1 := Lib.hid hb1
      have hs1 := hb1.size
      rw [show mkS (strF ss) k k = .string (ss.getD k ⟨#[]⟩) by simp [mkS, strF]] at hy
      clear hb1
      go_wp2_with fail
      go_roundw
      case rel => exact ⟨k + 1, by omega, by go_num, by go_num, (HO1.out.set hlt _).congr fun i _ => mkS_step _ k i, fun B h1 h2 => ((HB.out B h1 h2).trans (HB1.out.mono (by omega))).setCell h1 _, by simp [World.setCell]; omega, fun b h1 h2 => (Below.heap_setCell _ _ _ _ h1).trans ((HB1.out.block b (by omega)).trans (HT.out b h1 h2))⟩
      case measure => simp [intOf]; omega
    · have hkn : k = n := by omega
      have HK := Lib.hid hkn
      clear hkn
      go_wp2
      go_ret
      obtain rfl := HK.out
      exact ⟨rfl, HO.out, HB.out, hsz, HT.out⟩
set_option maxHeartbeats 1000000 in
theorem heldStringS_own (g n c : Nat) (F : Nat → Value) (w : World) (hn : n ≤ 1048576) (h : Own w g n (mkS F n)) :
    Calls Tryd.prog 12 #[.slice (some ⟨g, 0, none⟩) n c, .int .i64 1] w fun e w' => e = .returned (.int .i64 (1 + n)) ∧ Below w.heap.size w w' := by
  have H := Lib.hid h
  clear h
  go_enter Tryd.func12, Tryd.ntmps12
  go_wp2
  go_loopw [1, 5] (fun kk i wr => ∃ k : Nat, k ≤ n ∧ i = .int .i64 k ∧ kk = .int .i64 (1 + k) ∧ Below w.heap.size w wr) (fun _ i _ => n - (intOf i).toNat)
  case atStart => exact ⟨0, Nat.zero_le _, rfl, rfl, Below.refl _ _⟩
  case round =>
    obtain ⟨k, hk, rfl, rfl, hb⟩ := hrel
    have HB := Lib.hid hb
    have HO := Lib.hid (H.out.later hb)
    clear hb
    by_cases hlt : k < n
    · have hy := HO.out.cell hlt
      rw [show mkS F n k = .string (mtx (1 + k)) by simp [mkS, hlt]] at hy
      have hc := fun W => markText_any (1 + k) W (by omega) (by omega)
      rw [show ((1 + k : Nat) : Int) = 1 + (k : Int) by omega] at hc
      have HM := Lib.hid hc
      clear hc
      have hlt' : (k : Int) < (n : Int) := by omega
      have hgw : g < wr.heap.size := HO.out.1
      generalize mtx (1 + k) = p at *
      go_wp2_with fail
      go_region_with ((go_at_call 21; refine (HM.out _).mono ?_; rintro e w1 ⟨rfl, hb1⟩; have hB1 : Below wr.heap.size wr w1 := belNext (by repeat (first | (with_reducible exact Below.refl _ _) | refine Below.drew ?_)) hb1; have hy1 := (hB1.cell (p := ⟨g, k, none⟩) hgw).trans hy; clear hb1))
      all_goals
        have HB1 := Lib.hid (belNext HB.out hB1)
        clear hy1 hB1
        go_wp2_with fail
        go_roundw
        case rel => exact ⟨k + 1, by omega, by go_num, by go_num, HB1.out⟩
        case measure => simp [intOf]; omega
    · have hkn : k = n := by omega
      have HK := Lib.hid hkn
      clear hkn
      go_wp2
      go_ret
      obtain rfl := HK.out
      exact ⟨rfl, HB.out⟩
theorem eqStringS_nil (w : World) : Calls Tryd.prog 10 #[.slice none 0 0, .slice none 0 0] w fun e w' => e = .returned (.bool true) ∧ w = w' := by
  go_enter Tryd.func10, Tryd.ntmps10
  go_wp2
  refine wp_loop_rounds 1 ?_; rw [rounds_succ]
  go_wp2
  go_ret
  exact ⟨rfl, rfl⟩
theorem markStringS_nil (w : World) : Calls Tryd.prog 11 #[.slice none 0 0, .int .i64 1] w fun e w' => e = .returned (.int .i64 1) ∧ w = w' := by
  go_enter Tryd.func11, Tryd.ntmps11
  go_wp2
  refine wp_loop_rounds 1 ?_; rw [rounds_succ]
  go_wp2
  go_ret
  exact ⟨rfl, rfl⟩
theorem heldStringS_nil (w : World) : Calls Tryd.prog 12 #[.slice none 0 0, .int .i64 1] w fun e w' => e = .returned (.int .i64 1) ∧ w = w' := by
  go_enter Tryd.func12, Tryd.ntmps12
  go_wp2
  refine wp_loop_rounds 1 ?_; rw [rounds_succ]
  go_wp2
  go_ret
  exact ⟨rfl, rfl⟩
end Go.Proofs.YtkcigdcjpnojnaaDoor
