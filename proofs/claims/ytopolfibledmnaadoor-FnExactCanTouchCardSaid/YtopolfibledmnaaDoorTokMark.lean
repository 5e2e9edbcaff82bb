/-
  Rows of tokens marked and asked for the marks.
-/
import Derived.Test.YtopolfibledmnaaDoorTokenS
import Derived.Test.YtopolfibledmnaaDoorMarkText
namespace Go.Proofs.YtopolfibledmnaaDoor
open Go.RowKit
theorem Own.keepT {w w' : World} {g n : Nat} {F : Nat → Value} (h : Own w g n F) (hs : w.heap.size ≤ w'.heap.size) (hh : w'.heap[g]? = w.heap[g]?) : Own w' g n F :=
  ⟨Nat.lt_of_lt_of_le h.1 hs, fun i hi => ⟨by have := h.cell hi; unfold World.cell? at this ⊢; rw [hh]; exact this, by have := h.frozen hi; unfold World.frozen? at this ⊢; rw [hh]; exact this⟩⟩
/-- The mark of token i; the first k are marked. -/
def mrk (i : Nat) : Tk := ⟨((1 + i * 4 : Nat) : Int), ((1 + i * 4 : Nat) : Int) + 1, mtx (1 + i * 4 + 2), ((1 + i * 4 : Nat) : Int) + 3⟩
def mkT (f : Nat → Tk) (k : Nat) : Nat → Tk := fun i => if i < k then mrk i else f i
theorem mkT_step (f : Nat → Tk) (k : Nat) : putT (mkT f k) k (mrk k) = mkT f (k + 1) := by
  funext i
  unfold putT mkT
  by_cases h : i = k
  · subst h; rw [if_pos rfl, if_pos (by omega)]
  · rw [if_neg h]
    by_cases h2 : i < k
    · rw [if_pos h2, if_pos (by omega)]
    · rw [if_neg h2, if_neg (by omega)]
theorem markAny_ (b : Nat) (h1 : 1 ≤ b) (hb : b ≤ 100000000) (x : Int) (hx : x = (b : Int) + 2) (w : World) : Calls Tryd.prog 54 #[.int .i64 x] w fun e w' => e = .returned (.string (mtx (b + 2))) ∧ Below w.heap.size w w' := by
  subst hx
  exact markText_any (b + 2) w (by omega) (by omega)
set_option maxHeartbeats 2000000 in
theorem markTokenS_own (g n c : Nat) (f : Nat → Tk) (w : World) (hn : n ≤ 1048576) (h : OwnT w g n f) :
    Calls Tryd.prog 28 #[.slice (some ⟨g, 0, none⟩) n c, .int .i64 1] w fun e w' => e = .returned (.int .i64 ((1 + n * 4 : Nat) : Int)) ∧ OwnT w' g n (mkT f n) ∧ (∀ B, B ≤ g → B ≤ w.heap.size → Below B w w') ∧ w.heap.size ≤ w'.heap.size ∧ (∀ b, b ≠ g → b < w.heap.size → w'.heap[b]? = w.heap[b]?) := by
  have H := Lib.hid h
  clear h
  go_enter Tryd.func28, Tryd.ntmps28
  go_wp2
  go_loopw [1, 5] (fun kk i wr => ∃ k b : Nat, k ≤ n ∧ i = .int .i64 k ∧ b = 1 + k * 4 ∧ kk = .int .i64 (b : Int) ∧ OwnT wr g n (mkT f k) ∧ (∀ B, B ≤ g → B ≤ w.heap.size → Below B w wr) ∧ w.heap.size ≤ wr.heap.size ∧ (∀ b, b ≠ g → b < w.heap.size → wr.heap[b]? = w.heap[b]?)) (fun _ i _ => n - (intOf i).toNat)
  case atStart => exact ⟨0, 1, Nat.zero_le _, rfl, rfl, rfl, Own.congr H.out fun i _ => by simp [mkT, flatT], fun _ _ _ => Below.refl _ _, Nat.le_refl _, fun _ _ _ => rfl⟩
  case round =>
    obtain ⟨k, b, hk, rfl, hbk, rfl, hown, hb, hsz, hot⟩ := hrel
    have HO := Lib.hid hown
    have HB := Lib.hid hb
    have HT := Lib.hid hot
    have hb1 : 1 ≤ b := by omega
    have hb2 : b ≤ 100000000 := by omega
    have hb3 : b + 4 = 1 + (k + 1) * 4 := by omega
    have HBK := Lib.hid hbk
    clear hown hb hot hbk
    by_cases hlt : k < n
    · have HM := Lib.hid (fun x hx W => markAny_ b hb1 hb2 x hx W)
      have HST := Lib.hid (mkT_step f k)
      have HMR : Hid (mrk k = ⟨(b : Int), (b : Int) + 1, mtx (b + 2), (b : Int) + 3⟩) := by have := HBK.out; subst this; rfl
      have hgw : g < wr.heap.size := HO.out.1
      have hf0 : wr.frozen? ⟨g, k * 4, none⟩ = false := (HO.out.frz hlt).1
      have hf1 : wr.frozen? ⟨g, k * 4 + 1, none⟩ = false := (HO.out.frz hlt).2.1
      obtain ⟨y0, y1, _, _⟩ := HO.out.at_ hlt
      go_wp2_with fail
      refine (HM.out _ (by omega) _).mono ?_
      rintro e w1 ⟨rfl, hbm⟩
      have HO1 := Lib.hid (Own.later ((Own.set HO.out (show k * 4 < n * 4 by omega) (.int .i64 (b : Int))).set (show k * 4 + 1 < n * 4 by omega) (.int .i64 ((b : Int) + 1))) hbm)
      have z2 := HO1.out.cell (show k * 4 + 2 < n * 4 by omega)
      have z3 := HO1.out.cell (show k * 4 + 3 < n * 4 by omega)
      have f2 := HO1.out.frozen (show k * 4 + 2 < n * 4 by omega)
      have f3 := HO1.out.frozen (show k * 4 + 3 < n * 4 by omega)
      have HBM := Lib.hid hbm
      have hs1 : wr.heap.size ≤ w1.heap.size := by have := hbm.size; simpa [World.setCell] using this
      clear hbm
      go_wp2_with fail
      go_roundw
      case rel =>
        refine ⟨k + 1, b + 4, by omega, by go_num, hb3, by go_num, ?_, fun B h1 h2 => ((((((HB.out B h1 h2).setCell h1 _).setCell h1 _).trans (HBM.out.mono (by simp [World.setCell]; omega))).setCell h1 _).setCell h1 _), by simp [World.setCell]; omega, fun b h1 h2 => ?_⟩
        · have := Own.congr ((HO1.out.set (show k * 4 + 2 < n * 4 by omega) (.string (mtx (b + 2)))).set (show k * 4 + 3 < n * 4 by omega) (.int .i64 ((b : Int) + 3))) (fun m _ => putT_flat (mkT f k) k ⟨(b : Int), (b : Int) + 1, mtx (b + 2), (b : Int) + 3⟩ m)
          rw [← HST.out, HMR.out]
          exact this
        · exact (Below.heap_setCell _ _ _ _ h1).trans ((Below.heap_setCell _ _ _ _ h1).trans ((HBM.out.block b (by simp [World.setCell]; omega)).trans ((Below.heap_setCell _ _ _ _ h1).trans ((Below.heap_setCell _ _ _ _ h1).trans (HT.out b h1 h2)))))
      case measure => simp [intOf]; omega
    · have hkn : k = n := by omega
      have HK := Lib.hid hkn
      clear hkn
      go_wp2
      go_ret
      obtain rfl := HK.out
      obtain rfl := HBK.out
      exact ⟨rfl, HO.out, HB.out, hsz, HT.out⟩
set_option maxHeartbeats 2000000 in
theorem heldTokenS_own (g n c : Nat) (f : Nat → Tk) (w : World) (hn : n ≤ 1048576) (h : OwnT w g n (mkT f n)) :
    Calls Tryd.prog 39 #[.slice (some ⟨g, 0, none⟩) n c, .int .i64 1] w fun e w' => e = .returned (.int .i64 ((1 + n * 4 : Nat) : Int)) ∧ Below w.heap.size w w' := by
  have H := Lib.hid h
  clear h
  go_enter Tryd.func39, Tryd.ntmps39
  go_wp2
  go_loopw [1, 5] (fun kk i wr => ∃ k b : Nat, k ≤ n ∧ i = .int .i64 k ∧ b = 1 + k * 4 ∧ kk = .int .i64 (b : Int) ∧ Below w.heap.size w wr) (fun _ i _ => n - (intOf i).toNat)
  case atStart => exact ⟨0, 1, Nat.zero_le _, rfl, rfl, rfl, Below.refl _ _⟩
  case round =>
    obtain ⟨k, b, hk, rfl, hbk, rfl, hb⟩ := hrel
    have HB := Lib.hid hb
    have HO := Lib.hid (H.out.later hb)
    have hb1 : 1 ≤ b := by omega
    have hb2 : b ≤ 100000000 := by omega
    have hb3 : b + 4 = 1 + (k + 1) * 4 := by omega
    have HBK := Lib.hid hbk
    clear hb hbk
    by_cases hlt : k < n
    · have HM := Lib.hid (fun x hx W => markAny_ b hb1 hb2 x hx W)
      have hmr : mkT f n k = ⟨(b : Int), (b : Int) + 1, mtx (b + 2), (b : Int) + 3⟩ := by rw [mkT, if_pos hlt]; have := HBK.out; subst this; rfl
      obtain ⟨y0, y1, y2, y3⟩ := HO.out.at_ hlt
      rw [hmr] at y0 y1 y2 y3
      have Y3 := Lib.hid y3
      dsimp only at y0 y1 y2 y3
      have hlt' : (k : Int) < (n : Int) := by omega
      have hgw : g < wr.heap.size := HO.out.1
      clear hmr
      generalize mtx (b + 2) = p at *
      go_wp2_with fail
      go_region_with ((go_at_call 54; refine (HM.out _ (by omega) _).mono ?_; rintro e w1 ⟨rfl, hb1⟩; have hB1 : Below wr.heap.size wr w1 := belNext (by repeat (first | (with_reducible exact Below.refl _ _) | refine Below.drew ?_)) hb1; have q2 := (hB1.cell (p := ⟨g, k * 4 + 2, none⟩) hgw).trans y2; have q3 := (hB1.cell (p := ⟨g, k * 4 + 3, none⟩) hgw).trans y3; clear hb1))
      all_goals
        have HB1 := Lib.hid (belNext HB.out hB1)
        clear q2 hB1
        go_wp2_with fail
        go_roundw
        case rel => exact ⟨k + 1, b + 4, by omega, by go_num, hb3, by go_num, HB1.out⟩
        case measure => simp [intOf]; omega
    · have hkn : k = n := by omega
      have HK := Lib.hid hkn
      clear hkn
      go_wp2
      go_ret
      obtain rfl := HK.out
      obtain rfl := HBK.out
      exact ⟨rfl, HB.out⟩
theorem markTokenS_nil (A : Option Addr) (c : Nat) (w : World) : Calls Tryd.prog 28 #[.slice A 0 c, .int .i64 1] w fun e w' => e = .returned (.int .i64 1) ∧ w = w' := by
  go_enter Tryd.func28, Tryd.ntmps28
  go_wp2
  refine wp_loop_rounds 1 ?_; rw [rounds_succ]
  go_wp2
  go_ret
  exact ⟨rfl, rfl⟩
theorem heldTokenS_nil (A : Option Addr) (c : Nat) (w : World) : Calls Tryd.prog 39 #[.slice A 0 c, .int .i64 1] w fun e w' => e = .returned (.int .i64 1) ∧ w = w' := by
  go_enter Tryd.func39, Tryd.ntmps39
  go_wp2
  refine wp_loop_rounds 1 ?_; rw [rounds_succ]
  go_wp2
  go_ret
  exact ⟨rfl, rfl⟩
end Go.Proofs.YtopolfibledmnaaDoor
