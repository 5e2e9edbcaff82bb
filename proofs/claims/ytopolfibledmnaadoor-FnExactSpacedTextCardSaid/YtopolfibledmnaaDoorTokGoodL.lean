/-
  Lists of good tokens: areTokens of the program, tkList of the reference; two lists alike.
-/
import Derived.Test.YtopolfibledmnaaDoorIsTokenWalk
import Derived.Test.YtopolfibledmnaaDoorAll
namespace Go.Proofs.YtopolfibledmnaaDoor
open Go.RowKit
def gdAt (f : Nat → Tk) (i : Nat) : Bool := gdB (f i)
/-- All of n tokens are good, and they are not too many. -/
def goodB (f : Nat → Tk) (n : Nat) : Bool := allV (gdAt f) n && decide (n ≤ 600)
theorem allV_zero (p : Nat → Bool) : allV p 0 = true := rfl
theorem allV_succ {p : Nat → Bool} {k : Nat} (h : allV p k = true) (hp : p k = true) : allV p (k + 1) = true := allV_of fun i hi => by
  rcases Nat.lt_succ_iff_lt_or_eq.1 hi with h1 | rfl
  · exact allV_at h i h1
  · exact hp
theorem tkGood_kg (x : Tk) (w : World) (hs : x.t.size ≤ 1048576) (_ : TabS w 0 keyNs) (_ : TabS w 1 signNs) :
    Calls Tryd.prog 44 #[.agg #[.int .i64 x.k, .int .i64 x.a, .string x.t, .int .i64 x.v]] w fun e w' => e = .returned (.bool (gdB x)) ∧ Below w.heap.size w w' := tkGood_any x w hs
set_option maxHeartbeats 1000000 in
theorem implareTokens_own (g c n : Nat) (f : Nat → Tk) (w : World) (hn : n ≤ 1048576) (hts : ∀ i, i < n → (f i).t.size ≤ 1048576) (h : OwnT w g n f) (hK : TabS w 0 keyNs) (hG : TabS w 1 signNs) :
    Calls Tryd.prog 53 #[.slice (some ⟨g, 0, none⟩) n c] w fun e w' => e = .returned (.bool (goodB f n)) ∧ Below w.heap.size w w' := by
  have H := Lib.hid h
  have HTS := Lib.hid hts
  have HKG : Hid (∀ W, Below w.heap.size w W → TabS W 0 keyNs ∧ TabS W 1 signNs) := fun W hW => ⟨hK.later hW, hG.later hW⟩
  have hgl := h.1
  clear h hts hK hG
  go_enter Tryd.func53, Tryd.ntmps53
  go_wp2_with fail
  go_loopw [7] (fun i wr => ∃ k : Nat, k ≤ n ∧ i = .int .i64 k ∧ allV (gdAt f) k = true ∧ Below w.heap.size w wr) (fun i _ => n - (intOf i).toNat)
  case atStart => exact ⟨0, Nat.zero_le _, rfl, rfl, Below.refl _ _⟩
  case round =>
    obtain ⟨k, hk, rfl, hall, hb⟩ := hrel
    have HAL := Lib.hid hall
    have HB := Lib.hid hb
    clear hall
    by_cases hlt : k < n
    · obtain ⟨x0, x1, x2, x3⟩ := (H.out.later hb).at_ hlt
      have hgr : g < wr.heap.size := Nat.lt_of_lt_of_le hgl hb.size
      have HC : Hid (∀ W, Below w.heap.size w W → Calls Tryd.prog 17 #[.agg #[.int .i64 (f k).k, .int .i64 (f k).a, .string (f k).t, .int .i64 (f k).v]] W fun e w' => e = .returned (.bool (gdAt f k)) ∧ Below W.heap.size W w') := fun W hW => isToken_any (f k) W (HTS.out k hlt) (HKG.out W hW).1 (HKG.out W hW).2
      clear hb
      cases hp : gdAt f k with
      | true =>
        have HS := Lib.hid (allV_succ HAL.out hp)
        rw [hp] at HC
        clear hp
        generalize f k = x at x0 x1 x2 x3 HC
        go_wp2_with fail
        refine (HC.out _ (by repeat (first | (with_reducible exact HB.out) | (with_reducible refine belAlloc ?_ _)))).mono ?_
        rintro e w1 ⟨rfl, hb1⟩
        have HB1 := Lib.hid (belNext (belAlloc HB.out _) hb1)
        clear hb1
        go_wp2_with fail
        go_roundw
        case rel => exact ⟨k + 1, by omega, by go_num, HS.out, HB1.out⟩
        case measure => simp [intOf]; omega
      | false =>
        have HR : Hid (goodB f n = false) := Lib.hid (by rw [goodB, allV_no hp hlt]; rfl)
        rw [hp] at HC
        clear hp
        generalize f k = x at x0 x1 x2 x3 HC
        go_wp2_with fail
        refine (HC.out _ (by repeat (first | (with_reducible exact HB.out) | (with_reducible refine belAlloc ?_ _)))).mono ?_
        rintro e w1 ⟨rfl, hb1⟩
        have HB1 := Lib.hid (belNext (belAlloc HB.out _) hb1)
        clear hb1
        go_wp2_with fail
        go_ret
        exact ⟨by rw [HR.out]; rfl, HB1.out⟩
    · obtain ⟨m, hm⟩ : ∃ m, k = m := ⟨k, rfl⟩
      have HR : Hid (goodB f n = decide (n ≤ 600)) := Lib.hid (by
        have : k = n := by omega
        rw [goodB, ← this, HAL.out, Bool.true_and])
      clear hb hm
      by_cases h6 : n ≤ 600
      · have hd : decide ((n : Int) ≤ 600) = true := decide_eq_true (by omega)
        rw [decide_eq_true h6] at HR
        go_wp2_with fail
        go_ret
        exact ⟨by rw [HR.out]; rfl, HB.out⟩
      · have hd : decide ((n : Int) ≤ 600) = false := decide_eq_false (by omega)
        rw [decide_eq_false h6] at HR
        go_wp2_with fail
        go_ret
        exact ⟨by rw [HR.out]; rfl, HB.out⟩
theorem implareTokens_nil (A : Option Addr) (c : Nat) (w : World) : Calls Tryd.prog 53 #[.slice A 0 c] w fun e w' => e = .returned (.bool true) ∧ w = w' := by
  go_enter Tryd.func53, Tryd.ntmps53
  go_wp2
  refine wp_loop_rounds 1 ?_; rw [rounds_succ]
  go_wp2
  go_ret
  exact ⟨rfl, rfl⟩
set_option maxHeartbeats 1000000 in
theorem spectkList_own (g c n : Nat) (f : Nat → Tk) (w : World) (hn : n ≤ 1048576) (hts : ∀ i, i < n → (f i).t.size ≤ 1048576) (h : OwnT w g n f) (hK : TabS w 0 keyNs) (hG : TabS w 1 signNs) :
    Calls Tryd.prog 52 #[.slice (some ⟨g, 0, none⟩) n c] w fun e w' => e = .returned (.bool (goodB f n)) ∧ Below w.heap.size w w' := by
  have H := Lib.hid h
  have HTS := Lib.hid hts
  have HKG : Hid (∀ W, Below w.heap.size w W → TabS W 0 keyNs ∧ TabS W 1 signNs) := fun W hW => ⟨hK.later hW, hG.later hW⟩
  have hgl := h.1
  clear h hts hK hG
  go_enter Tryd.func52, Tryd.ntmps52
  go_wp2_with fail
  go_loopw [7] (fun i wr => ∃ k : Nat, k ≤ n ∧ i = .int .i64 k ∧ allV (gdAt f) k = true ∧ Below w.heap.size w wr) (fun i _ => n - (intOf i).toNat)
  case atStart => exact ⟨0, Nat.zero_le _, rfl, rfl, Below.refl _ _⟩
  case round =>
    obtain ⟨k, hk, rfl, hall, hb⟩ := hrel
    have HAL := Lib.hid hall
    have HB := Lib.hid hb
    clear hall
    by_cases hlt : k < n
    · obtain ⟨x0, x1, x2, x3⟩ := (H.out.later hb).at_ hlt
      have hgr : g < wr.heap.size := Nat.lt_of_lt_of_le hgl hb.size
      have HC : Hid (∀ W, Below w.heap.size w W → Calls Tryd.prog 44 #[.agg #[.int .i64 (f k).k, .int .i64 (f k).a, .string (f k).t, .int .i64 (f k).v]] W fun e w' => e = .returned (.bool (gdAt f k)) ∧ Below W.heap.size W w') := fun W hW => tkGood_kg (f k) W (HTS.out k hlt) (HKG.out W hW).1 (HKG.out W hW).2
      clear hb
      cases hp : gdAt f k with
      | true =>
        have HS := Lib.hid (allV_succ HAL.out hp)
        rw [hp] at HC
        clear hp
        generalize f k = x at x0 x1 x2 x3 HC
        go_wp2_with fail
        refine (HC.out _ (by repeat (first | (with_reducible exact HB.out) | (with_reducible refine belAlloc ?_ _)))).mono ?_
        rintro e w1 ⟨rfl, hb1⟩
        have HB1 := Lib.hid (belNext (belAlloc HB.out _) hb1)
        clear hb1
        go_wp2_with fail
        go_roundw
        case rel => exact ⟨k + 1, by omega, by go_num, HS.out, HB1.out⟩
        case measure => simp [intOf]; omega
      | false =>
        have HR : Hid (goodB f n = false) := Lib.hid (by rw [goodB, allV_no hp hlt]; rfl)
        rw [hp] at HC
        clear hp
        generalize f k = x at x0 x1 x2 x3 HC
        go_wp2_with fail
        refine (HC.out _ (by repeat (first | (with_reducible exact HB.out) | (with_reducible refine belAlloc ?_ _)))).mono ?_
        rintro e w1 ⟨rfl, hb1⟩
        have HB1 := Lib.hid (belNext (belAlloc HB.out _) hb1)
        clear hb1
        go_wp2_with fail
        go_ret
        exact ⟨by rw [HR.out]; rfl, HB1.out⟩
    · obtain ⟨m, hm⟩ : ∃ m, k = m := ⟨k, rfl⟩
      have HR : Hid (goodB f n = decide (n ≤ 600)) := Lib.hid (by
        have : k = n := by omega
        rw [goodB, ← this, HAL.out, Bool.true_and])
      clear hb hm
      by_cases h6 : n ≤ 600
      · have hd : decide ((n : Int) ≤ 600) = true := decide_eq_true (by omega)
        rw [decide_eq_true h6] at HR
        go_wp2_with fail
        go_ret
        exact ⟨by rw [HR.out]; rfl, HB.out⟩
      · have hd : decide ((n : Int) ≤ 600) = false := decide_eq_false (by omega)
        rw [decide_eq_false h6] at HR
        go_wp2_with fail
        go_ret
        exact ⟨by rw [HR.out]; rfl, HB.out⟩
theorem spectkList_nil (A : Option Addr) (c : Nat) (w : World) : Calls Tryd.prog 52 #[.slice A 0 c] w fun e w' => e = .returned (.bool true) ∧ w = w' := by
  go_enter Tryd.func52, Tryd.ntmps52
  go_wp2
  refine wp_loop_rounds 1 ?_; rw [rounds_succ]
  go_wp2
  go_ret
  exact ⟨rfl, rfl⟩
end Go.Proofs.YtopolfibledmnaaDoor
