/-
  The reference's nuUnits, nuSize and nuRead, walked once each: nuRead returns the plain rnD.
-/
import Derived.Test.YtopolfibledmnaaDoorReadHexWalk
import Derived.Deep.RegionWith
namespace Go.Proofs.YtopolfibledmnaaDoor
open Go.RowKit
/-- A number of units, or -1 if it is none. -/
def scaleD (x u : Int) : Int := if x ≤ 0 then -1 else x * u
/-- The value of a decimal text, or -1. -/
def rnD (s : ByteArray) : Int :=
  if 0 < s.size ∧ byt s (s.size - 1) = 109 then scaleD (numD (byt s) (s.size - 1) 10 1000) 1000000
  else if 0 < s.size ∧ byt s (s.size - 1) = 107 then scaleD (numD (byt s) (s.size - 1) 10 1000000) 1000
  else numD (byt s) s.size 10 1000000000
theorem numD_le (c : Nat → Int) (n : Nat) (base most : Int) (hm : 0 ≤ most) : numD c n base most ≤ most := by
  unfold numD
  split
  · rename_i h
    simp only [numO, Bool.and_eq_true, decide_eq_true_eq] at h
    obtain ⟨⟨⟨h0, _⟩, _⟩, h3⟩ := h
    have := allV_at h3 (n - 1) (by omega)
    rw [leB, show n - 1 + 1 = n by omega] at this
    exact of_decide_eq_true this
  · omega
theorem last_byte {s : ByteArray} (h : 0 < s.size) : ∃ x : UInt8, (s.extract (s.size - 1) s.size).toList = [x] ∧ byt s (s.size - 1) = (x.toNat : Int) := by
  have hl : s.data.toList.length = s.size := by simp
  refine ⟨s.data.toList[s.size - 1]'(by omega), ?_, ?_⟩
  · rw [ByteArray.toList_eq, Lib.extract_data, show s.size - (s.size - 1) = 1 by omega, List.drop_eq_getElem_cons (by omega)]
    rfl
  · rw [byt, List.getElem?_eq_getElem (by omega)]; rfl
theorem last_yes {s : ByteArray} (h : 0 < s.size) (c : UInt8) (hc : byt s (s.size - 1) = (c.toNat : Int)) : ((s.extract (s.size - 1) s.size).toList == [c]) = true := by
  obtain ⟨x, e, e1⟩ := last_byte h
  have : x = c := UInt8.toNat_inj.1 (by omega)
  rw [e, this]; simp
theorem last_no {s : ByteArray} (h : 0 < s.size) (c : UInt8) (hc : byt s (s.size - 1) ≠ (c.toNat : Int)) : ((s.extract (s.size - 1) s.size).toList == [c]) = false := by
  obtain ⟨x, e, e1⟩ := last_byte h
  rw [e]
  cases hb : ([x] == [c]) with
  | false => rfl
  | true =>
    have := eq_of_beq hb
    simp only [List.cons.injEq, and_true] at this
    exact absurd (by rw [e1, this]) hc
theorem nuUnits_any (w : World) : Calls Tryd.prog 94 #[] w fun e w' => e = .returned (.slice (some ⟨w.heap.size, 0, none⟩) 3 3) ∧ w' = w.alloc (.cells #[.string ⟨#[109]⟩, .string ⟨#[107]⟩, .string ⟨#[]⟩] 9) := by
  go_enter Tryd.func94, Tryd.ntmps94
  go_wp2
  go_ret
  exact ⟨rfl, rfl⟩
theorem nuSize_m (w : World) : Calls Tryd.prog 95 #[.int .i64 0] w fun e w' => e = .returned (.int .i64 1000000) ∧ w' = w.alloc (.cells #[.int .i64 1000000, .int .i64 1000, .int .i64 1] 3) := by
  go_enter Tryd.func95, Tryd.ntmps95
  go_wp2
  go_ret
  exact ⟨rfl, rfl⟩
theorem nuSize_k (w : World) : Calls Tryd.prog 95 #[.int .i64 1] w fun e w' => e = .returned (.int .i64 1000) ∧ w' = w.alloc (.cells #[.int .i64 1000000, .int .i64 1000, .int .i64 1] 3) := by
  go_enter Tryd.func95, Tryd.ntmps95
  go_wp2
  go_ret
  exact ⟨rfl, rfl⟩
set_option maxHeartbeats 4000000 in
theorem nuRead_any (s : ByteArray) (w : World) (hs : s.size ≤ 1048576) :
    Calls Tryd.prog 92 #[.string s] w fun e w' => e = .returned (.int .i64 (rnD s)) ∧ Below w.heap.size w w' := by
  have hU := Lib.hid (nuUnits_any w)
  rcases Nat.eq_zero_or_pos s.size with hz | hpos
  · rw [rnD, if_neg (by omega), if_neg (by omega)]
    have hd : decide (0 < (s.size : Int)) = false := decide_eq_false (by omega)
    have H2 : Hid (∀ W, Calls Tryd.prog 93 #[.string s, .int .i64 10, .int .i64 1000000000] W fun e w' => e = .returned (.int .i64 (numD (byt s) s.size 10 1000000000)) ∧ W = w') := fun W => nuDigits_any s (byt s) 10 1000000000 W hs (fun _ _ => rfl) (by omega) (by omega) (by omega) (by omega)
    generalize numD (byt s) s.size 10 1000000000 = x at H2 ⊢
    go_enter Tryd.func92, Tryd.ntmps92
    go_wp2_with (first | (go_at_call 94; refine hU.out.mono ?_; rintro e w1 ⟨rfl, rfl⟩))
    refine wp_loop_rounds 4 ?_
    rw [rounds_succ]; go_wp2_with fail
    rw [rounds_succ]; go_wp2_with fail
    rw [rounds_succ]; go_wp2_with fail
    rw [rounds_succ]; go_wp2_with (go_at_call 93; refine (H2.out _).mono ?_; rintro e w1 ⟨rfl, rfl⟩)
    go_ret
    exact ⟨rfl, by repeat (first | exact Below.refl _ _ | assumption | refine Below.alloc ?_ (by simp; try omega) _ | refine Below.setCell ?_ (by simp; try omega) _ | refine Below.drew ?_)⟩
  have hpos' : 0 < (s.size : Int) := by omega
  have hw := IntWalk.i64_in ((s.size : Int) - 1) (by omega)
  have htn : ((s.size : Int) - 1).toNat = s.size - 1 := by omega
  by_cases hm : byt s (s.size - 1) = 109
  · rw [rnD, if_pos ⟨hpos, hm⟩]
    have hl := last_yes hpos 109 hm
    have hb := numD_le (byt s) (s.size - 1) 10 1000 (by omega)
    have H2 : Hid (∀ W, Calls Tryd.prog 93 #[.string (s.extract 0 (s.size - 1)), .int .i64 10, .int .i64 1000] W fun e w' => e = .returned (.int .i64 (numD (byt s) (s.size - 1) 10 1000)) ∧ W = w') := fun W => by
      have := nuDigits_any (s.extract 0 (s.size - 1)) (byt s) 10 1000 W (by rw [size_extract (by omega)]; omega) (fun i hi => by rw [size_extract (by omega)] at hi; rw [byt_extract (by omega), Nat.zero_add]) (by omega) (by omega) (by omega) (by omega)
      rw [size_extract (by omega)] at this
      exact this
    generalize numD (byt s) (s.size - 1) 10 1000 = x at H2 hb ⊢
    clear hm
    by_cases hx : x ≤ 0
    · rw [scaleD, if_pos hx]
      go_enter Tryd.func92, Tryd.ntmps92
      go_wp2_with (first | (go_at_call 94; refine hU.out.mono ?_; rintro e w1 ⟨rfl, rfl⟩))
      refine wp_loop_rounds 4 ?_
      rw [rounds_succ]; go_wp2_with fail
      go_region_with (first | (go_at_call 95; refine (nuSize_m _).mono ?_; rintro e w1 ⟨rfl, rfl⟩) | (go_at_call 93; refine (H2.out _).mono ?_; rintro e w1 ⟨rfl, rfl⟩))
      all_goals
        go_wp2_with fail
        go_ret
        exact ⟨rfl, by repeat (first | exact Below.refl _ _ | assumption | refine Below.alloc ?_ (by simp; try omega) _ | refine Below.setCell ?_ (by simp; try omega) _ | refine Below.drew ?_)⟩
    · rw [scaleD, if_neg hx]
      go_enter Tryd.func92, Tryd.ntmps92
      go_wp2_with (first | (go_at_call 94; refine hU.out.mono ?_; rintro e w1 ⟨rfl, rfl⟩))
      refine wp_loop_rounds 4 ?_
      rw [rounds_succ]; go_wp2_with fail
      go_region_with (first | (go_at_call 95; refine (nuSize_m _).mono ?_; rintro e w1 ⟨rfl, rfl⟩) | (go_at_call 93; refine (H2.out _).mono ?_; rintro e w1 ⟨rfl, rfl⟩))
      all_goals
        go_wp2_with (go_at_call 95; refine (nuSize_m _).mono ?_; rintro e w1 ⟨rfl, rfl⟩)
        go_ret
        exact ⟨rfl, by repeat (first | exact Below.refl _ _ | assumption | refine Below.alloc ?_ (by simp; try omega) _ | refine Below.setCell ?_ (by simp; try omega) _ | refine Below.drew ?_)⟩
  by_cases hm2 : byt s (s.size - 1) = 107
  · rw [rnD, if_neg (fun h => hm h.2), if_pos ⟨hpos, hm2⟩]
    have hl0 := last_no hpos 109 hm
    have hl := last_yes hpos 107 hm2
    clear hm2
    have hb := numD_le (byt s) (s.size - 1) 10 1000000 (by omega)
    have H2 : Hid (∀ W, Calls Tryd.prog 93 #[.string (s.extract 0 (s.size - 1)), .int .i64 10, .int .i64 1000000] W fun e w' => e = .returned (.int .i64 (numD (byt s) (s.size - 1) 10 1000000)) ∧ W = w') := fun W => by
      have := nuDigits_any (s.extract 0 (s.size - 1)) (byt s) 10 1000000 W (by rw [size_extract (by omega)]; omega) (fun i hi => by rw [size_extract (by omega)] at hi; rw [byt_extract (by omega), Nat.zero_add]) (by omega) (by omega) (by omega) (by omega)
      rw [size_extract (by omega)] at this
      exact this
    generalize numD (byt s) (s.size - 1) 10 1000000 = x at H2 hb ⊢
    clear hm
    by_cases hx : x ≤ 0
    · rw [scaleD, if_pos hx]
      go_enter Tryd.func92, Tryd.ntmps92
      go_wp2_with (first | (go_at_call 94; refine hU.out.mono ?_; rintro e w1 ⟨rfl, rfl⟩))
      refine wp_loop_rounds 4 ?_
      rw [rounds_succ]; go_wp2_with fail
      rw [rounds_succ]; go_wp2_with fail
      go_region_with (first | (go_at_call 95; refine (nuSize_k _).mono ?_; rintro e w1 ⟨rfl, rfl⟩) | (go_at_call 93; refine (H2.out _).mono ?_; rintro e w1 ⟨rfl, rfl⟩))
      all_goals
        go_wp2_with fail
        go_ret
        exact ⟨rfl, by repeat (first | exact Below.refl _ _ | assumption | refine Below.alloc ?_ (by simp; try omega) _ | refine Below.setCell ?_ (by simp; try omega) _ | refine Below.drew ?_)⟩
    · rw [scaleD, if_neg hx]
      go_enter Tryd.func92, Tryd.ntmps92
      go_wp2_with (first | (go_at_call 94; refine hU.out.mono ?_; rintro e w1 ⟨rfl, rfl⟩))
      refine wp_loop_rounds 4 ?_
      rw [rounds_succ]; go_wp2_with fail
      rw [rounds_succ]; go_wp2_with fail
      go_region_with (first | (go_at_call 95; refine (nuSize_k _).mono ?_; rintro e w1 ⟨rfl, rfl⟩) | (go_at_call 93; refine (H2.out _).mono ?_; rintro e w1 ⟨rfl, rfl⟩))
      all_goals
        go_wp2_with (go_at_call 95; refine (nuSize_k _).mono ?_; rintro e w1 ⟨rfl, rfl⟩)
        go_ret
        exact ⟨rfl, by repeat (first | exact Below.refl _ _ | assumption | refine Below.alloc ?_ (by simp; try omega) _ | refine Below.setCell ?_ (by simp; try omega) _ | refine Below.drew ?_)⟩
  rw [rnD, if_neg (fun h => hm h.2), if_neg (fun h => hm2 h.2)]
  have hl0 := last_no hpos 109 hm
  have hl := last_no hpos 107 hm2
  have H2 : Hid (∀ W, Calls Tryd.prog 93 #[.string s, .int .i64 10, .int .i64 1000000000] W fun e w' => e = .returned (.int .i64 (numD (byt s) s.size 10 1000000000)) ∧ W = w') := fun W => nuDigits_any s (byt s) 10 1000000000 W hs (fun _ _ => rfl) (by omega) (by omega) (by omega) (by omega)
  generalize numD (byt s) s.size 10 1000000000 = x at H2 ⊢
  clear hm hm2
  go_enter Tryd.func92, Tryd.ntmps92
  go_wp2_with (first | (go_at_call 94; refine hU.out.mono ?_; rintro e w1 ⟨rfl, rfl⟩))
  refine wp_loop_rounds 4 ?_
  rw [rounds_succ]; go_wp2_with fail
  rw [rounds_succ]; go_wp2_with fail
  rw [rounds_succ]; go_wp2_with fail
  rw [rounds_succ]; go_wp2_with (go_at_call 93; refine (H2.out _).mono ?_; rintro e w1 ⟨rfl, rfl⟩)
  go_ret
  exact ⟨rfl, by repeat (first | exact Below.refl _ _ | assumption | refine Below.alloc ?_ (by simp; try omega) _ | refine Below.setCell ?_ (by simp; try omega) _ | refine Below.drew ?_)⟩
end Go.Proofs.YtopolfibledmnaaDoor
