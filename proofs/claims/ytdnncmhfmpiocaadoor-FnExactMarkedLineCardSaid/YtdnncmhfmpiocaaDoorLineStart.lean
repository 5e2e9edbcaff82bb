/-
  Where a line starts: the program's lineStart, the reference's erStart.
-/
import Derived.Test.YtdnncmhfmpiocaaDoorL1Split
import Derived.Test.YtdnncmhfmpiocaaDoorIn
import Derived.Deep.QuietTactic
import Derived.BigQuiet
import Derived.IntWalk
namespace Go.Proofs.YtdnncmhfmpiocaaDoor
open Go.RowKit
/-- The offset of line k + 1. -/
def offs (L : List ByteArray) : Nat → Int
  | 0 => 0
  | k + 1 => offs L k + (((L.getD k ⟨#[]⟩).size : Int) + 1)
theorem offs_bd {L : List ByteArray} {m : Nat} (h : ∀ i, (L.getD i ⟨#[]⟩).size ≤ m) : ∀ k : Nat, 0 ≤ offs L k ∧ offs L k ≤ k * ((m : Int) + 1)
  | 0 => by simp [offs]
  | k + 1 => by
    have h1 := offs_bd h k
    have h2 := h k
    have e : ((k + 1 : Nat) : Int) * ((m : Int) + 1) = k * ((m : Int) + 1) + ((m : Int) + 1) := by rw [Int.natCast_add, Int.add_mul]; simp
    rw [e, offs]
    omega
theorem pcs_sz (s : ByteArray) (b : Int) (a : Nat) : ∀ x ∈ pcs s b a, x.size ≤ s.size := by
  intro x hx
  rw [pcs] at hx
  split at hx
  · rcases List.mem_cons.1 hx with rfl | hx
    · simp; omega
    · have := nxt_ge s b a
      exact pcs_sz s b (nxt s b a + 1) x hx
  · simp at hx
    subst hx
    simp
termination_by s.size - a
theorem pcs_getD (s : ByteArray) (b : Int) (i : Nat) : ((pcs s b 0).getD i ⟨#[]⟩).size ≤ s.size := by
  rcases Nat.lt_or_ge i (pcs s b 0).length with h | h
  · rw [List.getD_eq_getElem?_getD, List.getElem?_eq_getElem h]
    exact pcs_sz s b 0 _ (List.getElem_mem h)
  · rw [List.getD_eq_getElem?_getD, List.getElem?_eq_none h]
    exact Nat.zero_le _
theorem offs_le (s : ByteArray) (hs : s.size ≤ 6000) (k : Nat) (hk : k ≤ 6001) : 0 ≤ offs (pcs s 10 0) k ∧ offs (pcs s 10 0) k ≤ 100000000 := by
  have h := offs_bd (L := pcs s 10 0) (m := 6000) (fun i => Nat.le_trans (pcs_getD s 10 i) hs) k
  have : (k : Int) * ((6000 : Nat) + 1 : Int) ≤ 6001 * 6001 := by omega
  omega
set_option maxHeartbeats 1000000 in
theorem erStart_no (s : ByteArray) (x : Int) (w : World) (hs : s.size ≤ 6000) (h : x < 1 ∨ ((pcs s 10 0).length : Int) < x) :
    Calls Tryd.prog 30 #[.string s, .int .i64 x] w fun e w' => e = .returned (.int .i64 (-1)) ∧ Below w.heap.size w w' := by
  have HS := Lib.hid (l1Split_any s 10 w (by omega))
  have hl := pcs_len s 10 0
  generalize pcs s 10 0 = L at *
  go_enter Tryd.func30, Tryd.ntmps30
  go_wp2_with fail
  refine HS.out.mono ?_
  rintro e w1 ⟨v, rfl, g, c, rfl, hcap, hg, hown, hb⟩
  have HB := Lib.hid hb
  clear hb hown hg
  go_wp2_with (go_at_call 22; refine (l1In_no _ _ _ _ h).mono ?_; rintro e w2 ⟨rfl, rfl⟩)
  go_ret
  exact ⟨rfl, HB.out⟩
set_option maxHeartbeats 1000000 in
theorem erStart_yes (s : ByteArray) (k : Nat) (w : World) (hs : s.size ≤ 6000) (hk : k < (pcs s 10 0).length) :
    Calls Tryd.prog 30 #[.string s, .int .i64 ((k : Int) + 1)] w fun e w' => e = .returned (.int .i64 (offs (pcs s 10 0) k)) ∧ Below w.heap.size w w' := by
  have HS := Lib.hid (l1Split_any s 10 w (by omega))
  have hl := pcs_len s 10 0
  have HO := Lib.hid (fun i (hi : i ≤ 6001) => offs_le s hs i hi)
  have HG := Lib.hid (pcs_getD s 10)
  generalize pcs s 10 0 = L at *
  go_enter Tryd.func30, Tryd.ntmps30
  go_wp2_with fail
  refine HS.out.mono ?_
  rintro e w1 ⟨v, rfl, g, c, rfl, hcap, hg, hown, hb⟩
  have HB := Lib.hid hb
  have HW := Lib.hid hown
  clear hb hown hg
  go_wp2_with (go_at_call 22; refine (l1In_yes _ _ _ _ (by omega) (by omega)).mono ?_; rintro e w2 ⟨rfl, rfl⟩)
  go_loop [6, 21] (fun t i => ∃ j : Nat, j ≤ k ∧ i = .int .i64 j ∧ t = .int .i64 (offs L j)) (fun _ i => k - (intOf i).toNat)
  case atStart => exact ⟨0, Nat.zero_le _, rfl, rfl⟩
  case round =>
    obtain ⟨j, hj, rfl, rfl⟩ := hrel
    obtain ⟨o1, o2⟩ := HO.out j (by omega)
    by_cases hlt : j < k
    · have hcell : w1.cell? ⟨g, j, none⟩ = some (.string (L.getD j ⟨#[]⟩)) := HW.out.cell (by omega)
      have hsz := HG.out j
      have HN : Hid (offs L (j + 1) = offs L j + (((L.getD j ⟨#[]⟩).size : Int) + 1)) := rfl
      generalize L.getD j ⟨#[]⟩ = p at *
      go_wp2
      go_round
      case rel => exact ⟨j + 1, by omega, by go_num, by rw [HN.out]⟩
      case measure => simp [intOf]; omega
    · obtain rfl : j = k := by omega
      go_wp2
      go_ret
      exact ⟨rfl, HB.out⟩
set_option maxHeartbeats 1000000 in
theorem lineStart_no (s : ByteArray) (x : Int) (w : World) (hM : MaxL w) (hs : s.size ≤ 6000) (h : x < 1 ∨ ((pcs s 10 0).length : Int) < x) :
    Calls Tryd.prog 32 #[.string s, .int .i64 x] w fun e w' => e = .returned (.tuple #[.int .i64 0, .string ⟨#[]⟩, .bool false]) ∧ Below w.heap.size w w' := by
  have HS := Lib.hid (split_any s 10 w hM (by omega))
  have hl := pcs_len s 10 0
  clear hM
  have e10 : ((10 : UInt8).toNat : Int) = 10 := rfl
  rw [e10] at HS
  clear e10
  generalize pcs s 10 0 = L at *
  rcases (show x < 1 ∨ (1 ≤ x ∧ (L.length : Int) < x) by omega) with h1 | ⟨h1, h2⟩
  · clear h
    go_enter Tryd.func32, Tryd.ntmps32
    go_wp2_with fail
    refine HS.out.mono ?_
    rintro e w1 ⟨v, rfl, g, c, rfl, hcap, hg, hown, hb⟩
    have HB := Lib.hid hb
    clear hb hown hg
    go_wp2_with fail
    go_ret3
    exact ⟨rfl, HB.out⟩
  · clear h
    go_enter Tryd.func32, Tryd.ntmps32
    go_wp2_with fail
    refine HS.out.mono ?_
    rintro e w1 ⟨v, rfl, g, c, rfl, hcap, hg, hown, hb⟩
    have HB := Lib.hid hb
    clear hb hown hg
    go_wp2_with fail
    go_ret3
    exact ⟨rfl, HB.out⟩
set_option maxHeartbeats 1000000 in
theorem lineStart_yes (s : ByteArray) (k : Nat) (w : World) (hM : MaxL w) (hs : s.size ≤ 6000) (hk : k < (pcs s 10 0).length) :
    Calls Tryd.prog 32 #[.string s, .int .i64 ((k : Int) + 1)] w fun e w' => e = .returned (.tuple #[.int .i64 (offs (pcs s 10 0) k), .string ((pcs s 10 0).getD k ⟨#[]⟩), .bool true]) ∧ Below w.heap.size w w' := by
  have HS := Lib.hid (split_any s 10 w hM (by omega))
  have hl := pcs_len s 10 0
  have HO := Lib.hid (fun i (hi : i ≤ 6001) => offs_le s hs i hi)
  have HG := Lib.hid (pcs_getD s 10)
  clear hM
  have e10 : ((10 : UInt8).toNat : Int) = 10 := rfl
  rw [e10] at HS
  clear e10
  generalize pcs s 10 0 = L at *
  have HLK : Hid (∃ q, L.getD k ⟨#[]⟩ = q) := ⟨_, rfl⟩
  obtain ⟨q, hq⟩ := HLK.out
  rw [hq]
  have HQ := Lib.hid hq
  clear hq HLK
  go_enter Tryd.func32, Tryd.ntmps32
  go_wp2_with fail
  refine HS.out.mono ?_
  rintro e w1 ⟨v, rfl, g, c, rfl, hcap, hg, hown, hb⟩
  have HB := Lib.hid hb
  have HW := Lib.hid hown
  clear hb hown hg
  go_wp2_with fail
  go_loop [8, 26] (fun t i => ∃ j : Nat, j ≤ k ∧ i = .int .i64 j ∧ t = .int .i64 (offs L j)) (fun _ i => k - (intOf i).toNat)
  case atStart => exact ⟨0, Nat.zero_le _, rfl, rfl⟩
  case round =>
    obtain ⟨j, hj, rfl, rfl⟩ := hrel
    obtain ⟨o1, o2⟩ := HO.out j (by omega)
    by_cases hlt : j < k
    · have hcell : w1.cell? ⟨g, j, none⟩ = some (.string (L.getD j ⟨#[]⟩)) := HW.out.cell (by omega)
      have hsz := HG.out j
      have HN : Hid (offs L (j + 1) = offs L j + (((L.getD j ⟨#[]⟩).size : Int) + 1)) := rfl
      generalize L.getD j ⟨#[]⟩ = p at *
      go_wp2
      go_round
      case rel => exact ⟨j + 1, by omega, by go_num, by rw [HN.out]⟩
      case measure => simp [intOf]; omega
    · obtain rfl : j = k := by omega
      have hcell : w1.cell? ⟨g, j, none⟩ = some (.string (L.getD j ⟨#[]⟩)) := HW.out.cell (by omega)
      rw [HQ.out] at hcell
      have e1 : IntKind.i64.wrap ((j : Int) + 1 - 1) = (j : Int) := by rw [IntWalk.i64_in _ (by omega)]; omega
      have e1' : (j : Int) + 1 - 1 = (j : Int) := by omega
      have hjl : (j : Int) < (L.length : Int) := by omega
      go_wp2
      go_quiet (fail)
      all_goals
        go_wp2
        go_ret3
        exact ⟨rfl, ⟨HB.out.os, HB.out.tape, HB.out.output, HB.out.size, HB.out.block⟩⟩
end Go.Proofs.YtdnncmhfmpiocaaDoor
