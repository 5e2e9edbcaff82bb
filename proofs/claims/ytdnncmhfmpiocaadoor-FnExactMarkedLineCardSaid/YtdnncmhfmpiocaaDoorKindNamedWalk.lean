/-
  KindNamed, the program's and the reference's: the first place of the text in the table; the walk of FnExactKindNamed.
-/
import Derived.Test.YtdnncmhfmpiocaaDoorFaultNames
import Derived.Test.YtdnncmhfmpiocaaDoorTabs
import Derived.Test.YtdnncmhfmpiocaaDoorBel
import Derived.Test.YtdnncmhfmpiocaaDoorIn
import Derived.Lib.Hide
namespace Go.Proofs.YtdnncmhfmpiocaaDoor
open Go.RowKit
def kdP (s : ByteArray) (k : Nat) : Bool := (strAt faultNs k).toList == s.toList
def kdI (s : ByteArray) : Nat := fstOf (kdP s) 0 8
def kdV (s : ByteArray) : Int := if kdI s < 8 then (kdI s : Int) else 0
def kdN (s : ByteArray) : Int := if kdI s < 8 then (kdI s : Int) else -1
def kdB (s : ByteArray) : Bool := decide (kdI s < 8)
theorem kd_yes {s : ByteArray} {k : Nat} (h : k < 8) (e : fstOf (kdP s) k (8 - k) = kdI s) (hp : kdP s k = true) : kdV s = k ∧ kdN s = k ∧ kdB s = true := by
  rw [fstOf_yes h hp] at e
  unfold kdV kdN kdB
  rw [← e, if_pos h, if_pos h]
  exact ⟨rfl, rfl, decide_eq_true h⟩
theorem kd_none {s : ByteArray} (e : fstOf (kdP s) 8 (8 - 8) = kdI s) : kdV s = 0 ∧ kdN s = -1 ∧ kdB s = false := by
  have e8 : kdI s = 8 := e.symm
  unfold kdV kdN kdB
  rw [e8]
  exact ⟨rfl, rfl, rfl⟩
theorem kdN_cases (s : ByteArray) : (kdN s = kdV s ∧ kdB s = true ∧ 0 ≤ kdV s ∧ kdV s ≤ 8) ∨ (kdN s = -1 ∧ kdV s = 0 ∧ kdB s = false) := by
  by_cases h : kdI s < 8
  · left; simp [kdN, kdV, kdB, h]; omega
  · right; simp [kdN, kdV, kdB, h]
theorem faultTab_cells {w : World} (h : FaultTab w) (j : Nat) (v : Value) (hv : (strVals faultNs)[j]? = some v) : w.cell? ⟨0, j, none⟩ = some v := by
  simp only [strVals, List.getElem?_toArray, List.getElem?_map, Option.map_eq_some_iff] at hv
  obtain ⟨l, hl, rfl⟩ := hv
  exact h.2 j l hl
set_option maxHeartbeats 1000000 in
theorem implKindNamed_any (s : ByteArray) (w : World) (hT : FaultTab w) :
    Calls Tryd.prog 12 #[.string s] w fun e w' => e = .returned (.tuple #[.int .i64 (kdV s), .bool (kdB s)]) ∧ w = w' := by
  have HT := Lib.hid (faultTab_cells hT)
  clear hT
  go_enter Tryd.func12, Tryd.ntmps12
  go_wp2_with (with_reducible refine wpList_load_list rfl 43 _ rfl 0 rfl (strVals faultNs) _ HT.out Tryd.underlying43 rfl (by kernel_rfl) ?_)
  go_loop [7] (fun i => ∃ k : Nat, k ≤ 8 ∧ i = .int .i64 k ∧ fstOf (kdP s) k (8 - k) = kdI s) (fun i => 8 - (intOf i).toNat)
  case atStart => exact ⟨0, Nat.zero_le _, rfl, rfl⟩
  case round =>
    obtain ⟨k, hk, rfl, hq⟩ := hrel
    have HQ := Lib.hid hq
    clear hq
    by_cases hlt : k < 8
    · have hix := fun w => run_index_strs (P := Tryd.prog) 43 9 8 faultNs k hlt rfl Tryd.underlying43 Tryd.underlying9 (by kernel_rfl) w
      by_cases hp : kdP s k = true
      · have HR := Lib.hid (kd_yes hlt HQ.out hp)
        have ht : ((strAt faultNs k).toList == s.toList) = true := hp
        clear hp
        go_wp2
        go_ret2
        exact ⟨by rw [HR.out.1, HR.out.2.2]; rfl, rfl⟩
      · have hp' : kdP s k = false := by simpa using hp
        have HR := Lib.hid ((fstOf_no hlt hp').symm.trans HQ.out)
        have ht : ((strAt faultNs k).toList == s.toList) = false := hp'
        clear hp hp'
        go_wp2
        go_round
        case rel => exact ⟨k + 1, by omega, by go_num, HR.out⟩
        case measure => simp [intOf]; omega
    · obtain rfl : k = 8 := by omega
      have HR := Lib.hid (kd_none HQ.out)
      go_wp2
      go_ret2
      exact ⟨by rw [HR.out.1, HR.out.2.2]; rfl, rfl⟩
theorem erNames_any (w : World) : Calls Tryd.prog 23 #[] w fun e w' => e = .returned (.slice (some ⟨w.heap.size, 0, none⟩) 8 8) ∧ w.alloc (.cells (strVals faultNs) 9) = w' := by
  go_enter Tryd.func23, Tryd.ntmps23
  go_wp2
  go_ret
  exact ⟨rfl, rfl⟩
set_option maxHeartbeats 1000000 in
theorem erNamed_any (s : ByteArray) (w : World) :
    Calls Tryd.prog 24 #[.string s] w fun e w' => e = .returned (.int .i64 (kdN s)) ∧ w.alloc (.cells (strVals faultNs) 9) = w' := by
  go_enter Tryd.func24, Tryd.ntmps24
  go_wp2_with (go_at_call 23; refine (erNames_any _).mono ?_; rintro e w1 ⟨rfl, rfl⟩)
  go_loop [7] (fun i => ∃ k : Nat, k ≤ 8 ∧ i = .int .i64 k ∧ fstOf (kdP s) k (8 - k) = kdI s) (fun i => 8 - (intOf i).toNat)
  case atStart => exact ⟨0, Nat.zero_le _, rfl, rfl⟩
  case round =>
    obtain ⟨k, hk, rfl, hq⟩ := hrel
    have HQ := Lib.hid hq
    clear hq
    by_cases hlt : k < 8
    · have hcell : (w.alloc (.cells (strVals faultNs) 9)).cell? ⟨w.heap.size, k, none⟩ = some (.string (strAt faultNs k)) := by
        rw [World.cell?, heap_alloc_new]
        exact strVals_get faultNs k hlt
      by_cases hp : kdP s k = true
      · have HR := Lib.hid (kd_yes hlt HQ.out hp)
        have ht : ((strAt faultNs k).toList == s.toList) = true := hp
        clear hp
        go_wp2
        go_ret
        exact ⟨by rw [HR.out.2.1]; rfl, rfl⟩
      · have hp' : kdP s k = false := by simpa using hp
        have HR := Lib.hid ((fstOf_no hlt hp').symm.trans HQ.out)
        have ht : ((strAt faultNs k).toList == s.toList) = false := hp'
        clear hp hp'
        go_wp2
        go_round
        case rel => exact ⟨k + 1, by omega, by go_num, HR.out⟩
        case measure => simp [intOf]; omega
    · obtain rfl : k = 8 := by omega
      have HR := Lib.hid (kd_none HQ.out)
      go_wp2
      go_ret
      exact ⟨by rw [HR.out.2.1]; rfl, rfl⟩
theorem specKindNamed_any (s : ByteArray) (w : World) :
    Calls Tryd.prog 11 #[.string s] w fun e w' => e = .returned (.tuple #[.int .i64 (kdV s), .bool (kdB s)]) ∧ Below w.heap.size w w' := by
  rcases kdN_cases s with ⟨h1, h2, h3, h4⟩ | ⟨h1, h2, h3⟩
  · have H0 : ∀ W, Calls Tryd.prog 24 #[.string s] W fun e w' => e = .returned (.int .i64 (kdV s)) ∧ W.alloc (.cells (strVals faultNs) 9) = w' := fun W => by
      have := erNamed_any s W
      rwa [h1] at this
    have H := Lib.hid H0
    rw [h2]
    clear H0 h1 h2
    go_enter Tryd.func11, Tryd.ntmps11
    go_wp2_with (go_at_call 24; refine (H.out _).mono ?_; rintro e w1 ⟨rfl, rfl⟩)
    go_ret2
    exact ⟨rfl, by (repeat refine belAlloc ?_ _); exact Below.refl _ _⟩
  · have H0 : ∀ W, Calls Tryd.prog 24 #[.string s] W fun e w' => e = .returned (.int .i64 (-1)) ∧ W.alloc (.cells (strVals faultNs) 9) = w' := fun W => by
      have := erNamed_any s W
      rwa [h1] at this
    have H := Lib.hid H0
    rw [h2, h3]
    clear H0 h1 h2 h3
    go_enter Tryd.func11, Tryd.ntmps11
    go_wp2_with (go_at_call 24; refine (H.out _).mono ?_; rintro e w1 ⟨rfl, rfl⟩)
    go_ret2
    exact ⟨rfl, by (repeat refine belAlloc ?_ _); exact Below.refl _ _⟩
set_option maxHeartbeats 1000000 in
theorem fnExactKindNamed_walk (s : ByteArray) (_ : s.size ≤ maxLen) (w : World) (hL : laidMetH Tryd.prog Rows.fnExactKindNamedRow.laid w) :
    Calls Tryd.prog 4 #[.string s] w fun e w' => e = .returned (.bool true) ∧ Below w.heap.size w w' := by
  have HT := Lib.hid (faultTab_of hL (by simp [Rows.fnExactKindNamedRow]))
  clear hL
  by_cases hbig : 1048576 < (s.size : Int)
  · go_enter Tryd.func4, Tryd.ntmps4
    go_wp2
    go_ret
    exact ⟨rfl, Below.refl _ _⟩
  · go_enter Tryd.func4, Tryd.ntmps4
    go_wp2_with fail
    refine (specKindNamed_any s _).mono ?_
    rintro e w1 ⟨rfl, hb1⟩
    have HT1 := Lib.hid (HT.out.later hb1)
    have B1 := Lib.hid hb1
    clear hb1
    go_wp2_with fail
    refine (implKindNamed_any s _ HT1.out).mono ?_
    rintro e w2 ⟨rfl, rfl⟩
    go_wp2_with fail
    go_ret
    exact ⟨rfl, B1.out⟩
end Go.Proofs.YtdnncmhfmpiocaaDoor
