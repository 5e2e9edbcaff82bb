/-
  FaultText, the program's and the reference's: the name, " at " and the offset; the walk of FnExactFaultText.
-/
import Derived.Test.YtdnncmhfmpiocaaDoorItoa
import Derived.Test.YtdnncmhfmpiocaaDoorFaultNames
import Derived.Test.YtdnncmhfmpiocaaDoorKindNamedWalk
import Derived.Test.YtdnncmhfmpiocaaDoorFaultCalls
import Derived.Deep.RegionWith
namespace Go.Proofs.YtdnncmhfmpiocaaDoor
open Go.RowKit
def ftxt (k a : Nat) : ByteArray := strAt faultNs k ++ ⟨#[32, 97, 116, 32]⟩ ++ decB a
theorem name_len (k : Nat) : (strAt faultNs k).size ≤ 6 := by
  unfold strAt
  show ((faultNs.getD k []).toArray).size ≤ 6
  rw [List.size_toArray]
  rcases Nat.lt_or_ge k 8 with h | h
  · match k, h with
    | 0, _ => decide
    | 1, _ => decide
    | 2, _ => decide
    | 3, _ => decide
    | 4, _ => decide
    | 5, _ => decide
    | 6, _ => decide
    | 7, _ => decide
  · rw [List.getD_eq_getElem?_getD, List.getElem?_eq_none (by simpa [faultNs] using h)]
    simp
theorem ftxt_cats (k a : Nat) (ha : a ≤ 6000) (W : World) :
    (Op.stringOp .add (strAt faultNs k) ⟨#[32, 97, 116, 32]⟩).run Tryd.prog W = .ok (.string (strAt faultNs k ++ ⟨#[32, 97, 116, 32]⟩)) W ∧ (Op.stringOp .add (strAt faultNs k ++ ⟨#[32, 97, 116, 32]⟩) (decB a)).run Tryd.prog W = .ok (.string (ftxt k a)) W := by
  have h1 := name_len k
  have h2 := decB_len a (by omega)
  have e : (⟨#[32, 97, 116, 32]⟩ : ByteArray).size = 4 := rfl
  refine ⟨cat_ok _ _ W ?_, cat_ok _ _ W ?_⟩
  all_goals ((try simp only [ByteArray.size_append]); omega)
theorem FaultTab.at_ {w : World} (h : FaultTab w) {k : Nat} (hk : k < 8) : w.cell? ⟨0, k, none⟩ = some (.string (strAt faultNs k)) := faultTab_cells h k _ (strVals_get faultNs k hk)
def ftB (k a : Int) : Bool := decide (1 ≤ k ∧ k ≤ 7) && decide (0 ≤ a ∧ a ≤ 6000)
theorem ftB_no {k a : Int} (h : ftB k a = false) : k < 1 ∨ (1 ≤ k ∧ 7 < k) ∨ (1 ≤ k ∧ k ≤ 7 ∧ a < 0) ∨ (1 ≤ k ∧ k ≤ 7 ∧ 0 ≤ a ∧ 6000 < a) := by
  have h' : ¬ ((1 ≤ k ∧ k ≤ 7) ∧ (0 ≤ a ∧ a ≤ 6000)) := fun hh => by
    rw [ftB, decide_eq_true hh.1, decide_eq_true hh.2] at h
    cases h
  omega
set_option maxHeartbeats 1000000 in
theorem implFaultText_no (k a : Int) (w : World) (h : ftB k a = false) : Calls Tryd.prog 15 #[.agg #[.int .i64 k, .int .i64 a]] w fun e w' => e = .returned (.tuple #[.string ⟨#[]⟩, .bool false]) ∧ Below w.heap.size w w' := by
  rcases ftB_no h with h1 | ⟨h1, h2⟩ | ⟨h1, h2, h3⟩ | ⟨h1, h2, h3, h4⟩
  · have d1 : decide (1 ≤ k) = false := decide_eq_false (by omega)
    clear h
    go_enter Tryd.func15, Tryd.ntmps15
    go_wp2_with (first | (go_at_call 22; refine (l1In_yes _ _ _ _ (by omega) (by omega)).mono ?_; rintro e w1 ⟨rfl, rfl⟩) | (go_at_call 22; refine (l1In_no _ _ _ _ (by omega)).mono ?_; rintro e w1 ⟨rfl, rfl⟩) | go_in)
    go_ret2
    exact ⟨rfl, by (repeat refine belAlloc ?_ _); exact Below.refl _ _⟩
  · have d1 : decide (k ≤ 7) = false := decide_eq_false (by omega)
    clear h
    go_enter Tryd.func15, Tryd.ntmps15
    go_wp2_with (first | (go_at_call 22; refine (l1In_yes _ _ _ _ (by omega) (by omega)).mono ?_; rintro e w1 ⟨rfl, rfl⟩) | (go_at_call 22; refine (l1In_no _ _ _ _ (by omega)).mono ?_; rintro e w1 ⟨rfl, rfl⟩) | go_in)
    go_ret2
    exact ⟨rfl, by (repeat refine belAlloc ?_ _); exact Below.refl _ _⟩
  · have d1 : decide (0 ≤ a) = false := decide_eq_false (by omega)
    clear h
    go_enter Tryd.func15, Tryd.ntmps15
    go_wp2_with (first | (go_at_call 22; refine (l1In_yes _ _ _ _ (by omega) (by omega)).mono ?_; rintro e w1 ⟨rfl, rfl⟩) | (go_at_call 22; refine (l1In_no _ _ _ _ (by omega)).mono ?_; rintro e w1 ⟨rfl, rfl⟩) | go_in)
    go_ret2
    exact ⟨rfl, by (repeat refine belAlloc ?_ _); exact Below.refl _ _⟩
  · have d1 : decide (a ≤ 6000) = false := decide_eq_false (by omega)
    clear h
    go_enter Tryd.func15, Tryd.ntmps15
    go_wp2_with (first | (go_at_call 22; refine (l1In_yes _ _ _ _ (by omega) (by omega)).mono ?_; rintro e w1 ⟨rfl, rfl⟩) | (go_at_call 22; refine (l1In_no _ _ _ _ (by omega)).mono ?_; rintro e w1 ⟨rfl, rfl⟩) | go_in)
    go_ret2
    exact ⟨rfl, by (repeat refine belAlloc ?_ _); exact Below.refl _ _⟩
set_option maxHeartbeats 1000000 in
theorem specFaultText_no (k a : Int) (w : World) (h : ftB k a = false) : Calls Tryd.prog 13 #[.agg #[.int .i64 k, .int .i64 a]] w fun e w' => e = .returned (.tuple #[.string ⟨#[]⟩, .bool false]) ∧ Below w.heap.size w w' := by
  rcases ftB_no h with h1 | ⟨h1, h2⟩ | ⟨h1, h2, h3⟩ | ⟨h1, h2, h3, h4⟩
  · have d1 : decide (1 ≤ k) = false := decide_eq_false (by omega)
    clear h
    go_enter Tryd.func13, Tryd.ntmps13
    go_wp2_with (first | (go_at_call 22; refine (l1In_yes _ _ _ _ (by omega) (by omega)).mono ?_; rintro e w1 ⟨rfl, rfl⟩) | (go_at_call 22; refine (l1In_no _ _ _ _ (by omega)).mono ?_; rintro e w1 ⟨rfl, rfl⟩) | go_in)
    go_ret2
    exact ⟨rfl, by (repeat refine belAlloc ?_ _); exact Below.refl _ _⟩
  · have d1 : decide (k ≤ 7) = false := decide_eq_false (by omega)
    clear h
    go_enter Tryd.func13, Tryd.ntmps13
    go_wp2_with (first | (go_at_call 22; refine (l1In_yes _ _ _ _ (by omega) (by omega)).mono ?_; rintro e w1 ⟨rfl, rfl⟩) | (go_at_call 22; refine (l1In_no _ _ _ _ (by omega)).mono ?_; rintro e w1 ⟨rfl, rfl⟩) | go_in)
    go_ret2
    exact ⟨rfl, by (repeat refine belAlloc ?_ _); exact Below.refl _ _⟩
  · have d1 : decide (0 ≤ a) = false := decide_eq_false (by omega)
    clear h
    go_enter Tryd.func13, Tryd.ntmps13
    go_wp2_with (first | (go_at_call 22; refine (l1In_yes _ _ _ _ (by omega) (by omega)).mono ?_; rintro e w1 ⟨rfl, rfl⟩) | (go_at_call 22; refine (l1In_no _ _ _ _ (by omega)).mono ?_; rintro e w1 ⟨rfl, rfl⟩) | go_in)
    go_ret2
    exact ⟨rfl, by (repeat refine belAlloc ?_ _); exact Below.refl _ _⟩
  · have d1 : decide (a ≤ 6000) = false := decide_eq_false (by omega)
    clear h
    go_enter Tryd.func13, Tryd.ntmps13
    go_wp2_with (first | (go_at_call 22; refine (l1In_yes _ _ _ _ (by omega) (by omega)).mono ?_; rintro e w1 ⟨rfl, rfl⟩) | (go_at_call 22; refine (l1In_no _ _ _ _ (by omega)).mono ?_; rintro e w1 ⟨rfl, rfl⟩) | go_in)
    go_ret2
    exact ⟨rfl, by (repeat refine belAlloc ?_ _); exact Below.refl _ _⟩
theorem isFault_yes (k a : Int) (w : World) (h1 : 1 ≤ k) (h2 : k ≤ 7) (h3 : 0 ≤ a) (h4 : a ≤ 6000) : Calls Tryd.prog 27 #[.agg #[.int .i64 k, .int .i64 a]] w fun e w' => e = .returned (.bool true) ∧ w.alloc (.cells #[.int .i64 k, .int .i64 a] 31) = w' := by
  go_enter Tryd.func27, Tryd.ntmps27
  go_wp2
  go_ret
  exact ⟨rfl, rfl⟩
theorem erGood_yes (k a : Int) (w : World) (h1 : 1 ≤ k) (h2 : k ≤ 7) (h3 : 0 ≤ a) (h4 : a ≤ 6000) : Calls Tryd.prog 25 #[.agg #[.int .i64 k, .int .i64 a]] w fun e w' => e = .returned (.bool true) ∧ w.alloc (.cells #[.int .i64 k, .int .i64 a] 31) = w' := by
  go_enter Tryd.func25, Tryd.ntmps25
  go_wp2_with (first | (go_at_call 22; refine (l1In_yes _ _ _ _ (by omega) (by omega)).mono ?_; rintro e w1 ⟨rfl, rfl⟩) | (go_at_call 22; refine (l1In_no _ _ _ _ (by omega)).mono ?_; rintro e w1 ⟨rfl, rfl⟩))
  go_ret
  exact ⟨rfl, rfl⟩
set_option maxHeartbeats 2000000 in
theorem implFaultText_yes (k a : Nat) (w : World) (hk1 : 1 ≤ k) (hk : k ≤ 7) (ha : a ≤ 6000) (hF : FaultTab w) (hT : Pow10 w) :
    Calls Tryd.prog 15 #[.agg #[.int .i64 k, .int .i64 a]] w fun e w' => e = .returned (.tuple #[.string (ftxt k a), .bool true]) ∧ Below w.heap.size w w' := by
  have hc1 := fun W => (ftxt_cats k a ha W).1
  have hc2 := fun W => (ftxt_cats k a ha W).2
  have HI := Lib.hid (fun W => itoa_any a W (by omega))
  have HT : Hid (∀ W, Below w.heap.size w W → Pow10 W) := fun W hW => hT.later hW
  have HF : Hid (∀ W, Below w.heap.size w W → 0 < W.heap.size ∧ W.cell? ⟨0, k, none⟩ = some (.string (strAt faultNs k))) := fun W hW => ⟨(hF.later hW).1, (hF.later hW).at_ (by omega)⟩
  obtain ⟨f0, f1⟩ := HF.out w (Below.refl _ _)
  have hki : (k : Int) < 8 := by omega
  clear hT hF
  go_enter Tryd.func15, Tryd.ntmps15
  go_wp2_with fail
  refine (isFault_yes k a _ (by omega) (by omega) (by omega) (by omega)).mono ?_
  rintro e w0 ⟨rfl, rfl⟩
  go_wp2_with fail
  go_region_with ((go_at_call 28; refine (HI.out _ (HT.out _ (by repeat (first | exact Below.refl _ _ | assumption | refine Below.alloc ?_ (by simp; try omega) _ | refine Below.setCell ?_ (by simp; try omega) _ | refine Below.drew ?_)))).mono ?_; rintro e w1 ⟨rfl, hb⟩; obtain ⟨hc, hf⟩ := bcell hb; have hB : Below w.heap.size w w1 := belNext (by repeat (first | exact Below.refl _ _ | assumption | refine Below.alloc ?_ (by simp; try omega) _ | refine Below.setCell ?_ (by simp; try omega) _ | refine Below.drew ?_)) hb; clear hb))
  all_goals
    go_wp2_with fail
    go_ret2
    exact ⟨rfl, hB⟩
set_option maxHeartbeats 2000000 in
theorem erShow_yes (k a : Nat) (w : World) (hk : k ≤ 7) (ha : a ≤ 6000) :
    Calls Tryd.prog 26 #[.agg #[.int .i64 k, .int .i64 a]] w fun e w' => e = .returned (.string (ftxt k a)) ∧ Below w.heap.size w w' := by
  have hc1 := fun W => (ftxt_cats k a ha W).1
  have hc2 := fun W => (ftxt_cats k a ha W).2
  have HI := Lib.hid (fun W => l1Num_any a W (by omega))
  have HE := Lib.hid (fun W => erNames_any W)
  have hsv : ((w.alloc (.cells #[.int .i64 k, .int .i64 a] 31)).alloc (.cells (strVals faultNs) 9)).cell? ⟨w.heap.size + 1, k, none⟩ = some (.string (strAt faultNs k)) := by
    have e := heap_alloc_new (w.alloc (.cells #[.int .i64 k, .int .i64 a] 31)) (.cells (strVals faultNs) 9)
    have e2 : (w.alloc (.cells #[.int .i64 k, .int .i64 a] 31)).heap.size = w.heap.size + 1 := by simp
    rw [e2] at e
    rw [World.cell?, e]
    exact strVals_get faultNs k (by show k < 8; omega)
  have hki : (k : Int) < 8 := by omega
  go_enter Tryd.func26, Tryd.ntmps26
  go_wp2_with fail
  go_region_with ((first | (go_at_call 36; refine (HI.out _).mono ?_; rintro e w1 ⟨rfl, hb⟩; obtain ⟨hc, hf⟩ := bcell hb; have hB : Below w.heap.size w w1 := belNext (by repeat (first | exact Below.refl _ _ | assumption | refine Below.alloc ?_ (by simp; try omega) _ | refine Below.setCell ?_ (by simp; try omega) _ | refine Below.drew ?_)) hb; clear hb) | (go_at_call 23; refine (HE.out _).mono ?_; rintro e w2 ⟨rfl, rfl⟩)))
  all_goals
    go_wp2_with fail
    go_ret
    exact ⟨rfl, hB⟩
set_option maxHeartbeats 1000000 in
theorem specFaultText_yes (k a : Nat) (w : World) (hk1 : 1 ≤ k) (hk : k ≤ 7) (ha : a ≤ 6000) :
    Calls Tryd.prog 13 #[.agg #[.int .i64 k, .int .i64 a]] w fun e w' => e = .returned (.tuple #[.string (ftxt k a), .bool true]) ∧ Below w.heap.size w w' := by
  have HE := Lib.hid (fun W => erShow_yes k a W hk ha)
  go_enter Tryd.func13, Tryd.ntmps13
  go_wp2_with fail
  refine (erGood_yes k a _ (by omega) (by omega) (by omega) (by omega)).mono ?_
  rintro e w0 ⟨rfl, rfl⟩
  go_wp2_with fail
  refine (HE.out _).mono ?_
  rintro e w1 ⟨rfl, hb1⟩
  have HB := Lib.hid (belNext (w := w) (by (repeat refine belAlloc ?_ _); exact Below.refl _ _) hb1)
  clear hb1
  go_wp2_with fail
  go_ret2
  exact ⟨rfl, HB.out⟩
theorem toFault_bel (k a : Int) (w : World) : Calls Tryd.prog 14 #[.agg #[.int .i64 k, .int .i64 a]] w fun e w' => e = .returned (.agg #[.int .i64 k, .int .i64 a]) ∧ Below w.heap.size w w' := by
  refine (toFault_any k a w).mono ?_
  rintro e w' ⟨rfl, rfl⟩
  exact ⟨rfl, by (repeat refine belAlloc ?_ _); exact Below.refl _ _⟩
set_option maxHeartbeats 1000000 in
theorem fnExactFaultText_walk (k : Int) (_ : -9223372036854775808 ≤ k) (_ : k ≤ 9223372036854775807) (a : Int) (_ : -9223372036854775808 ≤ a) (_ : a ≤ 9223372036854775807) (w : World) (hL : laidMetH Tryd.prog Rows.fnExactFaultTextRow.laid w) :
    Calls Tryd.prog 5 #[.agg #[.int .i64 k, .int .i64 a]] w fun e w' => e = .returned (.bool true) ∧ Below w.heap.size w w' := by
  have HP := Lib.hid (pow10_of hL (by simp [Rows.fnExactFaultTextRow]))
  have HF := Lib.hid (faultTab_of hL (by simp [Rows.fnExactFaultTextRow]))
  clear hL
  have HT := Lib.hid (fun W => toFault_bel k a W)
  have main : ∀ (v : ByteArray) (b : Bool), (∀ W, Calls Tryd.prog 13 #[.agg #[.int .i64 k, .int .i64 a]] W fun e w' => e = .returned (.tuple #[.string v, .bool b]) ∧ Below W.heap.size W w') →
      (∀ W, Pow10 W → FaultTab W → Calls Tryd.prog 15 #[.agg #[.int .i64 k, .int .i64 a]] W fun e w' => e = .returned (.tuple #[.string v, .bool b]) ∧ Below W.heap.size W w') →
      Calls Tryd.prog 5 #[.agg #[.int .i64 k, .int .i64 a]] w fun e w' => e = .returned (.bool true) ∧ Below w.heap.size w w' := by
    intro v b hS hI
    have HS := Lib.hid hS
    have HI := Lib.hid hI
    have HC : Hid (∀ w1 : World, Below (w.alloc (.cells #[.int .i64 k, .int .i64 a] 29)).heap.size (w.alloc (.cells #[.int .i64 k, .int .i64 a] 29)) w1 → w.heap.size < w1.heap.size ∧ w1.cell? ⟨w.heap.size, 0, none⟩ = some (.int .i64 k) ∧ w1.cell? ⟨w.heap.size, 1, none⟩ = some (.int .i64 a)) := fun w1 hb =>
      ⟨by have := hb.size; simp at this; omega, (hb.cell (p := ⟨w.heap.size, 0, none⟩) (by simp)).trans (by simp [go_sem]), (hb.cell (p := ⟨w.heap.size, 1, none⟩) (by simp)).trans (by simp [go_sem])⟩
    clear hS hI
    go_enter Tryd.func5, Tryd.ntmps5
    go_wp2_with fail
    refine (HT.out _).mono ?_
    rintro e w1 ⟨rfl, hb1⟩
    have B1 := Lib.hid hb1
    clear hb1
    go_wp2_with fail
    refine (HS.out _).mono ?_
    rintro e w2 ⟨rfl, hb2⟩
    have B2 := Lib.hid (belNext B1.out hb2)
    obtain ⟨k0, k1, k2⟩ := HC.out _ B2.out
    clear hb2
    go_wp2_with fail
    refine (HT.out _).mono ?_
    rintro e w3 ⟨rfl, hb3⟩
    have B3 := Lib.hid (belNext (belAlloc (Below.refl _ w) _) (belNext B2.out hb3))
    clear hb3
    go_wp2_with fail
    refine (HI.out _ (HP.out.later B3.out) (HF.out.later B3.out)).mono ?_
    rintro e w4 ⟨rfl, hb4⟩
    have B4 := Lib.hid (belNext B3.out hb4)
    clear hb4
    go_wp2_with fail
    go_ret
    exact ⟨rfl, B4.out⟩
  by_cases h : ftB k a = true
  · have h' : (1 ≤ k ∧ k ≤ 7) ∧ (0 ≤ a ∧ a ≤ 6000) := by simpa [ftB] using h
    obtain ⟨k, rfl⟩ : ∃ n : Nat, k = n := ⟨k.toNat, by omega⟩
    obtain ⟨a, rfl⟩ : ∃ n : Nat, a = n := ⟨a.toNat, by omega⟩
    exact main (ftxt k a) true (fun W => specFaultText_yes k a W (by omega) (by omega) (by omega)) (fun W h1 h2 => implFaultText_yes k a W (by omega) (by omega) (by omega) h2 h1)
  · have h' : ftB k a = false := by simpa using h
    exact main ⟨#[]⟩ false (fun W => specFaultText_no k a W h') (fun W _ _ => implFaultText_no k a W h')
end Go.Proofs.YtdnncmhfmpiocaaDoor
