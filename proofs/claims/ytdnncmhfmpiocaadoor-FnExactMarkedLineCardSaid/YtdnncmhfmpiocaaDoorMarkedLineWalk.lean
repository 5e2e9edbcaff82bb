/-
  MarkedLine, the program's and the reference's: the line, blanks and a mark; the walk of FnExactMarkedLine.
-/
import Derived.Test.YtdnncmhfmpiocaaDoorLineTextWalk
import Derived.Test.YtdnncmhfmpiocaaDoorLinesImpl
import Derived.Test.YtdnncmhfmpiocaaDoorFaultTextWalk
import Derived.Lib.Repeat
namespace Go.Proofs.YtdnncmhfmpiocaaDoor
open Go.RowKit
theorem nlC_same {s : ByteArray} {a : Nat} : ∀ {i : Nat}, a ≤ i → (∀ j, a ≤ j → j < i → byt s j ≠ 10) → nlC s i = nlC s a
  | 0, h, _ => by rw [show a = 0 by omega]
  | i + 1, h, hn => by
    rcases Nat.eq_or_lt_of_le h with rfl | h1
    · rfl
    · rw [nlC, if_neg (hn i (by omega) (by omega)), nlC_same (i := i) (by omega) (fun j h2 h3 => hn j h2 (by omega))]
theorem pcs_nlC (s : ByteArray) (a : Nat) (ha : a ≤ s.size) : ((pcs s 10 a).length : Int) = nlC s s.size - nlC s a + 1 := by
  have hge := nxt_ge s 10 a
  have hle := nxt_le s 10 ha
  rw [pcs]
  split
  · rename_i h
    have e1 : nlC s (nxt s 10 a + 1) = nlC s a + 1 := by
      rw [nlC, if_pos (nxt_yes ha h), nlC_same hge (fun j h1 h2 => nxt_no h1 h2)]
    have := pcs_nlC s (nxt s 10 a + 1) (by omega)
    rw [List.length_cons]
    omega
  · have e2 : nlC s s.size = nlC s a := nlC_same ha (fun j h1 h2 => nxt_no h1 (by omega))
    simp
    omega
termination_by s.size - a
theorem nlC_mono (s : ByteArray) (a : Nat) : ∀ d : Nat, nlC s a ≤ nlC s (a + d)
  | 0 => Int.le_refl _
  | d + 1 => by
    have := nlC_mono s a d
    rw [show a + (d + 1) = (a + d) + 1 by omega, nlC]
    split <;> omega
theorem nlC_lt (s : ByteArray) (a : Nat) (ha : a ≤ s.size) : nlC s a < ((pcs s 10 0).length : Int) := by
  have h1 := pcs_nlC s 0 (Nat.zero_le _)
  have h2 := nlC_mono s a (s.size - a)
  rw [show a + (s.size - a) = s.size by omega] at h2
  have h3 : nlC s 0 = 0 := rfl
  omega
/-- n blanks. -/
def spc (n : Nat) : ByteArray := ⟨(Lib.repeatL [32] n).toArray⟩
theorem spc_len (n : Nat) : (spc n).size = n := by
  show ((Lib.repeatL [32] n).toArray).size = n
  rw [List.size_toArray, Lib.repeatL_length]
  simp
theorem spc_succ (n : Nat) : spc (n + 1) = spc n ++ ⟨#[32]⟩ := by
  apply ext_list
  show (Lib.repeatL [32] (n + 1)).toArray.toList = _
  rw [ByteArray.data_append]
  simp [spc, Lib.repeatL_add, Lib.repeatL_one]
theorem spc_zero (x : ByteArray) : x ++ spc 0 = x := by
  apply ext_list
  simp [spc, Lib.repeatL, ByteArray.data_append]
theorem cat_assoc (a b c : ByteArray) : a ++ b ++ c = a ++ (b ++ c) := by
  apply ext_list
  simp [ByteArray.data_append]
theorem repeat_any (n : Nat) (w : World) (hn : n ≤ 6000) : Calls Tryd.prog 35 #[.string ⟨#[32]⟩, .int .i64 n] w fun e w' => e = .returned (.string (spc n)) ∧ Below w.heap.size w w' :=
  Tryd.strings_Repeat ⟨#[32]⟩ n w (by omega) (by show 1 * n ≤ _; omega)
/-- The marked line. -/
def mkd (p : ByteArray) (n : Nat) : ByteArray := p ++ ⟨#[10]⟩ ++ spc n ++ ⟨#[94, 10]⟩
theorem mkd_cats (p : ByteArray) (n : Nat) (hp : p.size ≤ 6000) (hn : n ≤ 6000) (W : World) :
    (Op.stringOp .add p ⟨#[10]⟩).run Tryd.prog W = .ok (.string (p ++ ⟨#[10]⟩)) W ∧ (Op.stringOp .add (p ++ ⟨#[10]⟩) (spc n)).run Tryd.prog W = .ok (.string (p ++ ⟨#[10]⟩ ++ spc n)) W ∧
    (Op.stringOp .add (p ++ ⟨#[10]⟩ ++ spc n) ⟨#[94, 10]⟩).run Tryd.prog W = .ok (.string (mkd p n)) W ∧ (Op.stringOp .add (p ++ ⟨#[10]⟩ ++ spc n) ⟨#[32]⟩).run Tryd.prog W = .ok (.string (p ++ ⟨#[10]⟩ ++ spc (n + 1))) W := by
  have e1 : (⟨#[10]⟩ : ByteArray).size = 1 := rfl
  have e2 : (⟨#[94, 10]⟩ : ByteArray).size = 2 := rfl
  have e3 : (⟨#[32]⟩ : ByteArray).size = 1 := rfl
  have e4 := spc_len n
  refine ⟨cat_ok _ _ W ?_, cat_ok _ _ W ?_, cat_ok _ _ W ?_, ?_⟩
  · omega
  · simp only [ByteArray.size_append]; omega
  · simp only [ByteArray.size_append]; omega
  · rw [spc_succ, ← cat_assoc]
    exact cat_ok _ _ W (by simp only [ByteArray.size_append]; omega)
/-- Block g holds a fault. -/
def IsFlt (w : World) (g : Nat) (k a : Int) : Prop := g < w.heap.size ∧ w.cell? ⟨g, 0, none⟩ = some (.int .i64 k) ∧ w.cell? ⟨g, 1, none⟩ = some (.int .i64 a)
theorem isFlt_new (w w1 : World) (k a : Int) (t : TypeId) (hb : Below (w.alloc (.cells #[.int .i64 k, .int .i64 a] t)).heap.size (w.alloc (.cells #[.int .i64 k, .int .i64 a] t)) w1) : IsFlt w1 w.heap.size k a :=
  ⟨by have := hb.size; simp at this; omega, (hb.cell (p := ⟨w.heap.size, 0, none⟩) (by simp)).trans (by simp [go_sem]), (hb.cell (p := ⟨w.heap.size, 1, none⟩) (by simp)).trans (by simp [go_sem])⟩
set_option maxHeartbeats 2000000 in
theorem implMarkedLine_yes (s : ByteArray) (k a : Nat) (w : World) (hM : MaxL w) (hs : s.size ≤ 6000) (hk1 : 1 ≤ k) (hk : k ≤ 7) (ha6 : a ≤ 6000) (ha : a ≤ s.size) (j n : Nat) (hj : nlC s a = j) (hn : (a : Int) - nlL s a = (n : Int) + 1) :
    Calls Tryd.prog 21 #[.string s, .agg #[.int .i64 k, .int .i64 a]] w fun e w' => e = .returned (.tuple #[.string (mkd ((pcs s 10 0).getD j ⟨#[]⟩) n), .bool true]) ∧ Below w.heap.size w w' := by
  have hb1 := nlL_bd s a
  have hn6 : n ≤ 6000 := by omega
  have HL := Lib.hid (fun W => lineOf_any s a W hs ha)
  rw [hj, hn] at HL
  have HS := Lib.hid (fun W hW => lineStart_yes s j W hW hs (by have := nlC_lt s a ha; omega))
  have hps := pcs_getD s 10 j
  have HR := Lib.hid (fun W => repeat_any n W hn6)
  generalize (pcs s 10 0).getD j ⟨#[]⟩ = p at *
  generalize offs (pcs s 10 0) j = o at *
  have hc1 := fun W => (mkd_cats p n (by omega) hn6 W).1
  have hc2 := fun W => (mkd_cats p n (by omega) hn6 W).2.1
  have hc3 := fun W => (mkd_cats p n (by omega) hn6 W).2.2.1
  have HM := Lib.hid hM
  clear hj hn hM hb1
  go_enter Tryd.func21, Tryd.ntmps21
  go_wp2_with fail
  refine (isFault_yes k a _ (by omega) (by omega) (by omega) (by omega)).mono ?_
  rintro e w0 ⟨rfl, rfl⟩
  go_wp2_with fail
  refine (HL.out _).mono ?_
  rintro e w1 ⟨rfl, rfl⟩
  go_wp2_with fail
  refine (HS.out _ (HM.out.later (by (repeat refine belAlloc ?_ _); exact Below.refl _ _))).mono ?_
  rintro e w1 ⟨rfl, hb⟩
  have HB := Lib.hid (belNext (w := w) (by (repeat refine belAlloc ?_ _); exact Below.refl _ _) hb)
  clear hb
  go_wp2_with fail
  refine (HR.out _).mono ?_
  rintro e w2 ⟨rfl, hb⟩
  have HB2 := Lib.hid (belNext HB.out hb)
  clear hb
  go_wp2_with fail
  go_ret2
  exact ⟨rfl, HB2.out⟩
set_option maxHeartbeats 2000000 in
theorem specMarkedLine_yes (s : ByteArray) (k a : Nat) (w : World) (hs : s.size ≤ 6000) (hk1 : 1 ≤ k) (hk : k ≤ 7) (ha6 : a ≤ 6000) (ha : a ≤ s.size) (j n : Nat) (hj : nlC s a = j) (hn : (a : Int) - nlL s a = (n : Int) + 1) :
    Calls Tryd.prog 20 #[.string s, .agg #[.int .i64 k, .int .i64 a]] w fun e w' => e = .returned (.tuple #[.string (mkd ((pcs s 10 0).getD j ⟨#[]⟩) n), .bool true]) ∧ Below w.heap.size w w' := by
  have hb1 := nlL_bd s a
  have hn6 : n ≤ 6000 := by omega
  have HL := Lib.hid (fun W => erLine_any s a W hs ha)
  rw [hj, hn] at HL
  have HS := Lib.hid (fun W => l1Split_any s 10 W (by omega))
  have hps := pcs_getD s 10 j
  have hjl : j < (pcs s 10 0).length := by have := nlC_lt s a ha; omega
  have hl := pcs_len s 10 0
  generalize pcs s 10 0 = L at *
  obtain ⟨p, hp⟩ : ∃ p, L.getD j ⟨#[]⟩ = p := ⟨_, rfl⟩
  rw [hp] at hps
  rw [hp]
  have HP := Lib.hid hp
  have HC := Lib.hid (fun m (hm : m ≤ 6000) W => mkd_cats p m (by omega) hm W)
  have hc1 := fun W => (mkd_cats p n (by omega) hn6 W).1
  clear hj hn hb1 hp
  go_enter Tryd.func20, Tryd.ntmps20
  go_wp2_with fail
  refine (erGood_yes k a _ (by omega) (by omega) (by omega) (by omega)).mono ?_
  rintro e w0 ⟨rfl, rfl⟩
  go_wp2_with fail
  refine (erText_yes s _ hs).mono ?_
  rintro e w0 ⟨rfl, rfl⟩
  go_wp2_with fail
  refine (HL.out _).mono ?_
  rintro e w1 ⟨rfl, rfl⟩
  go_wp2_with fail
  refine (HS.out _).mono ?_
  rintro e w1 ⟨v, rfl, g, c, rfl, hcap, hg, hown, hb⟩
  have hcell : w1.cell? ⟨g, j, none⟩ = some (.string (L.getD j ⟨#[]⟩)) := hown.cell hjl
  rw [HP.out] at hcell
  have HB := Lib.hid (belNext (w := w) (by (repeat refine belAlloc ?_ _); exact Below.refl _ _) hb)
  clear hb hown hg
  go_wp2_with fail
  go_loop [7, 8] (fun cl t => ∃ m : Nat, m ≤ n ∧ cl = .int .i64 ((n : Int) - m + 1) ∧ t = .string (p ++ ⟨#[10]⟩ ++ spc m)) (fun cl _ => (intOf cl).toNat)
  case atStart => exact ⟨0, Nat.zero_le _, by simp, by rw [spc_zero]⟩
  case round =>
    obtain ⟨m, hm, rfl, rfl⟩ := hrel
    have hc3 := fun W => (HC.out m (by omega) W).2.2.1
    have hc4 := fun W => (HC.out m (by omega) W).2.2.2
    by_cases hlt : m < n
    · go_wp2
      go_round
      case rel => exact ⟨m + 1, by omega, by go_num, rfl⟩
      case measure => simp [intOf]; omega
    · obtain rfl : m = n := by omega
      clear hc4
      go_wp2
      go_ret2
      exact ⟨rfl, HB.out⟩
set_option maxHeartbeats 1000000 in
theorem isFault_no (k a : Int) (w : World) (h : ftB k a = false) : Calls Tryd.prog 27 #[.agg #[.int .i64 k, .int .i64 a]] w fun e w' => e = .returned (.bool false) ∧ w.alloc (.cells #[.int .i64 k, .int .i64 a] 31) = w' := by
  rcases ftB_no h with h1 | ⟨h1, h2⟩ | ⟨h1, h2, h3⟩ | ⟨h1, h2, h3, h4⟩
  · have d1 : decide (1 ≤ k) = false := decide_eq_false (by omega)
    clear h
    go_enter Tryd.func27, Tryd.ntmps27
    go_wp2_with (first | (go_at_call 22; refine (l1In_yes _ _ _ _ (by omega) (by omega)).mono ?_; rintro e w1 ⟨rfl, rfl⟩) | (go_at_call 22; refine (l1In_no _ _ _ _ (by omega)).mono ?_; rintro e w1 ⟨rfl, rfl⟩) | go_in)
    go_ret
    exact ⟨rfl, rfl⟩
  · have d1 : decide (k ≤ 7) = false := decide_eq_false (by omega)
    clear h
    go_enter Tryd.func27, Tryd.ntmps27
    go_wp2_with (first | (go_at_call 22; refine (l1In_yes _ _ _ _ (by omega) (by omega)).mono ?_; rintro e w1 ⟨rfl, rfl⟩) | (go_at_call 22; refine (l1In_no _ _ _ _ (by omega)).mono ?_; rintro e w1 ⟨rfl, rfl⟩) | go_in)
    go_ret
    exact ⟨rfl, rfl⟩
  · have d1 : decide (0 ≤ a) = false := decide_eq_false (by omega)
    clear h
    go_enter Tryd.func27, Tryd.ntmps27
    go_wp2_with (first | (go_at_call 22; refine (l1In_yes _ _ _ _ (by omega) (by omega)).mono ?_; rintro e w1 ⟨rfl, rfl⟩) | (go_at_call 22; refine (l1In_no _ _ _ _ (by omega)).mono ?_; rintro e w1 ⟨rfl, rfl⟩) | go_in)
    go_ret
    exact ⟨rfl, rfl⟩
  · have d1 : decide (a ≤ 6000) = false := decide_eq_false (by omega)
    clear h
    go_enter Tryd.func27, Tryd.ntmps27
    go_wp2_with (first | (go_at_call 22; refine (l1In_yes _ _ _ _ (by omega) (by omega)).mono ?_; rintro e w1 ⟨rfl, rfl⟩) | (go_at_call 22; refine (l1In_no _ _ _ _ (by omega)).mono ?_; rintro e w1 ⟨rfl, rfl⟩) | go_in)
    go_ret
    exact ⟨rfl, rfl⟩
set_option maxHeartbeats 1000000 in
theorem erGood_no (k a : Int) (w : World) (h : ftB k a = false) : Calls Tryd.prog 25 #[.agg #[.int .i64 k, .int .i64 a]] w fun e w' => e = .returned (.bool false) ∧ w.alloc (.cells #[.int .i64 k, .int .i64 a] 31) = w' := by
  rcases ftB_no h with h1 | ⟨h1, h2⟩ | ⟨h1, h2, h3⟩ | ⟨h1, h2, h3, h4⟩
  · have d1 : decide (1 ≤ k) = false := decide_eq_false (by omega)
    clear h
    go_enter Tryd.func25, Tryd.ntmps25
    go_wp2_with (first | (go_at_call 22; refine (l1In_yes _ _ _ _ (by omega) (by omega)).mono ?_; rintro e w1 ⟨rfl, rfl⟩) | (go_at_call 22; refine (l1In_no _ _ _ _ (by omega)).mono ?_; rintro e w1 ⟨rfl, rfl⟩) | go_in)
    go_ret
    exact ⟨rfl, rfl⟩
  · have d1 : decide (k ≤ 7) = false := decide_eq_false (by omega)
    clear h
    go_enter Tryd.func25, Tryd.ntmps25
    go_wp2_with (first | (go_at_call 22; refine (l1In_yes _ _ _ _ (by omega) (by omega)).mono ?_; rintro e w1 ⟨rfl, rfl⟩) | (go_at_call 22; refine (l1In_no _ _ _ _ (by omega)).mono ?_; rintro e w1 ⟨rfl, rfl⟩) | go_in)
    go_ret
    exact ⟨rfl, rfl⟩
  · have d1 : decide (0 ≤ a) = false := decide_eq_false (by omega)
    clear h
    go_enter Tryd.func25, Tryd.ntmps25
    go_wp2_with (first | (go_at_call 22; refine (l1In_yes _ _ _ _ (by omega) (by omega)).mono ?_; rintro e w1 ⟨rfl, rfl⟩) | (go_at_call 22; refine (l1In_no _ _ _ _ (by omega)).mono ?_; rintro e w1 ⟨rfl, rfl⟩) | go_in)
    go_ret
    exact ⟨rfl, rfl⟩
  · have d1 : decide (a ≤ 6000) = false := decide_eq_false (by omega)
    clear h
    go_enter Tryd.func25, Tryd.ntmps25
    go_wp2_with (first | (go_at_call 22; refine (l1In_yes _ _ _ _ (by omega) (by omega)).mono ?_; rintro e w1 ⟨rfl, rfl⟩) | (go_at_call 22; refine (l1In_no _ _ _ _ (by omega)).mono ?_; rintro e w1 ⟨rfl, rfl⟩) | go_in)
    go_ret
    exact ⟨rfl, rfl⟩
set_option maxHeartbeats 1000000 in
theorem implMarkedLine_no (s : ByteArray) (k a : Int) (w : World) (hs : s.size ≤ 1048576) (h : ftB k a = false ∨ (ftB k a = true ∧ 6000 < s.size) ∨ (ftB k a = true ∧ s.size ≤ 6000 ∧ (s.size : Int) < a)) :
    Calls Tryd.prog 21 #[.string s, .agg #[.int .i64 k, .int .i64 a]] w fun e w' => e = .returned (.tuple #[.string ⟨#[]⟩, .bool false]) ∧ Below w.heap.size w w' := by
  rcases h with h | ⟨h, h1⟩ | ⟨h, h1, h2⟩
  · have HG := Lib.hid (fun W => isFault_no k a W h)
    clear h
    go_enter Tryd.func21, Tryd.ntmps21
    go_wp2_with fail
    refine (HG.out _).mono ?_
    rintro e w0 ⟨rfl, rfl⟩
    go_wp2_with fail
    go_ret2
    exact ⟨rfl, by (repeat refine belAlloc ?_ _); exact Below.refl _ _⟩
  · have h' : (1 ≤ k ∧ k ≤ 7) ∧ (0 ≤ a ∧ a ≤ 6000) := by simpa [ftB] using h
    obtain ⟨⟨a1, a2⟩, a3, a4⟩ := h'
    clear h
    go_enter Tryd.func21, Tryd.ntmps21
    go_wp2_with fail
    refine (isFault_yes k a _ a1 a2 a3 a4).mono ?_
    rintro e w0 ⟨rfl, rfl⟩
    go_wp2_with fail
    go_ret2
    exact ⟨rfl, by (repeat refine belAlloc ?_ _); exact Below.refl _ _⟩
  · have h' : (1 ≤ k ∧ k ≤ 7) ∧ (0 ≤ a ∧ a ≤ 6000) := by simpa [ftB] using h
    obtain ⟨⟨a1, a2⟩, a3, a4⟩ := h'
    clear h
    go_enter Tryd.func21, Tryd.ntmps21
    go_wp2_with fail
    refine (isFault_yes k a _ a1 a2 a3 a4).mono ?_
    rintro e w0 ⟨rfl, rfl⟩
    go_wp2_with fail
    go_ret2
    exact ⟨rfl, by (repeat refine belAlloc ?_ _); exact Below.refl _ _⟩
set_option maxHeartbeats 1000000 in
theorem specMarkedLine_no (s : ByteArray) (k a : Int) (w : World) (_hs : s.size ≤ 1048576) (h : ftB k a = false ∨ (ftB k a = true ∧ 6000 < s.size) ∨ (ftB k a = true ∧ s.size ≤ 6000 ∧ (s.size : Int) < a)) :
    Calls Tryd.prog 20 #[.string s, .agg #[.int .i64 k, .int .i64 a]] w fun e w' => e = .returned (.tuple #[.string ⟨#[]⟩, .bool false]) ∧ Below w.heap.size w w' := by
  rcases h with h | ⟨h, h1⟩ | ⟨h, h1, h2⟩
  · have HG := Lib.hid (fun W => erGood_no k a W h)
    clear h
    go_enter Tryd.func20, Tryd.ntmps20
    go_wp2_with fail
    refine (HG.out _).mono ?_
    rintro e w0 ⟨rfl, rfl⟩
    go_wp2_with fail
    go_ret2
    exact ⟨rfl, by (repeat refine belAlloc ?_ _); exact Below.refl _ _⟩
  · have h' : (1 ≤ k ∧ k ≤ 7) ∧ (0 ≤ a ∧ a ≤ 6000) := by simpa [ftB] using h
    obtain ⟨⟨a1, a2⟩, a3, a4⟩ := h'
    clear h
    go_enter Tryd.func20, Tryd.ntmps20
    go_wp2_with fail
    refine (erGood_yes k a _ a1 a2 a3 a4).mono ?_
    rintro e w0 ⟨rfl, rfl⟩
    go_wp2_with (go_at_call 29; refine (erText_no s _ h1).mono ?_; rintro e w1 ⟨rfl, rfl⟩)
    go_ret2
    exact ⟨rfl, by (repeat refine belAlloc ?_ _); exact Below.refl _ _⟩
  · have h' : (1 ≤ k ∧ k ≤ 7) ∧ (0 ≤ a ∧ a ≤ 6000) := by simpa [ftB] using h
    obtain ⟨⟨a1, a2⟩, a3, a4⟩ := h'
    clear h
    go_enter Tryd.func20, Tryd.ntmps20
    go_wp2_with fail
    refine (erGood_yes k a _ a1 a2 a3 a4).mono ?_
    rintro e w0 ⟨rfl, rfl⟩
    go_wp2_with (go_at_call 29; refine (erText_yes s _ h1).mono ?_; rintro e w1 ⟨rfl, rfl⟩)
    go_ret2
    exact ⟨rfl, by (repeat refine belAlloc ?_ _); exact Below.refl _ _⟩
set_option maxHeartbeats 1000000 in
theorem fnExactMarkedLine_walk (s : ByteArray) (_ : s.size ≤ maxLen) (k : Int) (_ : -9223372036854775808 ≤ k) (_ : k ≤ 9223372036854775807) (a : Int) (_ : -9223372036854775808 ≤ a) (_ : a ≤ 9223372036854775807) (w : World) (_hL : laidMetH Tryd.prog Rows.fnExactMarkedLineRow.laid w) (hsh : w.ShapedOpen Tryd.prog) :
    Calls Tryd.prog 8 #[.string s, .agg #[.int .i64 k, .int .i64 a]] w fun e w' => e = .returned (.bool true) ∧ Below w.heap.size w w' := by
  have HM := Lib.hid (maxL_of hsh)
  clear hsh _hL
  by_cases hbig : 1048576 < (s.size : Int)
  · go_enter Tryd.func8, Tryd.ntmps8
    go_wp2_with fail
    go_ret
    exact ⟨rfl, belAlloc (Below.refl _ w) _⟩
  have HT := Lib.hid (fun W => toFault_bel k a W)
  have main : ∀ (v : ByteArray) (b : Bool), (∀ W, Calls Tryd.prog 20 #[.string s, .agg #[.int .i64 k, .int .i64 a]] W fun e w' => e = .returned (.tuple #[.string v, .bool b]) ∧ Below W.heap.size W w') →
      (∀ W, MaxL W → Calls Tryd.prog 21 #[.string s, .agg #[.int .i64 k, .int .i64 a]] W fun e w' => e = .returned (.tuple #[.string v, .bool b]) ∧ Below W.heap.size W w') →
      Calls Tryd.prog 8 #[.string s, .agg #[.int .i64 k, .int .i64 a]] w fun e w' => e = .returned (.bool true) ∧ Below w.heap.size w w' := by
    intro v b hS hI
    have HS := Lib.hid hS
    have HI := Lib.hid hI
    have HC : Hid (∀ w1 : World, Below (w.alloc (.cells #[.int .i64 k, .int .i64 a] 29)).heap.size (w.alloc (.cells #[.int .i64 k, .int .i64 a] 29)) w1 → w.heap.size < w1.heap.size ∧ w1.cell? ⟨w.heap.size, 0, none⟩ = some (.int .i64 k) ∧ w1.cell? ⟨w.heap.size, 1, none⟩ = some (.int .i64 a)) := fun w1 hb =>
      ⟨by have := hb.size; simp at this; omega, (hb.cell (p := ⟨w.heap.size, 0, none⟩) (by simp)).trans (by simp [go_sem]), (hb.cell (p := ⟨w.heap.size, 1, none⟩) (by simp)).trans (by simp [go_sem])⟩
    clear hS hI
    go_enter Tryd.func8, Tryd.ntmps8
    go_wp2_with fail
    refine (HT.out _).mono ?_
    rintro e w1 ⟨rfl, hb1⟩
    have B1 := Lib.hid hb1
    clear hb1
    go_wp2_with fail
    refine (HS.out _).mono ?_
    rintro e w2 ⟨rfl, hb2⟩
    have B2 := Lib.hid (belNext B1.out hb2)
    obtain ⟨k0, k1, k2⟩ := HC.out _ B2.out
    clear hb2
    go_wp2_with fail
    refine (HT.out _).mono ?_
    rintro e w3 ⟨rfl, hb3⟩
    have B3 := Lib.hid (belNext (belAlloc (Below.refl _ w) _) (belNext B2.out hb3))
    clear hb3
    go_wp2_with fail
    refine (HI.out _ (HM.out.later B3.out)).mono ?_
    rintro e w4 ⟨rfl, hb4⟩
    have B4 := Lib.hid (belNext B3.out hb4)
    clear hb4
    go_wp2_with fail
    go_ret
    exact ⟨rfl, B4.out⟩
  by_cases h : ftB k a = true
  · by_cases hs : s.size ≤ 6000
    · by_cases ha : (s.size : Int) < a
      · exact main ⟨#[]⟩ false (fun W => specMarkedLine_no s k a W (by omega) (.inr (.inr ⟨h, hs, ha⟩))) (fun W _ => implMarkedLine_no s k a W (by omega) (.inr (.inr ⟨h, hs, ha⟩)))
      · have h' : (1 ≤ k ∧ k ≤ 7) ∧ (0 ≤ a ∧ a ≤ 6000) := by simpa [ftB] using h
        obtain ⟨k, rfl⟩ : ∃ n : Nat, k = n := ⟨k.toNat, by omega⟩
        obtain ⟨a, rfl⟩ : ∃ n : Nat, a = n := ⟨a.toNat, by omega⟩
        have c1 := nlC_bd s a
        have c2 := nlL_bd s a
        obtain ⟨j, hj⟩ : ∃ j : Nat, nlC s a = j := ⟨(nlC s a).toNat, by omega⟩
        obtain ⟨n, hn⟩ : ∃ n : Nat, (a : Int) - nlL s a = (n : Int) + 1 := ⟨((a : Int) - nlL s a - 1).toNat, by omega⟩
        exact main _ true (fun W => specMarkedLine_yes s k a W hs (by omega) (by omega) (by omega) (by omega) j n hj hn) (fun W hW => implMarkedLine_yes s k a W hW hs (by omega) (by omega) (by omega) (by omega) j n hj hn)
    · exact main ⟨#[]⟩ false (fun W => specMarkedLine_no s k a W (by omega) (.inr (.inl ⟨h, by omega⟩))) (fun W _ => implMarkedLine_no s k a W (by omega) (.inr (.inl ⟨h, by omega⟩)))
  · have h' : ftB k a = false := by simpa using h
    exact main ⟨#[]⟩ false (fun W => specMarkedLine_no s k a W (by omega) (.inl h')) (fun W _ => implMarkedLine_no s k a W (by omega) (.inl h'))
end Go.Proofs.YtdnncmhfmpiocaaDoor
