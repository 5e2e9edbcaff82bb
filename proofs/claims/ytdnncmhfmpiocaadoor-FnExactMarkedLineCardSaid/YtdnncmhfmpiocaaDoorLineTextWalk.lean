/-
  LineText, the program's and the reference's; the walk of FnExactLineText.
-/
import Derived.Test.YtdnncmhfmpiocaaDoorLineStart
import Derived.Test.YtdnncmhfmpiocaaDoorRows
namespace Go.Proofs.YtdnncmhfmpiocaaDoor
open Go.RowKit
theorem erText_yes (s : ByteArray) (w : World) (h : s.size ≤ 6000) : Calls Tryd.prog 29 #[.string s] w fun e w' => e = .returned (.bool true) ∧ w = w' := by
  have hd : decide ((s.size : Int) ≤ 6000) = true := decide_eq_true (by omega)
  go_enter Tryd.func29, Tryd.ntmps29
  go_wp2
  go_ret
  exact ⟨rfl, rfl⟩
theorem erText_no (s : ByteArray) (w : World) (h : 6000 < s.size) : Calls Tryd.prog 29 #[.string s] w fun e w' => e = .returned (.bool false) ∧ w = w' := by
  have hd : decide ((s.size : Int) ≤ 6000) = false := decide_eq_false (by omega)
  go_enter Tryd.func29, Tryd.ntmps29
  go_wp2
  go_ret
  exact ⟨rfl, rfl⟩
set_option maxHeartbeats 1000000 in
theorem specLineText_big (s : ByteArray) (x : Int) (w : World) (h : 6000 < s.size) : Calls Tryd.prog 16 #[.string s, .int .i64 x] w fun e w' => e = .returned (.tuple #[.string ⟨#[]⟩, .bool false]) ∧ Below w.heap.size w w' := by
  go_enter Tryd.func16, Tryd.ntmps16
  go_wp2_with (go_at_call 29; refine (erText_no s _ h).mono ?_; rintro e w1 ⟨rfl, rfl⟩)
  go_ret2
  exact ⟨rfl, Below.refl _ _⟩
set_option maxHeartbeats 1000000 in
theorem specLineText_no (s : ByteArray) (x : Int) (w : World) (hs : s.size ≤ 6000) (h : x < 1 ∨ ((pcs s 10 0).length : Int) < x) : Calls Tryd.prog 16 #[.string s, .int .i64 x] w fun e w' => e = .returned (.tuple #[.string ⟨#[]⟩, .bool false]) ∧ Below w.heap.size w w' := by
  have HE := Lib.hid (erStart_no s x w hs h)
  clear h
  go_enter Tryd.func16, Tryd.ntmps16
  go_wp2_with (go_at_call 29; refine (erText_yes s _ hs).mono ?_; rintro e w1 ⟨rfl, rfl⟩)
  refine HE.out.mono ?_
  rintro e w1 ⟨rfl, hb⟩
  have HB := Lib.hid hb
  clear hb
  go_wp2_with fail
  go_ret2
  exact ⟨rfl, HB.out⟩
set_option maxHeartbeats 1000000 in
theorem specLineText_yes (s : ByteArray) (k : Nat) (w : World) (hs : s.size ≤ 6000) (hk : k < (pcs s 10 0).length) : Calls Tryd.prog 16 #[.string s, .int .i64 ((k : Int) + 1)] w fun e w' => e = .returned (.tuple #[.string ((pcs s 10 0).getD k ⟨#[]⟩), .bool true]) ∧ Below w.heap.size w w' := by
  have HE := Lib.hid (erStart_yes s k w hs hk)
  have HS := Lib.hid (fun W => l1Split_any s 10 W (by omega))
  have hl := pcs_len s 10 0
  obtain ⟨o1, o2⟩ := offs_le s hs k (by omega)
  generalize offs (pcs s 10 0) k = o at *
  generalize pcs s 10 0 = L at *
  obtain ⟨q, hq⟩ : ∃ q, L.getD k ⟨#[]⟩ = q := ⟨_, rfl⟩
  rw [hq]
  have HQ := Lib.hid hq
  clear hq
  go_enter Tryd.func16, Tryd.ntmps16
  go_wp2_with (go_at_call 29; refine (erText_yes s _ hs).mono ?_; rintro e w1 ⟨rfl, rfl⟩)
  refine HE.out.mono ?_
  rintro e w1 ⟨rfl, hb⟩
  have HB := Lib.hid hb
  clear hb
  go_wp2_with fail
  refine (HS.out _).mono ?_
  rintro e w2 ⟨v, rfl, g, c, rfl, hcap, hg, hown, hb⟩
  have HB2 := Lib.hid (belNext HB.out hb)
  have hcell : w2.cell? ⟨g, k, none⟩ = some (.string (L.getD k ⟨#[]⟩)) := hown.cell hk
  rw [HQ.out] at hcell
  clear hb hown hg
  go_wp2_with fail
  go_ret2
  exact ⟨rfl, HB2.out⟩
set_option maxHeartbeats 1000000 in
theorem implLineText_big (s : ByteArray) (x : Int) (w : World) (h : 6000 < s.size) : Calls Tryd.prog 17 #[.string s, .int .i64 x] w fun e w' => e = .returned (.tuple #[.string ⟨#[]⟩, .bool false]) ∧ Below w.heap.size w w' := by
  go_enter Tryd.func17, Tryd.ntmps17
  go_wp2_with fail
  go_ret2
  exact ⟨rfl, Below.refl _ _⟩
set_option maxHeartbeats 1000000 in
theorem implLineText_no (s : ByteArray) (x : Int) (w : World) (hM : MaxL w) (hs : s.size ≤ 6000) (h : x < 1 ∨ ((pcs s 10 0).length : Int) < x) : Calls Tryd.prog 17 #[.string s, .int .i64 x] w fun e w' => e = .returned (.tuple #[.string ⟨#[]⟩, .bool false]) ∧ Below w.heap.size w w' := by
  have HE := Lib.hid (lineStart_no s x w hM hs h)
  clear h hM
  go_enter Tryd.func17, Tryd.ntmps17
  go_wp2_with fail
  refine HE.out.mono ?_
  rintro e w1 ⟨rfl, hb⟩
  have HB := Lib.hid hb
  clear hb
  go_wp2_with fail
  go_ret2
  exact ⟨rfl, HB.out⟩
set_option maxHeartbeats 1000000 in
theorem implLineText_yes (s : ByteArray) (k : Nat) (w : World) (hM : MaxL w) (hs : s.size ≤ 6000) (hk : k < (pcs s 10 0).length) : Calls Tryd.prog 17 #[.string s, .int .i64 ((k : Int) + 1)] w fun e w' => e = .returned (.tuple #[.string ((pcs s 10 0).getD k ⟨#[]⟩), .bool true]) ∧ Below w.heap.size w w' := by
  have HE := Lib.hid (lineStart_yes s k w hM hs hk)
  generalize (pcs s 10 0).getD k ⟨#[]⟩ = q at *
  clear hM
  go_enter Tryd.func17, Tryd.ntmps17
  go_wp2_with fail
  refine HE.out.mono ?_
  rintro e w1 ⟨rfl, hb⟩
  have HB := Lib.hid hb
  clear hb
  go_wp2_with fail
  go_ret2
  exact ⟨rfl, HB.out⟩
set_option maxHeartbeats 1000000 in
theorem fnExactLineText_walk (s : ByteArray) (_ : s.size ≤ maxLen) (x : Int) (_ : -9223372036854775808 ≤ x) (_ : x ≤ 9223372036854775807) (w : World) (_hL : laidMetH Tryd.prog Rows.fnExactLineTextRow.laid w) (hsh : w.ShapedOpen Tryd.prog) :
    Calls Tryd.prog 6 #[.string s, .int .i64 x] w fun e w' => e = .returned (.bool true) ∧ Below w.heap.size w w' := by
  have HM := Lib.hid (maxL_of hsh)
  clear hsh _hL
  by_cases hbig : 1048576 < (s.size : Int)
  · go_enter Tryd.func6, Tryd.ntmps6
    go_wp2_with fail
    go_ret
    exact ⟨rfl, Below.refl _ _⟩
  have main : ∀ (v : ByteArray) (b : Bool), (∀ W, Calls Tryd.prog 16 #[.string s, .int .i64 x] W fun e w' => e = .returned (.tuple #[.string v, .bool b]) ∧ Below W.heap.size W w') →
      (∀ W, MaxL W → Calls Tryd.prog 17 #[.string s, .int .i64 x] W fun e w' => e = .returned (.tuple #[.string v, .bool b]) ∧ Below W.heap.size W w') →
      Calls Tryd.prog 6 #[.string s, .int .i64 x] w fun e w' => e = .returned (.bool true) ∧ Below w.heap.size w w' := by
    intro v b hS hI
    have HS := Lib.hid hS
    have HI := Lib.hid hI
    clear hS hI
    go_enter Tryd.func6, Tryd.ntmps6
    go_wp2_with fail
    refine (HS.out _).mono ?_
    rintro e w1 ⟨rfl, hb1⟩
    have B1 := Lib.hid hb1
    clear hb1
    go_wp2_with fail
    refine (HI.out _ (HM.out.later B1.out)).mono ?_
    rintro e w2 ⟨rfl, hb2⟩
    have B2 := Lib.hid (belNext B1.out hb2)
    clear hb2
    go_wp2_with fail
    go_ret
    exact ⟨rfl, B2.out⟩
  by_cases hs : s.size ≤ 6000
  · by_cases hx : x < 1 ∨ ((pcs s 10 0).length : Int) < x
    · exact main _ _ (fun W => specLineText_no s x W hs hx) (fun W hW => implLineText_no s x W hW hs hx)
    · obtain ⟨k, rfl⟩ : ∃ k : Nat, x = (k : Int) + 1 := ⟨(x - 1).toNat, by omega⟩
      exact main _ _ (fun W => specLineText_yes s k W hs (by omega)) (fun W hW => implLineText_yes s k W hW hs (by omega))
  · exact main _ _ (fun W => specLineText_big s x W (by omega)) (fun W _ => implLineText_big s x W (by omega))
end Go.Proofs.YtdnncmhfmpiocaaDoor
