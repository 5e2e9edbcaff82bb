/-
  PlaceOf, the program's and the reference's; the walk of FnExactPlaceOf.
-/
import Derived.Test.YtdnncmhfmpiocaaDoorLineTextWalk
namespace Go.Proofs.YtdnncmhfmpiocaaDoor
open Go.RowKit
set_option maxHeartbeats 1000000 in
theorem specPlaceOf_big (s : ByteArray) (x y : Int) (w : World) (h : 6000 < s.size) : Calls Tryd.prog 18 #[.string s, .int .i64 x, .int .i64 y] w fun e w' => e = .returned (.tuple #[.int .i64 0, .bool false]) ∧ Below w.heap.size w w' := by
  go_enter Tryd.func18, Tryd.ntmps18
  go_wp2_with (go_at_call 29; refine (erText_no s _ h).mono ?_; rintro e w1 ⟨rfl, rfl⟩)
  go_ret2
  exact ⟨rfl, Below.refl _ _⟩
set_option maxHeartbeats 1000000 in
theorem specPlaceOf_no (s : ByteArray) (x y : Int) (w : World) (hs : s.size ≤ 6000) (h : x < 1 ∨ ((pcs s 10 0).length : Int) < x) : Calls Tryd.prog 18 #[.string s, .int .i64 x, .int .i64 y] w fun e w' => e = .returned (.tuple #[.int .i64 0, .bool false]) ∧ Below w.heap.size w w' := by
  have HE := Lib.hid (erStart_no s x w hs h)
  clear h
  go_enter Tryd.func18, Tryd.ntmps18
  go_wp2_with (go_at_call 29; refine (erText_yes s _ hs).mono ?_; rintro e w1 ⟨rfl, rfl⟩)
  refine HE.out.mono ?_
  rintro e w1 ⟨rfl, hb⟩
  have HB := Lib.hid hb
  clear hb
  go_wp2_with fail
  go_ret2
  exact ⟨rfl, HB.out⟩
set_option maxHeartbeats 2000000 in
theorem specPlaceOf_out (s : ByteArray) (k : Nat) (y : Int) (w : World) (hs : s.size ≤ 6000) (hk : k < (pcs s 10 0).length) (hy : y < 1 ∨ (((pcs s 10 0).getD k ⟨#[]⟩).size : Int) + 1 < y) : Calls Tryd.prog 18 #[.string s, .int .i64 ((k : Int) + 1), .int .i64 y] w fun e w' => e = .returned (.tuple #[.int .i64 0, .bool false]) ∧ Below w.heap.size w w' := by
  have HE := Lib.hid (erStart_yes s k w hs hk)
  have HS := Lib.hid (fun W => l1Split_any s 10 W (by omega))
  have hl := pcs_len s 10 0
  have hgs := pcs_getD s 10 k
  obtain ⟨o1, o2⟩ := offs_le s hs k (by omega)
  generalize offs (pcs s 10 0) k = o at *
  generalize pcs s 10 0 = L at *
  obtain ⟨q, hq⟩ : ∃ q, L.getD k ⟨#[]⟩ = q := ⟨_, rfl⟩
  rw [hq] at hy hgs
  have HQ := Lib.hid hq
  clear hq
  go_enter Tryd.func18, Tryd.ntmps18
  go_wp2_with (go_at_call 29; refine (erText_yes s _ hs).mono ?_; rintro e w1 ⟨rfl, rfl⟩)
  refine HE.out.mono ?_
  rintro e w1 ⟨rfl, hb⟩
  have HB := Lib.hid hb
  clear hb
  go_wp2_with fail
  refine (HS.out _).mono ?_
  rintro e w2 ⟨v, rfl, g, c, rfl, hcap, hg, hown, hb⟩
  have HB2 := Lib.hid (belNext HB.out hb)
  have hcell : w2.cell? ⟨g, k, none⟩ = some (.string (L.getD k ⟨#[]⟩)) := hown.cell hk
  rw [HQ.out] at hcell
  clear hb hown hg
  go_wp2_with (go_at_call 22; refine (l1In_no _ _ _ _ hy).mono ?_; rintro e w3 ⟨rfl, rfl⟩)
  go_ret2
  exact ⟨rfl, HB2.out⟩
set_option maxHeartbeats 2000000 in
theorem specPlaceOf_yes (s : ByteArray) (k : Nat) (y : Int) (w : World) (hs : s.size ≤ 6000) (hk : k < (pcs s 10 0).length) (hy : 1 ≤ y) (hy2 : y ≤ (((pcs s 10 0).getD k ⟨#[]⟩).size : Int) + 1) : Calls Tryd.prog 18 #[.string s, .int .i64 ((k : Int) + 1), .int .i64 y] w fun e w' => e = .returned (.tuple #[.int .i64 (offs (pcs s 10 0) k + y - 1), .bool true]) ∧ Below w.heap.size w w' := by
  have HE := Lib.hid (fun W => erStart_yes s k W hs hk)
  have HS := Lib.hid (fun W => l1Split_any s 10 W (by omega))
  have hl := pcs_len s 10 0
  have hgs := pcs_getD s 10 k
  obtain ⟨o1, o2⟩ := offs_le s hs k (by omega)
  generalize offs (pcs s 10 0) k = o at *
  generalize pcs s 10 0 = L at *
  obtain ⟨q, hq⟩ : ∃ q, L.getD k ⟨#[]⟩ = q := ⟨_, rfl⟩
  rw [hq] at hy2 hgs
  have HQ := Lib.hid hq
  clear hq
  go_enter Tryd.func18, Tryd.ntmps18
  go_wp2_with (go_at_call 29; refine (erText_yes s _ hs).mono ?_; rintro e w1 ⟨rfl, rfl⟩)
  refine (HE.out _).mono ?_
  rintro e w1 ⟨rfl, hb⟩
  have HB := Lib.hid hb
  clear hb
  go_wp2_with fail
  refine (HS.out _).mono ?_
  rintro e w2 ⟨v, rfl, g, c, rfl, hcap, hg, hown, hb⟩
  have HB2 := Lib.hid (belNext HB.out hb)
  have hcell : w2.cell? ⟨g, k, none⟩ = some (.string (L.getD k ⟨#[]⟩)) := hown.cell hk
  rw [HQ.out] at hcell
  clear hb hown hg
  go_wp2_with (go_at_call 22; refine (l1In_yes _ _ _ _ hy hy2).mono ?_; rintro e w3 ⟨rfl, rfl⟩)
  refine (HE.out _).mono ?_
  rintro e w3 ⟨rfl, hb⟩
  have HB3 := Lib.hid (belNext HB2.out hb)
  clear hb
  go_wp2_with fail
  go_ret2
  exact ⟨rfl, HB3.out⟩
set_option maxHeartbeats 1000000 in
theorem implPlaceOf_big (s : ByteArray) (x y : Int) (w : World) (h : 6000 < s.size) : Calls Tryd.prog 19 #[.string s, .int .i64 x, .int .i64 y] w fun e w' => e = .returned (.tuple #[.int .i64 0, .bool false]) ∧ Below w.heap.size w w' := by
  go_enter Tryd.func19, Tryd.ntmps19
  go_wp2_with fail
  go_ret2
  exact ⟨rfl, Below.refl _ _⟩
set_option maxHeartbeats 1000000 in
theorem implPlaceOf_no (s : ByteArray) (x y : Int) (w : World) (hM : MaxL w) (hs : s.size ≤ 6000) (h : x < 1 ∨ ((pcs s 10 0).length : Int) < x) : Calls Tryd.prog 19 #[.string s, .int .i64 x, .int .i64 y] w fun e w' => e = .returned (.tuple #[.int .i64 0, .bool false]) ∧ Below w.heap.size w w' := by
  have HE := Lib.hid (lineStart_no s x w hM hs h)
  clear h hM
  go_enter Tryd.func19, Tryd.ntmps19
  go_wp2_with fail
  refine HE.out.mono ?_
  rintro e w1 ⟨rfl, hb⟩
  have HB := Lib.hid hb
  clear hb
  go_wp2_with fail
  go_ret2
  exact ⟨rfl, HB.out⟩
set_option maxHeartbeats 1000000 in
theorem implPlaceOf_out (s : ByteArray) (k : Nat) (y : Int) (w : World) (hM : MaxL w) (hs : s.size ≤ 6000) (hk : k < (pcs s 10 0).length) (hy : y < 1 ∨ (((pcs s 10 0).getD k ⟨#[]⟩).size : Int) + 1 < y) : Calls Tryd.prog 19 #[.string s, .int .i64 ((k : Int) + 1), .int .i64 y] w fun e w' => e = .returned (.tuple #[.int .i64 0, .bool false]) ∧ Below w.heap.size w w' := by
  have HE := Lib.hid (lineStart_yes s k w hM hs hk)
  have hgs := pcs_getD s 10 k
  generalize (pcs s 10 0).getD k ⟨#[]⟩ = q at *
  generalize offs (pcs s 10 0) k = o at *
  clear hM
  rcases (show y < 1 ∨ (1 ≤ y ∧ (q.size : Int) + 1 < y) by omega) with h1 | ⟨h1, h2⟩
  · clear hy
    go_enter Tryd.func19, Tryd.ntmps19
    go_wp2_with fail
    refine HE.out.mono ?_
    rintro e w1 ⟨rfl, hb⟩
    have HB := Lib.hid hb
    clear hb
    go_wp2_with fail
    go_ret2
    exact ⟨rfl, HB.out⟩
  · clear hy
    go_enter Tryd.func19, Tryd.ntmps19
    go_wp2_with fail
    refine HE.out.mono ?_
    rintro e w1 ⟨rfl, hb⟩
    have HB := Lib.hid hb
    clear hb
    go_wp2_with fail
    go_ret2
    exact ⟨rfl, HB.out⟩
set_option maxHeartbeats 1000000 in
theorem implPlaceOf_yes (s : ByteArray) (k : Nat) (y : Int) (w : World) (hM : MaxL w) (hs : s.size ≤ 6000) (hk : k < (pcs s 10 0).length) (hy : 1 ≤ y) (hy2 : y ≤ (((pcs s 10 0).getD k ⟨#[]⟩).size : Int) + 1) : Calls Tryd.prog 19 #[.string s, .int .i64 ((k : Int) + 1), .int .i64 y] w fun e w' => e = .returned (.tuple #[.int .i64 (offs (pcs s 10 0) k + y - 1), .bool true]) ∧ Below w.heap.size w w' := by
  have HE := Lib.hid (lineStart_yes s k w hM hs hk)
  have hgs := pcs_getD s 10 k
  have hl := pcs_len s 10 0
  obtain ⟨o1, o2⟩ := offs_le s hs k (by omega)
  generalize (pcs s 10 0).getD k ⟨#[]⟩ = q at *
  generalize offs (pcs s 10 0) k = o at *
  clear hM
  go_enter Tryd.func19, Tryd.ntmps19
  go_wp2_with fail
  refine HE.out.mono ?_
  rintro e w1 ⟨rfl, hb⟩
  have HB := Lib.hid hb
  clear hb
  go_wp2_with fail
  go_ret2
  exact ⟨rfl, HB.out⟩
set_option maxHeartbeats 1000000 in
theorem fnExactPlaceOf_walk (s : ByteArray) (_ : s.size ≤ maxLen) (x : Int) (_ : -9223372036854775808 ≤ x) (_ : x ≤ 9223372036854775807) (y : Int) (_ : -9223372036854775808 ≤ y) (_ : y ≤ 9223372036854775807) (w : World) (_hL : laidMetH Tryd.prog Rows.fnExactPlaceOfRow.laid w) (hsh : w.ShapedOpen Tryd.prog) :
    Calls Tryd.prog 7 #[.string s, .int .i64 x, .int .i64 y] w fun e w' => e = .returned (.bool true) ∧ Below w.heap.size w w' := by
  have HM := Lib.hid (maxL_of hsh)
  clear hsh _hL
  by_cases hbig : 1048576 < (s.size : Int)
  · go_enter Tryd.func7, Tryd.ntmps7
    go_wp2_with fail
    go_ret
    exact ⟨rfl, Below.refl _ _⟩
  have main : ∀ (v : Int) (b : Bool), (∀ W, Calls Tryd.prog 18 #[.string s, .int .i64 x, .int .i64 y] W fun e w' => e = .returned (.tuple #[.int .i64 v, .bool b]) ∧ Below W.heap.size W w') →
      (∀ W, MaxL W → Calls Tryd.prog 19 #[.string s, .int .i64 x, .int .i64 y] W fun e w' => e = .returned (.tuple #[.int .i64 v, .bool b]) ∧ Below W.heap.size W w') →
      Calls Tryd.prog 7 #[.string s, .int .i64 x, .int .i64 y] w fun e w' => e = .returned (.bool true) ∧ Below w.heap.size w w' := by
    intro v b hS hI
    have HS := Lib.hid hS
    have HI := Lib.hid hI
    clear hS hI
    go_enter Tryd.func7, Tryd.ntmps7
    go_wp2_with fail
    refine (HS.out _).mono ?_
    rintro e w1 ⟨rfl, hb1⟩
    have B1 := Lib.hid hb1
    clear hb1
    go_wp2_with fail
    refine (HI.out _ (HM.out.later B1.out)).mono ?_
    rintro e w2 ⟨rfl, hb2⟩
    have B2 := Lib.hid (belNext B1.out hb2)
    clear hb2
    go_wp2_with fail
    go_ret
    exact ⟨rfl, B2.out⟩
  by_cases hs : s.size ≤ 6000
  · by_cases hx : x < 1 ∨ ((pcs s 10 0).length : Int) < x
    · exact main _ _ (fun W => specPlaceOf_no s x y W hs hx) (fun W hW => implPlaceOf_no s x y W hW hs hx)
    · obtain ⟨k, rfl⟩ : ∃ k : Nat, x = (k : Int) + 1 := ⟨(x - 1).toNat, by omega⟩
      by_cases hy : y < 1 ∨ (((pcs s 10 0).getD k ⟨#[]⟩).size : Int) + 1 < y
      · exact main _ _ (fun W => specPlaceOf_out s k y W hs (by omega) hy) (fun W hW => implPlaceOf_out s k y W hW hs (by omega) hy)
      · exact main _ _ (fun W => specPlaceOf_yes s k y W hs (by omega) (by omega) (by omega)) (fun W hW => implPlaceOf_yes s k y W hW hs (by omega) (by omega) (by omega))
  · exact main _ _ (fun W => specPlaceOf_big s x y W (by omega)) (fun W _ => implPlaceOf_big s x y W (by omega))
end Go.Proofs.YtdnncmhfmpiocaaDoor
