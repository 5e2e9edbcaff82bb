/-
  The walk of FnExactTokensOf: it returns true and leaves old memory as it was.
-/
import Derived.Test.YtopolfibledmnaaDoorTokAll
import Derived.Test.YtopolfibledmnaaDoorTokMark
namespace Go.Proofs.YtopolfibledmnaaDoor
open Go.RowKit
theorem tks_len (s : ByteArray) (a n : Nat) (hn : n ≤ 600) : (tks s a n).l.length ≤ 600 - n := by
  rw [tks]
  split
  · rename_i hlt
    split
    · simp
    · split
      · simp
      · split
        · simp
        · rename_i h600 hle
          have hge := skp_ge s a
          have ih := tks_len s (skp s a + (tkT s (skp s a)).size) (n + 1) (by omega)
          unfold app
          split
          · simp
          · rw [List.length_append]
            simp
            omega
  · simp
termination_by s.size - a
/-- A fault's cells in block g. -/
structure IsFl (W : World) (g : Nat) (fk fa : Int) : Prop where
  q0 : W.cell? ⟨g, 0, none⟩ = some (.int .i64 fk)
  q1 : W.cell? ⟨g, 1, none⟩ = some (.int .i64 fa)
  sz : g < W.heap.size
theorem isFl {w W : World} {u : TypeId} {fk fa : Int} (hb : Below (w.alloc (.cells #[.int .i64 fk, .int .i64 fa] u)).heap.size (w.alloc (.cells #[.int .i64 fk, .int .i64 fa] u)) W) : IsFl W w.heap.size fk fa := by
  obtain ⟨hc, _⟩ := bcell hb
  have hs := hb.size
  simp at hs
  constructor
  all_goals first
    | exact (hc _ _ (by simp <;> omega)).trans (by simp [go_sem])
    | omega
theorem IsFl.later {w W : World} {g : Nat} {fk fa : Int} (h : IsFl w g fk fa) (hb : Below w.heap.size w W) : IsFl W g fk fa :=
  ⟨(hb.cell (p := ⟨g, 0, none⟩) h.sz).trans h.q0, (hb.cell (p := ⟨g, 1, none⟩) h.sz).trans h.q1, Nat.lt_of_lt_of_le h.sz hb.size⟩
theorem IsFl.keep {w W : World} {g : Nat} {fk fa : Int} (h : IsFl w g fk fa) (hs : w.heap.size ≤ W.heap.size) (hh : W.heap[g]? = w.heap[g]?) : IsFl W g fk fa :=
  ⟨by have := h.q0; unfold World.cell? at this ⊢; rw [hh]; exact this, by have := h.q1; unfold World.cell? at this ⊢; rw [hh]; exact this, Nat.lt_of_lt_of_le h.sz hs⟩
theorem TokOut.some_ {w w' : World} {r : TR} {b : List Value} {e : Ending} (h : TokOut w r b e w') {m : Nat} (hm : r.l.length = m) (h0 : 0 < m) :
    ∃ g c, e = .returned (.tuple (#[.slice (some ⟨g, 0, none⟩) m c, .agg #[.int .i64 r.fk, .int .i64 r.fa]] ++ b.toArray)) ∧ w.heap.size + 1 ≤ g ∧ OwnT w' g m (fun i => r.l.getD i tk0) ∧ Below w.heap.size w w' := by
  obtain ⟨v, he, ⟨A, c, rfl, hA⟩, hb⟩ := h
  subst hm
  obtain ⟨g, rfl, hg, ho⟩ := hA h0
  exact ⟨g, c, he, hg, ho, hb⟩
theorem TokOut.none_ {w w' : World} {r : TR} {b : List Value} {e : Ending} (h : TokOut w r b e w') (hm : r.l.length = 0) :
    ∃ A c, e = .returned (.tuple (#[.slice A 0 c, .agg #[.int .i64 r.fk, .int .i64 r.fa]] ++ b.toArray)) ∧ Below w.heap.size w w' := by
  obtain ⟨v, he, ⟨A, c, rfl, hA⟩, hb⟩ := h
  rw [hm] at he
  exact ⟨A, c, he, hb⟩
set_option maxHeartbeats 2000000 in
theorem tokensOf_law (s : ByteArray) (r : TR) (ok : Bool) (w : World) (hs : s.size ≤ 1048576) (hl : r.l.length ≤ 600)
    (hS : ∀ W, Below w.heap.size w W → Calls Tryd.prog 37 #[.string s] W (TokOut W r [.bool ok])) (hI : ∀ W, Below w.heap.size w W → Calls Tryd.prog 38 #[.string s] W (TokOut W r [.bool ok])) :
    Calls Tryd.prog 10 #[.string s] w fun e w' => e = .returned (.bool true) ∧ Below w.heap.size w w' := by
  obtain ⟨m, hm⟩ : ∃ m, r.l.length = m := ⟨_, rfl⟩
  rw [hm] at hl
  obtain ⟨fk, hfk⟩ : ∃ x, r.fk = x := ⟨_, rfl⟩
  obtain ⟨fa, hfa⟩ : ∃ x, r.fa = x := ⟨_, rfl⟩
  have HEF : Hid (∀ W, _) := fun W => eqFault_tk fk fa W
  have HM := Lib.hid hm
  rcases Nat.eq_zero_or_pos m with hz | hpos
  · have HS : Hid (∀ W, Below w.heap.size w W → Calls Tryd.prog 37 #[.string s] W fun e w' => ∃ A c, e = .returned (.tuple #[.slice A 0 c, .agg #[.int .i64 fk, .int .i64 fa], .bool ok]) ∧ Below W.heap.size W w') := fun W hW => by rw [← hfk, ← hfa]; exact (hS W hW).mono fun _ _ h => h.none_ (by omega)
    have HI : Hid (∀ W, Below w.heap.size w W → Calls Tryd.prog 38 #[.string s] W fun e w' => ∃ A c, e = .returned (.tuple #[.slice A 0 c, .agg #[.int .i64 fk, .int .i64 fa], .bool ok]) ∧ Below W.heap.size W w') := fun W hW => by rw [← hfk, ← hfa]; exact (hI W hW).mono fun _ _ h => h.none_ (by omega)
    clear hS hI hm hz hfk hfa
    go_enter Tryd.func10, Tryd.ntmps10
    go_wp2_with fail
    refine (HS.out _ (Below.refl _ _)).mono ?_
    rintro e w1 ⟨A1, c1, rfl, hb1⟩
    have HB1 := Lib.hid hb1
    clear hb1
    go_wp2_with fail
    refine (HI.out _ (belAlloc HB1.out _)).mono ?_
    rintro e w2 ⟨A2, c2, rfl, hb2⟩
    have HB2 := Lib.hid (belNext (belAlloc HB1.out _) hb2)
    have F1 := Lib.hid (isFl hb2)
    clear hb2
    go_wp2_with fail
    refine (eqTokenS_nil _ _ _ _ _).mono ?_
    rintro e w3 ⟨rfl, rfl⟩
    obtain ⟨k0, k1, kz⟩ := F1.out
    go_wp2_with fail
    refine (HEF.out _).mono ?_
    rintro e w4 ⟨rfl, hb4⟩
    have HB4 := Lib.hid (belNext (belAlloc HB2.out _) hb4)
    have F4 := Lib.hid ((F1.out.later (belAlloc (Below.refl _ _) _)).later hb4)
    clear hb4 k0 k1 kz F1
    go_wp2_with fail
    refine (markTokenS_nil _ _ _).mono ?_
    rintro e w5 ⟨rfl, rfl⟩
    go_wp2_with fail
    refine (heldTokenS_nil _ _ _).mono ?_
    rintro e w5 ⟨rfl, rfl⟩
    go_wp2_with fail
    refine (HI.out _ HB4.out).mono ?_
    rintro e w6 ⟨A3, c3, rfl, hb6⟩
    have HB6 := Lib.hid (belNext HB4.out hb6)
    have F6 := Lib.hid (F4.out.later hb6)
    clear hb6 F4
    go_wp2_with fail
    refine (eqTokenS_nil _ _ _ _ _).mono ?_
    rintro e w7 ⟨rfl, rfl⟩
    obtain ⟨k0, k1, kz⟩ := F6.out
    go_wp2_with fail
    refine (HEF.out _).mono ?_
    rintro e w8 ⟨rfl, hb8⟩
    have HB8 := Lib.hid (belNext (belAlloc HB6.out _) hb8)
    clear hb8 k0 k1 kz
    go_wp2_with fail
    refine (heldTokenS_nil _ _ _).mono ?_
    rintro e w9 ⟨rfl, rfl⟩
    go_wp2_with fail
    go_ret
    exact ⟨rfl, HB8.out⟩
  · have HS : Hid (∀ W, Below w.heap.size w W → Calls Tryd.prog 37 #[.string s] W fun e w' => ∃ g c, e = .returned (.tuple #[.slice (some ⟨g, 0, none⟩) m c, .agg #[.int .i64 fk, .int .i64 fa], .bool ok]) ∧ W.heap.size + 1 ≤ g ∧ OwnT w' g m (fun i => r.l.getD i tk0) ∧ Below W.heap.size W w') := fun W hW => by rw [← hfk, ← hfa]; exact (hS W hW).mono fun _ _ h => h.some_ hm hpos
    have HI : Hid (∀ W, Below w.heap.size w W → Calls Tryd.prog 38 #[.string s] W fun e w' => ∃ g c, e = .returned (.tuple #[.slice (some ⟨g, 0, none⟩) m c, .agg #[.int .i64 fk, .int .i64 fa], .bool ok]) ∧ W.heap.size + 1 ≤ g ∧ OwnT w' g m (fun i => r.l.getD i tk0) ∧ Below W.heap.size W w') := fun W hW => by rw [← hfk, ← hfa]; exact (hI W hW).mono fun _ _ h => h.some_ hm hpos
    clear hS hI hm hfk hfa
    generalize (fun i => r.l.getD i tk0) = f at *
    go_enter Tryd.func10, Tryd.ntmps10
    go_wp2_with fail
    refine (HS.out _ (Below.refl _ _)).mono ?_
    rintro e w1 ⟨g1, c1, rfl, hg1, ho1, hb1⟩
    have HB1 := Lib.hid hb1
    have O1 := Lib.hid ho1
    clear hb1 ho1
    go_wp2_with fail
    refine (HI.out _ (belAlloc HB1.out _)).mono ?_
    rintro e w2 ⟨g2, c2, rfl, hg2, ho2, hb2⟩
    have HB2 := Lib.hid (belNext (belAlloc HB1.out _) hb2)
    have F1 := Lib.hid (isFl hb2)
    have O1a := Lib.hid ((O1.out.later (belAlloc (Below.refl _ _) _)).later hb2)
    have O2 := Lib.hid ho2
    have hg2' : w1.heap.size + 1 + 1 ≤ g2 := by simpa using hg2
    have hne1 : g1 ≠ g2 := by have := O1.out.1; omega
    have hne2 : w1.heap.size ≠ g2 := by omega
    have hgw : w.heap.size ≤ g2 := by have := HB1.out.size; omega
    have HNE1 := Lib.hid hne1
    have HNE2 := Lib.hid hne2
    clear hb2 ho2 hg2 hg2' hne1 hne2
    go_wp2_with fail
    refine (eqTokenS_own g2 g1 c2 c1 m f _ (by omega) (O2.out.later (belAlloc (Below.refl _ _) _)) (O1a.out.later (belAlloc (Below.refl _ _) _))).mono ?_
    rintro e w3 ⟨rfl, hb3⟩
    have HB3 := Lib.hid (belNext (belAlloc HB2.out _) hb3)
    have O1b := Lib.hid ((O1a.out.later (belAlloc (Below.refl _ _) _)).later hb3)
    have O2b := Lib.hid ((O2.out.later (belAlloc (Below.refl _ _) _)).later hb3)
    have F1b := Lib.hid ((F1.out.later (belAlloc (Below.refl _ _) _)).later hb3)
    obtain ⟨k0, k1, kz⟩ := F1b.out
    obtain ⟨j0, j1, jz⟩ := isFl hb3
    clear hb3
    go_wp2_with fail
    refine (HEF.out _).mono ?_
    rintro e w4 ⟨rfl, hb4⟩
    have HB4 := Lib.hid (belNext HB3.out hb4)
    have O1c := Lib.hid (O1b.out.later hb4)
    have O2c := Lib.hid (O2b.out.later hb4)
    have F1c := Lib.hid (F1b.out.later hb4)
    clear hb4 k0 k1 kz j0 j1 jz
    go_wp2_with fail
    refine (markTokenS_own g2 m c2 f _ (by omega) O2c.out).mono ?_
    rintro e w5 ⟨rfl, ho5, hb5, hs5, ht5⟩
    have O1d := Lib.hid (Own.keepT O1c.out hs5 (ht5 g1 HNE1.out O1c.out.1))
    have F1d := Lib.hid (F1c.out.keep hs5 (ht5 _ HNE2.out F1c.out.sz))
    have O2d := Lib.hid ho5
    have HB5 := Lib.hid (HB4.out.trans (hb5 _ hgw HB4.out.size))
    clear ho5 hb5 hs5 ht5
    go_wp2_with fail
    refine (heldTokenS_own g2 m c2 f _ (by omega) O2d.out).mono ?_
    rintro e w6 ⟨rfl, hb6⟩
    have HB6 := Lib.hid (belNext HB5.out hb6)
    have O1e := Lib.hid (O1d.out.later hb6)
    have O2e := Lib.hid (O2d.out.later hb6)
    have F1e := Lib.hid (F1d.out.later hb6)
    clear hb6
    go_wp2_with fail
    refine (HI.out _ HB6.out).mono ?_
    rintro e w7 ⟨g3, c3, rfl, hg3, ho7, hb7⟩
    have HB7 := Lib.hid (belNext HB6.out hb7)
    have O1f := Lib.hid (O1e.out.later hb7)
    have O2f := Lib.hid (O2e.out.later hb7)
    have F1f := Lib.hid (F1e.out.later hb7)
    have O3 := Lib.hid ho7
    clear hb7 ho7 hg3
    go_wp2_with fail
    refine (eqTokenS_own g3 g1 c3 c1 m f _ (by omega) (O3.out.later (belAlloc (Below.refl _ _) _)) (O1f.out.later (belAlloc (Below.refl _ _) _))).mono ?_
    rintro e w8 ⟨rfl, hb8⟩
    have HB8 := Lib.hid (belNext (belAlloc HB7.out _) hb8)
    have O2g := Lib.hid ((O2f.out.later (belAlloc (Below.refl _ _) _)).later hb8)
    have F1g := Lib.hid ((F1f.out.later (belAlloc (Below.refl _ _) _)).later hb8)
    obtain ⟨k0, k1, kz⟩ := F1g.out
    obtain ⟨j0, j1, jz⟩ := isFl hb8
    clear hb8
    go_wp2_with fail
    refine (HEF.out _).mono ?_
    rintro e w9 ⟨rfl, hb9⟩
    have HB9 := Lib.hid (belNext HB8.out hb9)
    have O2h := Lib.hid (O2g.out.later hb9)
    clear hb9 k0 k1 kz j0 j1 jz
    go_wp2_with fail
    refine (heldTokenS_own g2 m c2 f _ (by omega) O2h.out).mono ?_
    rintro e w10 ⟨rfl, hb10⟩
    have HB10 := Lib.hid (belNext HB9.out hb10)
    clear hb10
    go_wp2_with fail
    go_ret
    exact ⟨rfl, HB10.out⟩
theorem fnExactTokensOf_walk (s : ByteArray) (hs : s.size ≤ maxLen) (w : World) (hL : laidMetH Tryd.prog Rows.fnExactTokensOfRow.laid w) :
    Calls Tryd.prog 10 #[.string s] w fun e w' => e = .returned (.bool true) ∧ Below w.heap.size w w' := by
  have hK := keyTab_of hL (by simp [Rows.fnExactTokensOfRow])
  have hG := signTab_of hL (by simp [Rows.fnExactTokensOfRow])
  clear hL
  unfold maxLen at hs
  rcases (show 1048576 < (s.size : Int) ∨ (s.size ≤ 1048576 ∧ 4000 < s.size) ∨ s.size ≤ 4000 by omega) with h | ⟨h1, h2⟩ | h1
  · clear hK hG
    go_enter Tryd.func10, Tryd.ntmps10
    go_wp2
    go_ret
    exact ⟨rfl, Below.refl _ _⟩
  · exact tokensOf_law s ⟨0, 0, []⟩ false w h1 (by simp) (fun W _ => specTokensOf_no s W h1 h2) (fun W _ => implTokensOf_no s W h1 h2)
  · exact tokensOf_law s (tks s 0 0) true w (by omega) (tks_len s 0 0 (by omega)) (fun W _ => specTokensOf_yes s W h1) (fun W hW => implTokensOf_yes s W h1 (hK.later hW) (hG.later hW))
end Go.Proofs.YtopolfibledmnaaDoor
