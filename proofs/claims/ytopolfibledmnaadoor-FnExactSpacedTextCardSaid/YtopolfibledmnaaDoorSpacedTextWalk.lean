/-
  SpacedText, the program's and the reference's; the walk of FnExactSpacedText.
-/
import Derived.Test.YtopolfibledmnaaDoorJoinTokensWalk
import Derived.Test.YtopolfibledmnaaDoorTokensOfWalk
namespace Go.Proofs.YtopolfibledmnaaDoor
open Go.RowKit
theorem tks_text (s : ByteArray) (a n : Nat) : ∀ x ∈ (tks s a n).l, x.t.size ≤ s.size := by
  rw [tks]
  split
  · rename_i hlt
    split
    · intro x hx; simp at hx
    · split
      · intro x hx; simp at hx
      · split
        · intro x hx; simp at hx
        · rename_i h600 hle
          have hge := skp_ge s a
          have hfit := tkT_fits (s := s) (a := skp s a) (by omega)
          have ih := tks_text s (skp s a + (tkT s (skp s a)).size) (n + 1)
          unfold app
          split
          · intro x hx; simp at hx
          · intro x hx
            rcases List.mem_append.1 hx with h | h
            · obtain rfl : x = tokD s (skp s a) := by simpa using h
              show (tkT s (skp s a)).size ≤ s.size
              omega
            · exact ih x h
  · intro x hx; simp at hx
termination_by s.size - a
def lf (l : List Tk) : Nat → Tk := fun i => l.getD i tk0
/-- What SpacedText returns. -/
def spS (r : TR) : ByteArray := if r.fk = 0 then (if r.l.length = 0 then ⟨#[]⟩ else jS (lf r.l) r.l.length) else ⟨#[]⟩
def spB (r : TR) : Bool := if r.fk = 0 then (if r.l.length = 0 then true else jB (lf r.l) r.l.length) else false
set_option maxHeartbeats 1000000 in
theorem implSpacedText_of (s : ByteArray) (r : TR) (w : World) (hl : r.l.length ≤ 600) (hx : ∀ x ∈ r.l, x.t.size ≤ 1048576) (hfl : r.fk ≠ 0 → r.l.length = 0) (hK : TabS w 0 keyNs) (hG : TabS w 1 signNs)
    (hT : Calls Tryd.prog 38 #[.string s] w (TokOut w r [.bool true]))
    (hN : ∀ A c W, Calls Tryd.prog 34 #[.slice A 0 c] W fun e w' => e = .returned (.tuple #[.string ⟨#[]⟩, .bool true]) ∧ Below W.heap.size W w')
    (hJ : ∀ g c n f W, n ≤ 1048576 → (∀ i, i < n → (f i).t.size ≤ 1048576) → OwnT W g n f → TabS W 0 keyNs → TabS W 1 signNs → Calls Tryd.prog 34 #[.slice (some ⟨g, 0, none⟩) n c] W fun e w' => e = .returned (.tuple #[.string (jS f n), .bool (jB f n)]) ∧ Below W.heap.size W w') :
    Calls Tryd.prog 41 #[.string s] w fun e w' => e = .returned (.tuple #[.string (spS r), .bool (spB r)]) ∧ Below w.heap.size w w' := by
  have HT := Lib.hid hT
  have HKG : Hid (∀ W, Below w.heap.size w W → TabS W 0 keyNs ∧ TabS W 1 signNs) := fun W hW => ⟨hK.later hW, hG.later hW⟩
  obtain ⟨fk, hfk⟩ : ∃ x, r.fk = x := ⟨_, rfl⟩
  obtain ⟨fa, hfa⟩ : ∃ x, r.fa = x := ⟨_, rfl⟩
  rcases Nat.eq_zero_or_pos r.l.length with hz | hpos
  · have HTn : Hid (Calls Tryd.prog 38 #[.string s] w fun e w' => ∃ A c, e = .returned (.tuple #[.slice A 0 c, .agg #[.int .i64 fk, .int .i64 fa], .bool true]) ∧ Below w.heap.size w w') := by
      rw [← hfk, ← hfa]; exact hT.mono fun _ _ h => h.none_ hz
    by_cases h0 : fk = 0
    · have HR : Hid (spS r = ⟨#[]⟩ ∧ spB r = true) := Lib.hid ⟨by rw [spS, hfk, if_pos h0, if_pos hz], by rw [spB, hfk, if_pos h0, if_pos hz]⟩
      subst h0
      have HN := Lib.hid hN
      clear hT hN hJ HT hK hG hx hfl hz hfk hfa hl
      go_enter Tryd.func41, Tryd.ntmps41
      go_wp2_with fail
      refine HTn.out.mono ?_
      rintro e w1 ⟨A, c, rfl, hb1⟩
      have HB1 := Lib.hid hb1
      clear hb1
      go_wp2_with fail
      refine (HN.out A c _).mono ?_
      rintro e w2 ⟨rfl, hb2⟩
      have HB2 := Lib.hid (belNext (belAlloc HB1.out _) hb2)
      clear hb2
      go_wp2_with fail
      go_ret2
      exact ⟨by rw [HR.out.1, HR.out.2]; rfl, HB2.out⟩
    · have HR : Hid (spS r = ⟨#[]⟩ ∧ spB r = false) := Lib.hid ⟨by rw [spS, hfk, if_neg h0], by rw [spB, hfk, if_neg h0]⟩
      have e0 : (fk != 0) = true := by simpa using h0
      clear hT hN hJ HT hK hG hx hfl hz hfk hfa hl h0
      go_enter Tryd.func41, Tryd.ntmps41
      go_wp2_with fail
      refine HTn.out.mono ?_
      rintro e w1 ⟨A, c, rfl, hb1⟩
      have HB1 := Lib.hid hb1
      clear hb1
      go_wp2_with fail
      go_ret2
      exact ⟨by rw [HR.out.1, HR.out.2]; rfl, belAlloc HB1.out _⟩
  · have h0 : fk = 0 := by
      rcases Decidable.em (fk = 0) with h | h
      · exact h
      · have := hfl (by rw [hfk]; exact h); omega
    have HR : Hid (spS r = jS (lf r.l) r.l.length ∧ spB r = jB (lf r.l) r.l.length) := Lib.hid ⟨by rw [spS, hfk, if_pos h0, if_neg (by omega)], by rw [spB, hfk, if_pos h0, if_neg (by omega)]⟩
    have HTS : Hid (Calls Tryd.prog 38 #[.string s] w fun e w' => ∃ g c, e = .returned (.tuple #[.slice (some ⟨g, 0, none⟩) r.l.length c, .agg #[.int .i64 fk, .int .i64 fa], .bool true]) ∧ w.heap.size + 1 ≤ g ∧ OwnT w' g r.l.length (lf r.l) ∧ Below w.heap.size w w') := by
      rw [← hfk, ← hfa]; exact hT.mono fun _ _ h => h.some_ rfl hpos
    have HJ : Hid (∀ g c W, OwnT W g r.l.length (lf r.l) → TabS W 0 keyNs → TabS W 1 signNs → _) := fun g c W ho k1 k2 => hJ g c r.l.length (lf r.l) W (by omega) (fun i hi => by
      have : lf r.l i ∈ r.l := by
        unfold lf
        rw [List.getD_eq_getElem?_getD, List.getElem?_eq_getElem hi]
        exact List.getElem_mem hi
      exact hx _ this) ho k1 k2
    subst h0
    clear hT hN hJ HT hK hG hx hfl hfk hfa hpos
    generalize lf r.l = f at *
    generalize r.l.length = n at *
    go_enter Tryd.func41, Tryd.ntmps41
    go_wp2_with fail
    refine HTS.out.mono ?_
    rintro e w1 ⟨g, c, rfl, hg, ho, hb1⟩
    have HB1 := Lib.hid hb1
    have O1 := Lib.hid ho
    clear hb1 ho hg
    go_wp2_with fail
    refine (HJ.out g c _ (O1.out.later (belAlloc (Below.refl _ _) _)) (HKG.out _ (belAlloc HB1.out _)).1 (HKG.out _ (belAlloc HB1.out _)).2).mono ?_
    rintro e w2 ⟨rfl, hb2⟩
    have HB2 := Lib.hid (belNext (belAlloc HB1.out _) hb2)
    clear hb2
    go_wp2_with fail
    go_ret2
    exact ⟨by rw [HR.out.1, HR.out.2]; rfl, HB2.out⟩
set_option maxHeartbeats 1000000 in
theorem implSpacedText_no (s : ByteArray) (w : World) (hT : Calls Tryd.prog 38 #[.string s] w (TokOut w ⟨0, 0, []⟩ [.bool false])) :
    Calls Tryd.prog 41 #[.string s] w fun e w' => e = .returned (.tuple #[.string ⟨#[]⟩, .bool false]) ∧ Below w.heap.size w w' := by
  have HTn : Hid (Calls Tryd.prog 38 #[.string s] w fun e w' => ∃ A c, e = .returned (.tuple #[.slice A 0 c, .agg #[.int .i64 0, .int .i64 0], .bool false]) ∧ Below w.heap.size w w') := hT.mono fun _ _ h => h.none_ rfl
  clear hT
  go_enter Tryd.func41, Tryd.ntmps41
  go_wp2_with fail
  refine HTn.out.mono ?_
  rintro e w1 ⟨A, c, rfl, hb1⟩
  have HB1 := Lib.hid hb1
  clear hb1
  go_wp2_with fail
  go_ret2
  exact ⟨rfl, belAlloc HB1.out _⟩
set_option maxHeartbeats 1000000 in
theorem specSpacedText_of (s : ByteArray) (r : TR) (w : World) (hl : r.l.length ≤ 600) (hx : ∀ x ∈ r.l, x.t.size ≤ 1048576) (hfl : r.fk ≠ 0 → r.l.length = 0) (hK : TabS w 0 keyNs) (hG : TabS w 1 signNs)
    (hT : Calls Tryd.prog 37 #[.string s] w (TokOut w r [.bool true]))
    (hN : ∀ A c W, Calls Tryd.prog 33 #[.slice A 0 c] W fun e w' => e = .returned (.tuple #[.string ⟨#[]⟩, .bool true]) ∧ Below W.heap.size W w')
    (hJ : ∀ g c n f W, n ≤ 1048576 → (∀ i, i < n → (f i).t.size ≤ 1048576) → OwnT W g n f → TabS W 0 keyNs → TabS W 1 signNs → Calls Tryd.prog 33 #[.slice (some ⟨g, 0, none⟩) n c] W fun e w' => e = .returned (.tuple #[.string (jS f n), .bool (jB f n)]) ∧ Below W.heap.size W w') :
    Calls Tryd.prog 40 #[.string s] w fun e w' => e = .returned (.tuple #[.string (spS r), .bool (spB r)]) ∧ Below w.heap.size w w' := by
  have HT := Lib.hid hT
  have HKG : Hid (∀ W, Below w.heap.size w W → TabS W 0 keyNs ∧ TabS W 1 signNs) := fun W hW => ⟨hK.later hW, hG.later hW⟩
  obtain ⟨fk, hfk⟩ : ∃ x, r.fk = x := ⟨_, rfl⟩
  obtain ⟨fa, hfa⟩ : ∃ x, r.fa = x := ⟨_, rfl⟩
  rcases Nat.eq_zero_or_pos r.l.length with hz | hpos
  · have HTn : Hid (Calls Tryd.prog 37 #[.string s] w fun e w' => ∃ A c, e = .returned (.tuple #[.slice A 0 c, .agg #[.int .i64 fk, .int .i64 fa], .bool true]) ∧ Below w.heap.size w w') := by
      rw [← hfk, ← hfa]; exact hT.mono fun _ _ h => h.none_ hz
    by_cases h0 : fk = 0
    · have HR : Hid (spS r = ⟨#[]⟩ ∧ spB r = true) := Lib.hid ⟨by rw [spS, hfk, if_pos h0, if_pos hz], by rw [spB, hfk, if_pos h0, if_pos hz]⟩
      subst h0
      have HN := Lib.hid hN
      clear hT hN hJ HT hK hG hx hfl hz hfk hfa hl
      go_enter Tryd.func40, Tryd.ntmps40
      go_wp2_with fail
      refine HTn.out.mono ?_
      rintro e w1 ⟨A, c, rfl, hb1⟩
      have HB1 := Lib.hid hb1
      clear hb1
      go_wp2_with fail
      refine (HN.out A c _).mono ?_
      rintro e w2 ⟨rfl, hb2⟩
      have HB2 := Lib.hid (belNext (belAlloc HB1.out _) hb2)
      clear hb2
      go_wp2_with fail
      go_ret2
      exact ⟨by rw [HR.out.1, HR.out.2]; rfl, HB2.out⟩
    · have HR : Hid (spS r = ⟨#[]⟩ ∧ spB r = false) := Lib.hid ⟨by rw [spS, hfk, if_neg h0], by rw [spB, hfk, if_neg h0]⟩
      have e0 : (fk != 0) = true := by simpa using h0
      clear hT hN hJ HT hK hG hx hfl hz hfk hfa hl h0
      go_enter Tryd.func40, Tryd.ntmps40
      go_wp2_with fail
      refine HTn.out.mono ?_
      rintro e w1 ⟨A, c, rfl, hb1⟩
      have HB1 := Lib.hid hb1
      clear hb1
      go_wp2_with fail
      go_ret2
      exact ⟨by rw [HR.out.1, HR.out.2]; rfl, belAlloc HB1.out _⟩
  · have h0 : fk = 0 := by
      rcases Decidable.em (fk = 0) with h | h
      · exact h
      · have := hfl (by rw [hfk]; exact h); omega
    have HR : Hid (spS r = jS (lf r.l) r.l.length ∧ spB r = jB (lf r.l) r.l.length) := Lib.hid ⟨by rw [spS, hfk, if_pos h0, if_neg (by omega)], by rw [spB, hfk, if_pos h0, if_neg (by omega)]⟩
    have HTS : Hid (Calls Tryd.prog 37 #[.string s] w fun e w' => ∃ g c, e = .returned (.tuple #[.slice (some ⟨g, 0, none⟩) r.l.length c, .agg #[.int .i64 fk, .int .i64 fa], .bool true]) ∧ w.heap.size + 1 ≤ g ∧ OwnT w' g r.l.length (lf r.l) ∧ Below w.heap.size w w') := by
      rw [← hfk, ← hfa]; exact hT.mono fun _ _ h => h.some_ rfl hpos
    have HJ : Hid (∀ g c W, OwnT W g r.l.length (lf r.l) → TabS W 0 keyNs → TabS W 1 signNs → _) := fun g c W ho k1 k2 => hJ g c r.l.length (lf r.l) W (by omega) (fun i hi => by
      have : lf r.l i ∈ r.l := by
        unfold lf
        rw [List.getD_eq_getElem?_getD, List.getElem?_eq_getElem hi]
        exact List.getElem_mem hi
      exact hx _ this) ho k1 k2
    subst h0
    clear hT hN hJ HT hK hG hx hfl hfk hfa hpos
    generalize lf r.l = f at *
    generalize r.l.length = n at *
    go_enter Tryd.func40, Tryd.ntmps40
    go_wp2_with fail
    refine HTS.out.mono ?_
    rintro e w1 ⟨g, c, rfl, hg, ho, hb1⟩
    have HB1 := Lib.hid hb1
    have O1 := Lib.hid ho
    clear hb1 ho hg
    go_wp2_with fail
    refine (HJ.out g c _ (O1.out.later (belAlloc (Below.refl _ _) _)) (HKG.out _ (belAlloc HB1.out _)).1 (HKG.out _ (belAlloc HB1.out _)).2).mono ?_
    rintro e w2 ⟨rfl, hb2⟩
    have HB2 := Lib.hid (belNext (belAlloc HB1.out _) hb2)
    clear hb2
    go_wp2_with fail
    go_ret2
    exact ⟨by rw [HR.out.1, HR.out.2]; rfl, HB2.out⟩
set_option maxHeartbeats 1000000 in
theorem specSpacedText_no (s : ByteArray) (w : World) (hT : Calls Tryd.prog 37 #[.string s] w (TokOut w ⟨0, 0, []⟩ [.bool false])) :
    Calls Tryd.prog 40 #[.string s] w fun e w' => e = .returned (.tuple #[.string ⟨#[]⟩, .bool false]) ∧ Below w.heap.size w w' := by
  have HTn : Hid (Calls Tryd.prog 37 #[.string s] w fun e w' => ∃ A c, e = .returned (.tuple #[.slice A 0 c, .agg #[.int .i64 0, .int .i64 0], .bool false]) ∧ Below w.heap.size w w') := hT.mono fun _ _ h => h.none_ rfl
  clear hT
  go_enter Tryd.func40, Tryd.ntmps40
  go_wp2_with fail
  refine HTn.out.mono ?_
  rintro e w1 ⟨A, c, rfl, hb1⟩
  have HB1 := Lib.hid hb1
  clear hb1
  go_wp2_with fail
  go_ret2
  exact ⟨rfl, belAlloc HB1.out _⟩
theorem spacedText_law (s : ByteArray) (js : ByteArray) (jb : Bool) (w : World) (hs : s.size ≤ 1048576)
    (hS : ∀ W, Below w.heap.size w W → Calls Tryd.prog 40 #[.string s] W fun e w' => e = .returned (.tuple #[.string js, .bool jb]) ∧ Below W.heap.size W w')
    (hI : ∀ W, Below w.heap.size w W → Calls Tryd.prog 41 #[.string s] W fun e w' => e = .returned (.tuple #[.string js, .bool jb]) ∧ Below W.heap.size W w') :
    Calls Tryd.prog 11 #[.string s] w fun e w' => e = .returned (.bool true) ∧ Below w.heap.size w w' := by
  have HS := Lib.hid hS
  have HI := Lib.hid hI
  clear hS hI
  go_enter Tryd.func11, Tryd.ntmps11
  go_wp2_with fail
  refine (HS.out _ (Below.refl _ _)).mono ?_
  rintro e w1 ⟨rfl, hb1⟩
  have HB1 := Lib.hid hb1
  clear hb1
  go_wp2_with fail
  refine (HI.out _ HB1.out).mono ?_
  rintro e w2 ⟨rfl, hb2⟩
  have HB2 := Lib.hid (belNext HB1.out hb2)
  clear hb2
  go_wp2_with fail
  go_ret
  exact ⟨rfl, HB2.out⟩
theorem fnExactSpacedText_walk (s : ByteArray) (hs : s.size ≤ maxLen) (w : World) (hL : laidMetH Tryd.prog Rows.fnExactSpacedTextRow.laid w) :
    Calls Tryd.prog 11 #[.string s] w fun e w' => e = .returned (.bool true) ∧ Below w.heap.size w w' := by
  have hK := keyTab_of hL (by simp [Rows.fnExactSpacedTextRow])
  have hG := signTab_of hL (by simp [Rows.fnExactSpacedTextRow])
  clear hL
  unfold maxLen at hs
  rcases (show 1048576 < (s.size : Int) ∨ (s.size ≤ 1048576 ∧ 4000 < s.size) ∨ s.size ≤ 4000 by omega) with h | ⟨h1, h2⟩ | h1
  · clear hK hG
    go_enter Tryd.func11, Tryd.ntmps11
    go_wp2
    go_ret
    exact ⟨rfl, Below.refl _ _⟩
  · exact spacedText_law s ⟨#[]⟩ false w h1 (fun W _ => specSpacedText_no s W (specTokensOf_no s W h1 h2)) (fun W _ => implSpacedText_no s W (implTokensOf_no s W h1 h2))
  · have hl := tks_len s 0 0 (by omega)
    have hx : ∀ x ∈ (tks s 0 0).l, x.t.size ≤ 1048576 := fun x hx => Nat.le_trans (tks_text s 0 0 x hx) (by omega)
    have hfl : (tks s 0 0).fk ≠ 0 → (tks s 0 0).l.length = 0 := fun h => by rw [tks_l s 0 0 h]; rfl
    exact spacedText_law s (spS (tks s 0 0)) (spB (tks s 0 0)) w (by omega)
      (fun W hW => specSpacedText_of s _ W (by omega) hx hfl (hK.later hW) (hG.later hW) (specTokensOf_yes s W h1) specJoin_nil (fun g c n f W h1 h2 h3 h4 h5 => specJoinTokens_any g c n f W h1 h2 h3 h4 h5))
      (fun W hW => implSpacedText_of s _ W (by omega) hx hfl (hK.later hW) (hG.later hW) (implTokensOf_yes s W h1 (hK.later hW) (hG.later hW)) implJoin_nil (fun g c n f W h1 h2 h3 h4 h5 => implJoinTokens_any g c n f W h1 h2 h3 h4 h5))
end Go.Proofs.YtopolfibledmnaaDoor
