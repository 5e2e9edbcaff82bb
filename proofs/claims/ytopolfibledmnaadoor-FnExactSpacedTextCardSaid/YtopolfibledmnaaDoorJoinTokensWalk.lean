/-
  The walk of FnExactJoinTokens; JoinTokens of whatever list.
-/
import Derived.Test.YtopolfibledmnaaDoorJoin
namespace Go.Proofs.YtopolfibledmnaaDoor
open Go.RowKit
def jS (f : Nat → Tk) (n : Nat) : ByteArray := if goodB f n then joS f n else ⟨#[]⟩
def jB (f : Nat → Tk) (n : Nat) : Bool := goodB f n && joB f n
theorem implJoinTokens_any (g c n : Nat) (f : Nat → Tk) (w : World) (hn : n ≤ 1048576) (hts : ∀ i, i < n → (f i).t.size ≤ 1048576) (h : OwnT w g n f) (hK : TabS w 0 keyNs) (hG : TabS w 1 signNs) :
    Calls Tryd.prog 34 #[.slice (some ⟨g, 0, none⟩) n c] w fun e w' => e = .returned (.tuple #[.string (jS f n), .bool (jB f n)]) ∧ Below w.heap.size w w' := by
  unfold jS jB
  cases hgd : goodB f n with
  | true => exact implJoin_yes g c n f w hn hts h hK hG hgd
  | false => exact implJoinTokens_no g c n f w hn hts h hK hG hgd
theorem specJoinTokens_any (g c n : Nat) (f : Nat → Tk) (w : World) (hn : n ≤ 1048576) (hts : ∀ i, i < n → (f i).t.size ≤ 1048576) (h : OwnT w g n f) (hK : TabS w 0 keyNs) (hG : TabS w 1 signNs) :
    Calls Tryd.prog 33 #[.slice (some ⟨g, 0, none⟩) n c] w fun e w' => e = .returned (.tuple #[.string (jS f n), .bool (jB f n)]) ∧ Below w.heap.size w w' := by
  unfold jS jB
  cases hgd : goodB f n with
  | true => exact specJoin_yes g c n f w hn hts h hK hG hgd
  | false => exact specJoinTokens_no g c n f w hn hts h hK hG hgd
theorem implJoin_nil (A : Option Addr) (c : Nat) (w : World) :
    Calls Tryd.prog 34 #[.slice A 0 c] w fun e w' => e = .returned (.tuple #[.string ⟨#[]⟩, .bool true]) ∧ Below w.heap.size w w' := by
  have hmk : ∀ W, (Instr.makeSlice 60 (.int .i64 0) (.int .i64 0)).run Tryd.prog W = .ok (.slice (some ⟨W.heap.size, 0, none⟩) 0 0) (W.alloc (.cells (madeCells #[.string ⟨#[]⟩] 0) 9)) := fun W => by
    have := run_make_cap (P := Tryd.prog) 60 9 (.string ⟨#[]⟩) 16 Tryd.underlying60 info_strJ rfl 0 (by omega) (by omega) (by omega) W
    simpa using this
  have HJ := Lib.hid (Tryd.strings_Join w.heap.size 0 0 [] ⟨#[32]⟩ (w.alloc (.cells (madeCells #[.string ⟨#[]⟩] 0) 9)) (fun j x hj => by simp at hj) (by simp) (by simp) (by simp) (by decide))
  go_enter Tryd.func34, Tryd.ntmps34
  go_wp2_with fail
  refine (implareTokens_nil A c _).mono ?_
  rintro e w1 ⟨rfl, rfl⟩
  go_wp2_with fail
  refine wp_loop_rounds 1 ?_; rw [rounds_succ]
  go_wp2_with fail
  refine HJ.out.mono ?_
  rintro e w5 ⟨rfl, hb5⟩
  have HB5 := Lib.hid (belNext (belAlloc (Below.refl _ w) _) hb5)
  clear hb5
  go_wp2_with fail
  go_ret2
  exact ⟨rfl, HB5.out⟩
theorem tkJoin_nil (A : Option Addr) (c : Nat) (w : World) : Calls Tryd.prog 58 #[.slice A 0 c] w fun e w' => e = .returned (.string ⟨#[]⟩) ∧ w = w' := by
  go_enter Tryd.func58, Tryd.ntmps58
  go_wp2_with fail
  refine wp_loop_rounds 1 ?_; rw [rounds_succ]
  go_wp2_with fail
  go_ret
  exact ⟨rfl, rfl⟩
theorem specJoin_nil (A : Option Addr) (c : Nat) (w : World) :
    Calls Tryd.prog 33 #[.slice A 0 c] w fun e w' => e = .returned (.tuple #[.string ⟨#[]⟩, .bool true]) ∧ Below w.heap.size w w' := by
  go_enter Tryd.func33, Tryd.ntmps33
  go_wp2_with (first | (go_at_call 52; refine (spectkList_nil A c _).mono ?_; rintro e w1 ⟨rfl, rfl⟩) | (go_at_call 58; refine (tkJoin_nil A c _).mono ?_; rintro e w1 ⟨rfl, rfl⟩) | (go_at_call 57; go_in))
  go_ret2
  exact ⟨rfl, Below.refl _ _⟩
set_option maxHeartbeats 2000000 in
theorem fnExactJoinTokens_walk (w : World) (A : Option Addr) (n c : Nat) (f : Nat → Tk) (hn : n ≤ maxLen) (hok : ∀ i, (f i).Ok) (hr : Seg w w.heap.size 4 A n fun i j => (f i).cell j) (hL : laidMetH Tryd.prog Rows.fnExactJoinTokensRow.laid w) :
    Calls Tryd.prog 8 #[.slice A n c] w fun e w' => e = .returned (.bool true) ∧ Below w.heap.size w w' := by
  have hK := keyTab_of hL (by simp [Rows.fnExactJoinTokensRow])
  have hG := signTab_of hL (by simp [Rows.fnExactJoinTokensRow])
  clear hL
  have HZ := Lib.hid (szTokenS_any A n c f w hn hok hr)
  have HTS : Hid (∀ W, n ≤ 1048576 → Below w.heap.size w W → _) := fun W h1 hW => toTokenS_any A n c f W h1 ((hr.below hW).more hW.size)
  have HS : Hid (∀ g W, n ≤ 1048576 → (∀ i, i < n → (f i).t.size ≤ 1048576) → Below w.heap.size w W → OwnT W g n f → _) := fun g W h1 h2 hW ho => specJoinTokens_any g n n f W h1 h2 ho (hK.later hW) (hG.later hW)
  have HI : Hid (∀ g W, n ≤ 1048576 → (∀ i, i < n → (f i).t.size ≤ 1048576) → Below w.heap.size w W → OwnT W g n f → _) := fun g W h1 h2 hW ho => implJoinTokens_any g n n f W h1 h2 ho (hK.later hW) (hG.later hW)
  clear hK hG hr hok
  generalize jS f n = js at *
  generalize jB f n = jb at *
  unfold maxLen at hn
  go_enter Tryd.func8, Tryd.ntmps8
  go_wp2_with fail
  refine HZ.out.mono ?_
  rintro e w0 ⟨x, rfl, hx, hb0⟩
  have HB0 := Lib.hid hb0
  clear hb0
  rcases hx with rfl | ⟨hx0, h1, h2⟩
  · go_wp2_with fail
    go_ret
    exact ⟨rfl, HB0.out⟩
  have H2 := Lib.hid h2
  have hx0' : ¬ x < 0 := by omega
  clear h2
  go_wp2_with fail
  refine (HTS.out _ h1 HB0.out).mono ?_
  rintro e w1 ⟨rfl, ho1, hb1⟩
  have HB1 := Lib.hid (belNext HB0.out hb1)
  have O1 := Lib.hid ho1
  clear ho1 hb1
  go_wp2_with fail
  refine (HS.out _ _ h1 H2.out HB1.out O1.out).mono ?_
  rintro e w2 ⟨rfl, hb2⟩
  have HB2 := Lib.hid (belNext HB1.out hb2)
  clear hb2
  go_wp2_with fail
  refine (HTS.out _ h1 HB2.out).mono ?_
  rintro e w3 ⟨rfl, ho3, hb3⟩
  have HB3 := Lib.hid (belNext HB2.out hb3)
  have OX3 := Lib.hid ho3
  clear ho3 hb3
  go_wp2_with fail
  refine (HI.out _ _ h1 H2.out HB3.out OX3.out).mono ?_
  rintro e w4 ⟨rfl, hb4⟩
  have HB4 := Lib.hid (belNext HB3.out hb4)
  have OX4 := Lib.hid (OX3.out.later hb4)
  clear hb4
  go_wp2_with fail
  refine (HTS.out _ h1 HB4.out).mono ?_
  rintro e w6 ⟨rfl, ho6, hb6⟩
  have HB6 := Lib.hid (belNext HB4.out hb6)
  have OX6 := Lib.hid (OX4.out.later hb6)
  have OY6 := Lib.hid ho6
  clear hb6 ho6
  go_wp2_with fail
  refine (eqTokenS_own _ _ n n n f _ h1 OX6.out OY6.out).mono ?_
  rintro e w7 ⟨rfl, hb7⟩
  have HB7 := Lib.hid (belNext HB6.out hb7)
  clear hb7
  go_wp2_with fail
  go_ret
  exact ⟨rfl, HB7.out⟩
end Go.Proofs.YtopolfibledmnaaDoor
