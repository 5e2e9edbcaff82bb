/-
  CanTouch, the program's and the reference's; the walk of FnExactCanTouch.
-/
import Derived.Test.YtopolfibledmnaaDoorTokSame
import Derived.Test.YtopolfibledmnaaDoorIsTokenWalk
import Derived.Deep.RegionHeld3
namespace Go.Proofs.YtopolfibledmnaaDoor
open Go.RowKit
/-- Two tokens as a row. -/
def twoT (x y : Tk) : Nat → Tk := fun i => if i = 0 then x else y
theorem samB_two (f : Nat → Tk) (x y : Tk) : samB f (twoT x y) 2 = (alkB (f 0) x && alkB (f 1) y) := by
  cases h0 : alkB (f 0) x with
  | false => rw [samB, allV_no (p := alkAt f (twoT x y)) (k := 0) h0 (by omega)]; rfl
  | true =>
    cases h1 : alkB (f 1) y with
    | false => rw [samB, allV_no (p := alkAt f (twoT x y)) (k := 1) h1 (by omega)]; rfl
    | true =>
      exact allV_of fun i hi => by
        match i, hi with
        | 0, _ => exact h0
        | 1, _ => exact h1
/-- What CanTouch returns of good tokens. -/
def ctB (x y : Tk) : Bool := if (tks (x.t ++ y.t) 0 0).fk = 0 then (if (tks (x.t ++ y.t) 0 0).l.length = 2 then samB (fun i => (tks (x.t ++ y.t) 0 0).l.getD i tk0) (twoT x y) 2 else false) else false
theorem ownTwo (w : World) (x y : Tk) (t : TypeId) : OwnT (w.alloc (.cells #[.int .i64 x.k, .int .i64 x.a, .string x.t, .int .i64 x.v, .int .i64 y.k, .int .i64 y.a, .string y.t, .int .i64 y.v] t)) w.heap.size 2 (twoT x y) :=
  ⟨by simp, fun i hi => ⟨(World.cell?_alloc_at (hn := rfl) ..).trans (by
    match i, hi with
    | 0, _ => rfl
    | 1, _ => rfl
    | 2, _ => rfl
    | 3, _ => rfl
    | 4, _ => rfl
    | 5, _ => rfl
    | 6, _ => rfl
    | 7, _ => rfl), World.frozen?_alloc_at (hn := rfl) ..⟩⟩
/-- The two boxes of a call's arguments. -/
structure Two (W : World) (g : Nat) (x y : Tk) : Prop where
  a : IsTk W g x.k x.a x.t x.v
  b : IsTk W (g + 1) y.k y.a y.t y.v
theorem two_of {w W : World} {ty : TypeId} {x y : Tk} (hb : Below ((w.alloc (.cells #[.int .i64 x.k, .int .i64 x.a, .string x.t, .int .i64 x.v] ty)).alloc (.cells #[.int .i64 y.k, .int .i64 y.a, .string y.t, .int .i64 y.v] ty)).heap.size ((w.alloc (.cells #[.int .i64 x.k, .int .i64 x.a, .string x.t, .int .i64 x.v] ty)).alloc (.cells #[.int .i64 y.k, .int .i64 y.a, .string y.t, .int .i64 y.v] ty)) W) : Two W w.heap.size x y := by
  obtain ⟨hc, _⟩ := bcell hb
  have hs := hb.size
  simp at hs
  refine ⟨⟨?_, ?_, ?_, ?_, ?_⟩, ⟨?_, ?_, ?_, ?_, ?_⟩⟩
  all_goals first
    | exact (hc _ _ (by simp <;> omega)).trans (by simp [go_sem])
    | omega
theorem Two.later {w W : World} {g : Nat} {x y : Tk} (h : Two w g x y) (hb : Below w.heap.size w W) : Two W g x y := ⟨h.a.later hb, h.b.later hb⟩
theorem tkGood_ct (x : Tk) (w : World) (hs : x.t.size ≤ 1048576) (_ : TabS w 0 keyNs) (_ : TabS w 1 signNs) :
    Calls Tryd.prog 44 #[.agg #[.int .i64 x.k, .int .i64 x.a, .string x.t, .int .i64 x.v]] w fun e w' => e = .returned (.bool (gdB x)) ∧ Below w.heap.size w w' := tkGood_any x w hs
set_option maxHeartbeats 1000000 in
theorem implCanTouch_no (x y : Tk) (w : World) (hx : x.t.size ≤ 1048576) (hy : y.t.size ≤ 1048576) (hK : TabS w 0 keyNs) (hG : TabS w 1 signNs) (hgd : gdB x = false ∨ (gdB x = true ∧ gdB y = false)) :
    Calls Tryd.prog 36 #[.agg #[.int .i64 x.k, .int .i64 x.a, .string x.t, .int .i64 x.v], .agg #[.int .i64 y.k, .int .i64 y.a, .string y.t, .int .i64 y.v]] w fun e w' => e = .returned (.tuple #[.bool false, .bool false]) ∧ Below w.heap.size w w' := by
  have HA : Hid (∀ W, Below w.heap.size w W → _) := fun W hW => isToken_any x W hx (hK.later hW) (hG.later hW)
  have HB : Hid (∀ W, Below w.heap.size w W → _) := fun W hW => isToken_any y W hy (hK.later hW) (hG.later hW)
  have HX : Hid (∀ W, Below ((w.alloc (.cells #[.int .i64 x.k, .int .i64 x.a, .string x.t, .int .i64 x.v] 27)).alloc (.cells #[.int .i64 y.k, .int .i64 y.a, .string y.t, .int .i64 y.v] 27)).heap.size ((w.alloc (.cells #[.int .i64 x.k, .int .i64 x.a, .string x.t, .int .i64 x.v] 27)).alloc (.cells #[.int .i64 y.k, .int .i64 y.a, .string y.t, .int .i64 y.v] 27)) W → Two W w.heap.size x y) := fun W hW => two_of hW
  clear hK hG
  rcases hgd with h | ⟨h, h'⟩
  · rw [h] at HA
    clear h
    go_enter Tryd.func36, Tryd.ntmps36
    go_wp2_with fail
    refine (HA.out _ (by repeat (first | (with_reducible exact Below.refl _ _) | (with_reducible refine belAlloc ?_ _) | (with_reducible refine Below.setCell ?_ (by simp) _) | (with_reducible refine Below.drew ?_)))).mono ?_
    rintro e w1 ⟨rfl, hb1⟩
    have HB1 := Lib.hid (belNext (belAlloc (belAlloc (Below.refl _ w) _) _) hb1)
    clear hb1
    go_wp2_with fail
    go_ret2
    exact ⟨rfl, HB1.out⟩
  · rw [h] at HA
    rw [h'] at HB
    clear h h'
    go_enter Tryd.func36, Tryd.ntmps36
    go_wp2_with fail
    refine (HA.out _ (by repeat (first | (with_reducible exact Below.refl _ _) | (with_reducible refine belAlloc ?_ _) | (with_reducible refine Below.setCell ?_ (by simp) _) | (with_reducible refine Below.drew ?_)))).mono ?_
    rintro e w1 ⟨rfl, hb1⟩
    have HB1 := Lib.hid (belNext (belAlloc (belAlloc (Below.refl _ w) _) _) hb1)
    obtain ⟨⟨a0, a1, a2, a3, az⟩, b0, b1, b2, b3, bz⟩ := HX.out _ hb1
    clear hb1
    go_wp2_with fail
    refine (HB.out _ HB1.out).mono ?_
    rintro e w2 ⟨rfl, hb2⟩
    have HB2 := Lib.hid (belNext HB1.out hb2)
    clear hb2
    go_wp2_with fail
    go_ret2
    exact ⟨rfl, HB2.out⟩
set_option maxHeartbeats 1000000 in
theorem specCanTouch_no (x y : Tk) (w : World) (hx : x.t.size ≤ 1048576) (hy : y.t.size ≤ 1048576) (hK : TabS w 0 keyNs) (hG : TabS w 1 signNs) (hgd : gdB x = false ∨ (gdB x = true ∧ gdB y = false)) :
    Calls Tryd.prog 35 #[.agg #[.int .i64 x.k, .int .i64 x.a, .string x.t, .int .i64 x.v], .agg #[.int .i64 y.k, .int .i64 y.a, .string y.t, .int .i64 y.v]] w fun e w' => e = .returned (.tuple #[.bool false, .bool false]) ∧ Below w.heap.size w w' := by
  have HA : Hid (∀ W, Below w.heap.size w W → _) := fun W hW => tkGood_ct x W hx (hK.later hW) (hG.later hW)
  have HB : Hid (∀ W, Below w.heap.size w W → _) := fun W hW => tkGood_ct y W hy (hK.later hW) (hG.later hW)
  have HX : Hid (∀ W, Below ((w.alloc (.cells #[.int .i64 x.k, .int .i64 x.a, .string x.t, .int .i64 x.v] 27)).alloc (.cells #[.int .i64 y.k, .int .i64 y.a, .string y.t, .int .i64 y.v] 27)).heap.size ((w.alloc (.cells #[.int .i64 x.k, .int .i64 x.a, .string x.t, .int .i64 x.v] 27)).alloc (.cells #[.int .i64 y.k, .int .i64 y.a, .string y.t, .int .i64 y.v] 27)) W → Two W w.heap.size x y) := fun W hW => two_of hW
  clear hK hG
  rcases hgd with h | ⟨h, h'⟩
  · rw [h] at HA
    clear h
    go_enter Tryd.func35, Tryd.ntmps35
    go_wp2_with fail
    refine (HA.out _ (by repeat (first | (with_reducible exact Below.refl _ _) | (with_reducible refine belAlloc ?_ _) | (with_reducible refine Below.setCell ?_ (by simp) _) | (with_reducible refine Below.drew ?_)))).mono ?_
    rintro e w1 ⟨rfl, hb1⟩
    have HB1 := Lib.hid (belNext (belAlloc (belAlloc (Below.refl _ w) _) _) hb1)
    clear hb1
    go_wp2_with fail
    go_ret2
    exact ⟨rfl, HB1.out⟩
  · rw [h] at HA
    rw [h'] at HB
    clear h h'
    go_enter Tryd.func35, Tryd.ntmps35
    go_wp2_with fail
    refine (HA.out _ (by repeat (first | (with_reducible exact Below.refl _ _) | (with_reducible refine belAlloc ?_ _) | (with_reducible refine Below.setCell ?_ (by simp) _) | (with_reducible refine Below.drew ?_)))).mono ?_
    rintro e w1 ⟨rfl, hb1⟩
    have HB1 := Lib.hid (belNext (belAlloc (belAlloc (Below.refl _ w) _) _) hb1)
    obtain ⟨⟨a0, a1, a2, a3, az⟩, b0, b1, b2, b3, bz⟩ := HX.out _ hb1
    clear hb1
    go_wp2_with fail
    refine (HB.out _ HB1.out).mono ?_
    rintro e w2 ⟨rfl, hb2⟩
    have HB2 := Lib.hid (belNext HB1.out hb2)
    clear hb2
    go_wp2_with fail
    go_ret2
    exact ⟨rfl, HB2.out⟩
set_option maxHeartbeats 2000000 in
theorem specCanTouch_yes (x y : Tk) (w : World) (hx : x.t.size ≤ 40) (hy : y.t.size ≤ 40) (hgx : gdB x = true) (hgy : gdB y = true) :
    Calls Tryd.prog 35 #[.agg #[.int .i64 x.k, .int .i64 x.a, .string x.t, .int .i64 x.v], .agg #[.int .i64 y.k, .int .i64 y.a, .string y.t, .int .i64 y.v]] w fun e w' => e = .returned (.tuple #[.bool (ctB x y), .bool true]) ∧ Below w.heap.size w w' := by
  have HA := Lib.hid (fun W => tkGood_any x W (by omega))
  have HB := Lib.hid (fun W => tkGood_any y W (by omega))
  rw [hgx] at HA
  rw [hgy] at HB
  have HX : Hid (∀ W, Below ((w.alloc (.cells #[.int .i64 x.k, .int .i64 x.a, .string x.t, .int .i64 x.v] 27)).alloc (.cells #[.int .i64 y.k, .int .i64 y.a, .string y.t, .int .i64 y.v] 27)).heap.size ((w.alloc (.cells #[.int .i64 x.k, .int .i64 x.a, .string x.t, .int .i64 x.v] 27)).alloc (.cells #[.int .i64 y.k, .int .i64 y.a, .string y.t, .int .i64 y.v] 27)) W → Two W w.heap.size x y) := fun W hW => two_of hW
  have hcat := fun W => cat_ok x.t y.t W (by omega)
  have hsz : (x.t ++ y.t).size ≤ 4000 := by rw [ByteArray.size_append]; omega
  have HT : Hid (∀ W, Calls Tryd.prog 60 #[.string (x.t ++ y.t)] W (TokOut W (tks (x.t ++ y.t) 0 0) [])) := fun W => tkAll_any (x.t ++ y.t) W hsz
  have hl := tks_len (x.t ++ y.t) 0 0 (by omega)
  have HCT : Hid (ctB x y = if (tks (x.t ++ y.t) 0 0).fk = 0 then (if (tks (x.t ++ y.t) 0 0).l.length = 2 then samB (fun i => (tks (x.t ++ y.t) 0 0).l.getD i tk0) (twoT x y) 2 else false) else false) := Lib.hid rfl
  generalize tks (x.t ++ y.t) 0 0 = r at *
  clear hgx hgy hsz
  obtain ⟨fk, fa, l⟩ := r
  dsimp only at HCT hl
  by_cases h0 : fk = 0
  · subst h0
    rw [if_pos rfl] at HCT
    have HC : Hid (∀ (A : Option Addr) (g c c' : Nat) (W : World), (0 < l.length → ∃ g, A = some ⟨g, 0, none⟩ ∧ OwnT W g l.length (fun i => l.getD i tk0)) → OwnT W g 2 (twoT x y) → Calls Tryd.prog 55 #[.slice A l.length c, .slice (some ⟨g, 0, none⟩) 2 c'] W fun e w' => e = .returned (.bool (if l.length = 2 then samB (fun i => l.getD i tk0) (twoT x y) 2 else false)) ∧ Below W.heap.size W w') := fun A g c c' W hA ho' => by
      by_cases e : l.length = 2
      · rw [if_pos e]
        obtain ⟨g1, rfl, ho⟩ := hA (by omega)
        rw [e] at ho ⊢
        exact tkSame_own g1 g c c' 2 _ _ W (by omega) ho ho'
      · rw [if_neg e]
        exact (tkSame_len A _ l.length 2 c c' W e).mono fun _ _ ⟨he, hw⟩ => ⟨he, hw ▸ Below.refl _ _⟩
    generalize (if l.length = 2 then samB (fun i => l.getD i tk0) (twoT x y) 2 else false) = res at *
    go_enter Tryd.func35, Tryd.ntmps35
    go_wp2_with fail
    refine (HA.out _).mono ?_
    rintro e w1 ⟨rfl, hb1⟩
    have HB1 := Lib.hid hb1
    obtain ⟨⟨a0, a1, a2, a3, az⟩, b0, b1, b2, b3, bz⟩ := HX.out _ hb1
    clear hb1
    go_wp2_with fail
    refine (HB.out _).mono ?_
    rintro e w2 ⟨rfl, hb2⟩
    have HB2 := Lib.hid (belNext HB1.out hb2)
    clear hb2 a0 a1 a2 a3 az b0 b1 b2 b3 bz
    obtain ⟨⟨a0, a1, a2, a3, az⟩, b0, b1, b2, b3, bz⟩ := HX.out _ HB2.out
    go_wp2_with fail
    refine (HT.out _).mono ?_
    rintro e w3 ⟨v, rfl, htr, hb3⟩
    have HB3 := Lib.hid (belNext HB2.out hb3)
    obtain ⟨A, c, rfl, hA⟩ := htr
    have HAA : Hid (0 < l.length → ∃ g, A = some ⟨g, 0, none⟩ ∧ OwnT w3 g l.length (fun i => l.getD i tk0)) := fun h0 => by
      obtain ⟨g, e1, _, e3⟩ := hA h0
      exact ⟨g, e1, e3⟩
    clear hb3 a0 a1 a2 a3 az b0 b1 b2 b3 bz hA
    obtain ⟨⟨a0, a1, a2, a3, az⟩, b0, b1, b2, b3, bz⟩ := HX.out _ HB3.out
    have HO2 := Lib.hid (ownTwo (w3.alloc (.cells #[.int .i64 0, .int .i64 fa] 31)) x y 27)
    rw [show (w3.alloc (.cells #[.int .i64 0, .int .i64 fa] 31)).heap.size = w3.heap.size + 1 by simp] at HO2
    go_wp2_with fail
    refine (HC.out A _ c _ _ (fun h0 => by obtain ⟨g, e, ho⟩ := HAA.out h0; exact ⟨g, e, (ho.later (belAlloc (Below.refl _ _) _)).later (belAlloc (Below.refl _ _) _)⟩) HO2.out).mono ?_
    rintro e w4 ⟨rfl, hb4⟩
    have HB4 := Lib.hid (belNext (belAlloc (belAlloc (belNext (belAlloc (belAlloc (Below.refl _ w) _) _) HB3.out) _) _) hb4)
    clear hb4 a0 a1 a2 a3 az b0 b1 b2 b3 bz
    go_wp2_with fail
    go_ret2
    exact ⟨by rw [HCT.out]; rfl, HB4.out⟩
  · rw [if_neg h0] at HCT
    have e0 : (fk == 0) = false := by simpa using h0
    clear h0
    go_enter Tryd.func35, Tryd.ntmps35
    go_wp2_with fail
    refine (HA.out _).mono ?_
    rintro e w1 ⟨rfl, hb1⟩
    have HB1 := Lib.hid hb1
    obtain ⟨⟨a0, a1, a2, a3, az⟩, b0, b1, b2, b3, bz⟩ := HX.out _ hb1
    clear hb1
    go_wp2_with fail
    refine (HB.out _).mono ?_
    rintro e w2 ⟨rfl, hb2⟩
    have HB2 := Lib.hid (belNext HB1.out hb2)
    clear hb2 a0 a1 a2 a3 az b0 b1 b2 b3 bz
    obtain ⟨⟨a0, a1, a2, a3, az⟩, b0, b1, b2, b3, bz⟩ := HX.out _ HB2.out
    go_wp2_with fail
    refine (HT.out _).mono ?_
    rintro e w3 ⟨v, rfl, htr, hb3⟩
    have HB3 := Lib.hid (belNext HB2.out hb3)
    obtain ⟨A, c, rfl, _⟩ := htr
    clear hb3 a0 a1 a2 a3 az b0 b1 b2 b3 bz
    go_wp2_with fail
    go_ret2
    exact ⟨by rw [HCT.out]; rfl, belAlloc (belNext (belAlloc (belAlloc (Below.refl _ w) _) _) HB3.out) _⟩
set_option maxHeartbeats 4000000 in
theorem implCanTouch_yes (x y : Tk) (w : World) (hx : x.t.size ≤ 40) (hy : y.t.size ≤ 40) (hgx : gdB x = true) (hgy : gdB y = true) (hK : TabS w 0 keyNs) (hG : TabS w 1 signNs) :
    Calls Tryd.prog 36 #[.agg #[.int .i64 x.k, .int .i64 x.a, .string x.t, .int .i64 x.v], .agg #[.int .i64 y.k, .int .i64 y.a, .string y.t, .int .i64 y.v]] w fun e w' => e = .returned (.tuple #[.bool (ctB x y), .bool true]) ∧ Below w.heap.size w w' := by
  have HA : Hid (∀ W, Below w.heap.size w W → _) := fun W hW => isToken_any x W (by omega) (hK.later hW) (hG.later hW)
  have HB : Hid (∀ W, Below w.heap.size w W → _) := fun W hW => isToken_any y W (by omega) (hK.later hW) (hG.later hW)
  rw [hgx] at HA
  rw [hgy] at HB
  have HX : Hid (∀ W, Below ((w.alloc (.cells #[.int .i64 x.k, .int .i64 x.a, .string x.t, .int .i64 x.v] 27)).alloc (.cells #[.int .i64 y.k, .int .i64 y.a, .string y.t, .int .i64 y.v] 27)).heap.size ((w.alloc (.cells #[.int .i64 x.k, .int .i64 x.a, .string x.t, .int .i64 x.v] 27)).alloc (.cells #[.int .i64 y.k, .int .i64 y.a, .string y.t, .int .i64 y.v] 27)) W → Two W w.heap.size x y) := fun W hW => two_of hW
  have hcat := fun W => cat_ok x.t y.t W (by omega)
  have hsz : (x.t ++ y.t).size ≤ 4000 := by rw [ByteArray.size_append]; omega
  have HT : Hid (∀ W, Below w.heap.size w W → Calls Tryd.prog 38 #[.string (x.t ++ y.t)] W (TokOut W (tks (x.t ++ y.t) 0 0) [.bool true])) := fun W hW => implTokensOf_yes (x.t ++ y.t) W hsz (hK.later hW) (hG.later hW)
  have hl := tks_len (x.t ++ y.t) 0 0 (by omega)
  have HCT : Hid (ctB x y = if (tks (x.t ++ y.t) 0 0).fk = 0 then (if (tks (x.t ++ y.t) 0 0).l.length = 2 then samB (fun i => (tks (x.t ++ y.t) 0 0).l.getD i tk0) (twoT x y) 2 else false) else false) := Lib.hid rfl
  generalize tks (x.t ++ y.t) 0 0 = r at *
  clear hgx hgy hsz hK hG
  obtain ⟨fk, fa, l⟩ := r
  dsimp only at HCT hl
  by_cases h0 : fk = 0
  · subst h0
    rw [if_pos rfl] at HCT
    by_cases hlen : l.length = 2
    · rw [if_pos hlen, samB_two] at HCT
      have HLEN := Lib.hid hlen
      obtain ⟨u, hu⟩ : ∃ u, l.getD 0 tk0 = u := ⟨_, rfl⟩
      obtain ⟨v, hv⟩ : ∃ v, l.getD 1 tk0 = v := ⟨_, rfl⟩
      rw [hu, hv] at HCT
      have HU := Lib.hid hu
      have HV := Lib.hid hv
      clear hu hv hlen
      obtain ⟨p, h1⟩ : ∃ p, alkB u x = p := ⟨_, rfl⟩
      rw [h1] at HCT
      obtain ⟨q, hq⟩ : ∃ q, alkB v y = q := ⟨_, rfl⟩
      rw [hq] at HCT
      have HAL0 : Hid (∀ W, Calls Tryd.prog 56 #[.agg #[.int .i64 u.k, .int .i64 u.a, .string u.t, .int .i64 u.v], .agg #[.int .i64 x.k, .int .i64 x.a, .string x.t, .int .i64 x.v]] W fun e w' => e = .returned (.bool p) ∧ Below W.heap.size W w') := fun W => by
        have := alike_any u x W
        rwa [h1] at this
      have HAL1 : Hid (∀ W, Calls Tryd.prog 56 #[.agg #[.int .i64 v.k, .int .i64 v.a, .string v.t, .int .i64 v.v], .agg #[.int .i64 y.k, .int .i64 y.a, .string y.t, .int .i64 y.v]] W fun e w' => e = .returned (.bool q) ∧ Below W.heap.size W w') := fun W => by
        have := alike_any v y W
        rwa [hq] at this
      clear h1 hq
      go_enter Tryd.func36, Tryd.ntmps36
      go_wp2_with fail
      refine (HA.out _ (by repeat (first | (with_reducible exact Below.refl _ _) | (with_reducible refine belAlloc ?_ _) | (with_reducible refine Below.setCell ?_ (by simp) _) | (with_reducible refine Below.drew ?_)))).mono ?_
      rintro e w1 ⟨rfl, hb1⟩
      have HB1 := Lib.hid hb1
      obtain ⟨⟨a0, a1, a2, a3, az⟩, b0, b1, b2, b3, bz⟩ := HX.out _ hb1
      clear hb1
      go_wp2_with fail
      refine (HB.out _ (belNext (belAlloc (belAlloc (Below.refl _ w) _) _) HB1.out)).mono ?_
      rintro e w2 ⟨rfl, hb2⟩
      have HB2 := Lib.hid (belNext HB1.out hb2)
      clear hb2 a0 a1 a2 a3 az b0 b1 b2 b3 bz
      obtain ⟨⟨a0, a1, a2, a3, az⟩, b0, b1, b2, b3, bz⟩ := HX.out _ HB2.out
      go_wp2_with fail
      refine (HT.out _ (belNext (belAlloc (belAlloc (Below.refl _ w) _) _) HB2.out)).mono ?_
      rintro e w3 ⟨v, rfl, htr, hb3⟩
      have HB3 := Lib.hid (belNext HB2.out hb3)
      obtain ⟨A, c, rfl, hA⟩ := htr
      clear hb3 a0 a1 a2 a3 az b0 b1 b2 b3 bz
      obtain ⟨⟨a0, a1, a2, a3, az⟩, b0, b1, b2, b3, bz⟩ := HX.out _ HB3.out
      obtain ⟨g, rfl, _, ho⟩ := hA (by have := HLEN.out; show 0 < l.length; omega)
      change OwnT w3 g l.length (fun i => l.getD i tk0) at ho
      have hgl := ho.1
      have HSS : Hid (∀ W, Below (w3.alloc (.cells #[.int .i64 0, .int .i64 fa] 31)).heap.size (w3.alloc (.cells #[.int .i64 0, .int .i64 fa] 31)) W → W.cell? ⟨g, 0, none⟩ = some (.int .i64 u.k) ∧ W.cell? ⟨g, 1, none⟩ = some (.int .i64 u.a) ∧ W.cell? ⟨g, 2, none⟩ = some (.string u.t) ∧ W.cell? ⟨g, 3, none⟩ = some (.int .i64 u.v) ∧ W.cell? ⟨g, 4, none⟩ = some (.int .i64 v.k) ∧ W.cell? ⟨g, 5, none⟩ = some (.int .i64 v.a) ∧ W.cell? ⟨g, 6, none⟩ = some (.string v.t) ∧ W.cell? ⟨g, 7, none⟩ = some (.int .i64 v.v) ∧ W.cell? ⟨w.heap.size, 0, none⟩ = some (.int .i64 x.k) ∧ W.cell? ⟨w.heap.size, 1, none⟩ = some (.int .i64 x.a) ∧ W.cell? ⟨w.heap.size, 2, none⟩ = some (.string x.t) ∧ W.cell? ⟨w.heap.size, 3, none⟩ = some (.int .i64 x.v) ∧ W.cell? ⟨w.heap.size + 1, 0, none⟩ = some (.int .i64 y.k) ∧ W.cell? ⟨w.heap.size + 1, 1, none⟩ = some (.int .i64 y.a) ∧ W.cell? ⟨w.heap.size + 1, 2, none⟩ = some (.string y.t) ∧ W.cell? ⟨w.heap.size + 1, 3, none⟩ = some (.int .i64 y.v) ∧ W.cell? ⟨w3.heap.size, 0, none⟩ = some (.int .i64 0)) := fun W hW => by
        have h2 := HLEN.out
        obtain ⟨x0, x1, x2, x3⟩ := ((OwnT.later ho (belAlloc (Below.refl _ _) (.cells #[.int .i64 0, .int .i64 fa] 31))).later hW).at_ (show 0 < l.length by omega)
        obtain ⟨y0, y1, y2, y3⟩ := ((OwnT.later ho (belAlloc (Below.refl _ _) (.cells #[.int .i64 0, .int .i64 fa] 31))).later hW).at_ (show 1 < l.length by omega)
        obtain ⟨⟨a0, a1, a2, a3, az⟩, b0, b1, b2, b3, bz⟩ := HX.out W (belNext (belAlloc HB3.out _) hW)
        obtain ⟨q0, q1, qz⟩ := isFl hW
        rw [HU.out] at x0 x1 x2 x3
        rw [HV.out] at y0 y1 y2 y3
        exact ⟨by simpa using x0, by simpa using x1, by simpa using x2, by simpa using x3, by simpa using y0, by simpa using y1, by simpa using y2, by simpa using y3, a0, a1, a2, a3, b0, b1, b2, b3, q0⟩
      obtain ⟨s0, s1, s2, s3, s4, s5, s6, s7, t0, t1, t2, t3, t4, t5, t6, t7, t8⟩ := HSS.out _ (Below.refl _ _)
      clear a0 a1 a2 a3 az b0 b1 b2 b3 bz hA ho
      rw [HLEN.out]
      go_wp2_with fail
      go_region_held3 (fun W => W.cell? ⟨g, 0, none⟩ = some (.int .i64 u.k) ∧ W.cell? ⟨g, 1, none⟩ = some (.int .i64 u.a) ∧ W.cell? ⟨g, 2, none⟩ = some (.string u.t) ∧ W.cell? ⟨g, 3, none⟩ = some (.int .i64 u.v) ∧ W.cell? ⟨g, 4, none⟩ = some (.int .i64 v.k) ∧ W.cell? ⟨g, 5, none⟩ = some (.int .i64 v.a) ∧ W.cell? ⟨g, 6, none⟩ = some (.string v.t) ∧ W.cell? ⟨g, 7, none⟩ = some (.int .i64 v.v) ∧ W.cell? ⟨w.heap.size, 0, none⟩ = some (.int .i64 x.k) ∧ W.cell? ⟨w.heap.size, 1, none⟩ = some (.int .i64 x.a) ∧ W.cell? ⟨w.heap.size, 2, none⟩ = some (.string x.t) ∧ W.cell? ⟨w.heap.size, 3, none⟩ = some (.int .i64 x.v) ∧ W.cell? ⟨w.heap.size + 1, 0, none⟩ = some (.int .i64 y.k) ∧ W.cell? ⟨w.heap.size + 1, 1, none⟩ = some (.int .i64 y.a) ∧ W.cell? ⟨w.heap.size + 1, 2, none⟩ = some (.string y.t) ∧ W.cell? ⟨w.heap.size + 1, 3, none⟩ = some (.int .i64 y.v) ∧ W.cell? ⟨w3.heap.size, 0, none⟩ = some (.int .i64 0)) (first | assumption | go_keep) (first | (go_at_call 56; (with_reducible refine (HAL0.out _).mono ?_); rintro e w4 ⟨rfl, hb4⟩; have hB := belNext (show Below (w3.alloc (.cells #[.int .i64 0, .int .i64 fa] 31)).heap.size (w3.alloc (.cells #[.int .i64 0, .int .i64 fa] 31)) _ by repeat (first | (with_reducible exact hB) | (with_reducible exact Below.refl _ _) | (with_reducible refine belAlloc ?_ _) | (with_reducible refine Below.drew ?_))) hb4; have hS4 := HSS.out _ hB; obtain ⟨s0, s1, s2, s3, s4, s5, s6, s7, t0, t1, t2, t3, t4, t5, t6, t7, t8⟩ := HSS.out _ hB; clear hb4; (cases p; focus (rename_i hK2; refine hK2.out _ _ hS4 (fun hHeld => ?_); (try simp only [Act.put, List.setIfInBounds_toArray, List.set_cons_zero, List.set_cons_succ]); refine wpAnyH_take (i := 17) (oi := ⟨some 44, _, _, _, _, _⟩) (v := .bool false) rfl (by kernel_rfl) (by kernel_rfl) (by kernel_rfl) (fun _ _ _ h => h) (Or.inl ⟨by rfl, fun W hSw => by (clear hSw; go_simp)⟩) (by assumption) ?_; (try simp only [Act.put, List.setIfInBounds_toArray, List.set_cons_zero, List.set_cons_succ]); refine wpAnyH_take (i := 18) (oi := ⟨some 45, _, _, _, _, _⟩) (v := .bool false) rfl (by kernel_rfl) (by kernel_rfl) (by kernel_rfl) (fun _ _ _ h => h) (Or.inl ⟨by rfl, fun W hSw => by (clear hSw; go_simp)⟩) (by assumption) ?_; (try simp only [Act.put, List.setIfInBounds_toArray, List.set_cons_zero, List.set_cons_succ]); refine wpAnyH_take (i := 19) (oi := ⟨some 46, _, _, _, _, _⟩) (v := undef) rfl (by kernel_rfl) (by kernel_rfl) (by kernel_rfl) (fun _ _ _ h => h) (Or.inr ⟨by rfl, rfl⟩) (by assumption) ?_; (try simp only [Act.put, List.setIfInBounds_toArray, List.set_cons_zero, List.set_cons_succ]); refine wpAnyH_take (i := 20) (oi := ⟨some 47, _, _, _, _, _⟩) (v := undef) rfl (by kernel_rfl) (by kernel_rfl) (by kernel_rfl) (fun _ _ _ h => h) (Or.inr ⟨by rfl, rfl⟩) (by assumption) ?_; (try simp only [Act.put, List.setIfInBounds_toArray, List.set_cons_zero, List.set_cons_succ]); refine wpAnyH_take (i := 21) (oi := ⟨some 48, _, _, _, _, _⟩) (v := undef) rfl (by kernel_rfl) (by kernel_rfl) (by kernel_rfl) (fun _ _ _ h => h) (Or.inr ⟨by rfl, rfl⟩) (by assumption) ?_; (try simp only [Act.put, List.setIfInBounds_toArray, List.set_cons_zero, List.set_cons_succ]); refine wpAnyH_take (i := 22) (oi := ⟨some 49, _, _, _, _, _⟩) (v := undef) rfl (by kernel_rfl) (by kernel_rfl) (by kernel_rfl) (fun _ _ _ h => h) (Or.inr ⟨by rfl, rfl⟩) (by assumption) ?_; (try simp only [Act.put, List.setIfInBounds_toArray, List.set_cons_zero, List.set_cons_succ]); refine wpAnyH_take (i := 23) (oi := ⟨some 50, _, _, _, _, _⟩) (v := undef) rfl (by kernel_rfl) (by kernel_rfl) (by kernel_rfl) (fun _ _ _ h => h) (Or.inr ⟨by rfl, rfl⟩) (by assumption) ?_; (try simp only [Act.put, List.setIfInBounds_toArray, List.set_cons_zero, List.set_cons_succ]); refine wpAnyH_take (i := 24) (oi := ⟨some 51, _, _, _, _, _⟩) (v := .bool false) rfl (by kernel_rfl) (by kernel_rfl) (by kernel_rfl) (fun _ _ _ h => h) (Or.inl ⟨by rfl, fun W hSw => by (clear hSw; go_simp)⟩) (by assumption) ?_; (try simp only [Act.put, List.setIfInBounds_toArray, List.set_cons_zero, List.set_cons_succ]); refine wpAnyH_take (i := 25) (oi := ⟨some 4, _, _, _, _, _⟩) (v := .bool false) rfl (by kernel_rfl) (by kernel_rfl) (by kernel_rfl) (fun _ _ _ h => h) (Or.inl ⟨by rfl, fun W hSw => by (clear hSw; go_simp)⟩) (by assumption) ?_; (try simp only [Act.put, List.setIfInBounds_toArray, List.set_cons_zero, List.set_cons_succ]); refine wpAnyH_take (i := 26) (oi := ⟨some 5, _, _, _, _, _⟩) (v := .bool true) rfl (by kernel_rfl) (by kernel_rfl) (by kernel_rfl) (fun _ _ _ h => h) (Or.inl ⟨by rfl, fun W hSw => by (clear hSw; go_simp)⟩) (by assumption) ?_; (try simp only [Act.put, List.setIfInBounds_toArray, List.set_cons_zero, List.set_cons_succ]); refine wpAnyH_done (by kernel_rfl) ?_ _; refine NoPanic.normal ?_; go_wp2_with fail; go_ret2; exact ⟨by rw [HCT.out]; rfl, by repeat (first | (with_reducible exact belNext (belAlloc (belNext (belAlloc (belAlloc (Below.refl _ w) _) _) HB3.out) _) hB) | (with_reducible refine belAlloc ?_ _) | (with_reducible refine Below.drew ?_))⟩))) | (go_at_call 56; (with_reducible refine (HAL1.out _).mono ?_); rintro e w4 ⟨rfl, hb4⟩; have hB := belNext (show Below (w3.alloc (.cells #[.int .i64 0, .int .i64 fa] 31)).heap.size (w3.alloc (.cells #[.int .i64 0, .int .i64 fa] 31)) _ by repeat (first | (with_reducible exact hB) | (with_reducible exact Below.refl _ _) | (with_reducible refine belAlloc ?_ _) | (with_reducible refine Below.drew ?_))) hb4; have hS4 := HSS.out _ hB; obtain ⟨s0, s1, s2, s3, s4, s5, s6, s7, t0, t1, t2, t3, t4, t5, t6, t7, t8⟩ := HSS.out _ hB; clear hb4))
      all_goals
        have HB4 := Lib.hid hB
        go_wp2_with fail
        go_ret2
        exact ⟨by rw [HCT.out]; rfl, by repeat (first | (with_reducible exact belNext (belAlloc (belNext (belAlloc (belAlloc (Below.refl _ w) _) _) HB3.out) _) HB4.out) | (with_reducible refine belAlloc ?_ _) | (with_reducible refine Below.drew ?_))⟩
    · rw [if_neg hlen] at HCT
      have e2 : ((l.length : Int) == 2) = false := by simp; omega
      have e3 : (l.length == 2) = false := by simp; omega
      go_enter Tryd.func36, Tryd.ntmps36
      go_wp2_with fail
      refine (HA.out _ (by repeat (first | (with_reducible exact Below.refl _ _) | (with_reducible refine belAlloc ?_ _) | (with_reducible refine Below.setCell ?_ (by simp) _) | (with_reducible refine Below.drew ?_)))).mono ?_
      rintro e w1 ⟨rfl, hb1⟩
      have HB1 := Lib.hid hb1
      obtain ⟨⟨a0, a1, a2, a3, az⟩, b0, b1, b2, b3, bz⟩ := HX.out _ hb1
      clear hb1
      go_wp2_with fail
      refine (HB.out _ (belNext (belAlloc (belAlloc (Below.refl _ w) _) _) HB1.out)).mono ?_
      rintro e w2 ⟨rfl, hb2⟩
      have HB2 := Lib.hid (belNext HB1.out hb2)
      clear hb2 a0 a1 a2 a3 az b0 b1 b2 b3 bz
      obtain ⟨⟨a0, a1, a2, a3, az⟩, b0, b1, b2, b3, bz⟩ := HX.out _ HB2.out
      go_wp2_with fail
      refine (HT.out _ (belNext (belAlloc (belAlloc (Below.refl _ w) _) _) HB2.out)).mono ?_
      rintro e w3 ⟨v, rfl, htr, hb3⟩
      have HB3 := Lib.hid (belNext HB2.out hb3)
      obtain ⟨A, c, rfl, hA⟩ := htr
      clear hb3 a0 a1 a2 a3 az b0 b1 b2 b3 bz
      obtain ⟨⟨a0, a1, a2, a3, az⟩, b0, b1, b2, b3, bz⟩ := HX.out _ HB3.out
      go_wp2_with fail
      go_quiet (fail)
      go_wp2_with fail
      go_ret2
      exact ⟨by rw [HCT.out]; rfl, belDrewN (belAlloc (belNext (belAlloc (belAlloc (Below.refl _ w) _) _) HB3.out) _) _⟩
  · rw [if_neg h0] at HCT
    have e0 : (fk == 0) = false := by simpa using h0
    clear h0
    go_enter Tryd.func36, Tryd.ntmps36
    go_wp2_with fail
    refine (HA.out _ (by repeat (first | (with_reducible exact Below.refl _ _) | (with_reducible refine belAlloc ?_ _) | (with_reducible refine Below.setCell ?_ (by simp) _) | (with_reducible refine Below.drew ?_)))).mono ?_
    rintro e w1 ⟨rfl, hb1⟩
    have HB1 := Lib.hid hb1
    obtain ⟨⟨a0, a1, a2, a3, az⟩, b0, b1, b2, b3, bz⟩ := HX.out _ hb1
    clear hb1
    go_wp2_with fail
    refine (HB.out _ (belNext (belAlloc (belAlloc (Below.refl _ w) _) _) HB1.out)).mono ?_
    rintro e w2 ⟨rfl, hb2⟩
    have HB2 := Lib.hid (belNext HB1.out hb2)
    clear hb2 a0 a1 a2 a3 az b0 b1 b2 b3 bz
    obtain ⟨⟨a0, a1, a2, a3, az⟩, b0, b1, b2, b3, bz⟩ := HX.out _ HB2.out
    go_wp2_with fail
    refine (HT.out _ (belNext (belAlloc (belAlloc (Below.refl _ w) _) _) HB2.out)).mono ?_
    rintro e w3 ⟨v, rfl, htr, hb3⟩
    have HB3 := Lib.hid (belNext HB2.out hb3)
    obtain ⟨A, c, rfl, hA⟩ := htr
    clear hb3 a0 a1 a2 a3 az b0 b1 b2 b3 bz
    obtain ⟨⟨a0, a1, a2, a3, az⟩, b0, b1, b2, b3, bz⟩ := HX.out _ HB3.out
    go_wp2_with fail
    go_quiet (fail)
    go_wp2_with fail
    go_ret2
    exact ⟨by rw [HCT.out]; rfl, belDrewN (belAlloc (belNext (belAlloc (belAlloc (Below.refl _ w) _) _) HB3.out) _) _⟩
set_option maxHeartbeats 4000000 in
theorem canTouch_law (x y : Tk) (p q : Bool) (w : World) (hx : (x.t.size : Int) ≤ 1048576) (hy : (y.t.size : Int) ≤ 1048576 - (x.t.size : Int))
    (hS : ∀ W, Below w.heap.size w W → Calls Tryd.prog 35 #[.agg #[.int .i64 x.k, .int .i64 x.a, .string x.t, .int .i64 x.v], .agg #[.int .i64 y.k, .int .i64 y.a, .string y.t, .int .i64 y.v]] W fun e w' => e = .returned (.tuple #[.bool p, .bool q]) ∧ Below W.heap.size W w')
    (hI : ∀ W, Below w.heap.size w W → Calls Tryd.prog 36 #[.agg #[.int .i64 x.k, .int .i64 x.a, .string x.t, .int .i64 x.v], .agg #[.int .i64 y.k, .int .i64 y.a, .string y.t, .int .i64 y.v]] W fun e w' => e = .returned (.tuple #[.bool p, .bool q]) ∧ Below W.heap.size W w') :
    Calls Tryd.prog 9 #[.agg #[.int .i64 x.k, .int .i64 x.a, .string x.t, .int .i64 x.v], .agg #[.int .i64 y.k, .int .i64 y.a, .string y.t, .int .i64 y.v]] w fun e w' => e = .returned (.bool true) ∧ Below w.heap.size w w' := by
  have HS := Lib.hid hS
  have HI := Lib.hid hI
  have HZA := Lib.hid (fun W => szToken_small x.k x.a x.t x.v 1048576 W (by omega) (by omega) hx)
  have HZB := Lib.hid (fun W => szToken_small y.k y.a y.t y.v (1048576 - (x.t.size : Int)) W (by omega) (by omega) hy)
  have HTA : Hid (∀ W, Below w.heap.size w W → _) := fun W _ => toToken_any x.k x.a x.t x.v W
  have HTB : Hid (∀ W, Below w.heap.size w W → _) := fun W _ => toToken_any y.k y.a y.t y.v W
  have HX : Hid (∀ W, Below ((w.alloc (.cells #[.int .i64 x.k, .int .i64 x.a, .string x.t, .int .i64 x.v] 24)).alloc (.cells #[.int .i64 y.k, .int .i64 y.a, .string y.t, .int .i64 y.v] 24)).heap.size ((w.alloc (.cells #[.int .i64 x.k, .int .i64 x.a, .string x.t, .int .i64 x.v] 24)).alloc (.cells #[.int .i64 y.k, .int .i64 y.a, .string y.t, .int .i64 y.v] 24)) W → Two W w.heap.size x y) := fun W hW => two_of hW
  have hn1 : 0 ≤ 1048576 - (x.t.size : Int) := by omega
  have hn2 : 0 ≤ 1048576 - (x.t.size : Int) - (y.t.size : Int) := by omega
  clear hS hI
  go_enter Tryd.func9, Tryd.ntmps9
  go_wp2_with fail
  refine (HZA.out _).mono ?_
  rintro e w1 ⟨rfl, hb1⟩
  have HB1 := Lib.hid hb1
  obtain ⟨⟨a0, a1, a2, a3, az⟩, b0, b1, b2, b3, bz⟩ := HX.out _ hb1
  clear hb1
  go_wp2_with fail
  refine (HZB.out _).mono ?_
  rintro e w2 ⟨rfl, hb2⟩
  have HB2 := Lib.hid (belNext HB1.out hb2)
  clear hb2 a0 a1 a2 a3 az b0 b1 b2 b3 bz
  obtain ⟨⟨a0, a1, a2, a3, az⟩, b0, b1, b2, b3, bz⟩ := HX.out _ HB2.out
  go_wp2_with fail
  first | (go_region_held3 (fun W => W.cell? ⟨w.heap.size, 0, none⟩ = some (.int .i64 x.k) ∧ W.cell? ⟨w.heap.size, 1, none⟩ = some (.int .i64 x.a) ∧ W.cell? ⟨w.heap.size, 2, none⟩ = some (.string x.t) ∧ W.cell? ⟨w.heap.size, 3, none⟩ = some (.int .i64 x.v) ∧ W.cell? ⟨w.heap.size + 1, 0, none⟩ = some (.int .i64 y.k) ∧ W.cell? ⟨w.heap.size + 1, 1, none⟩ = some (.int .i64 y.a) ∧ W.cell? ⟨w.heap.size + 1, 2, none⟩ = some (.string y.t) ∧ W.cell? ⟨w.heap.size + 1, 3, none⟩ = some (.int .i64 y.v)) (first | assumption | go_keep) (first | (go_at_call 16; (with_reducible refine (HTA.out _ (by repeat (first | (with_reducible exact belNext (belAlloc (belAlloc (Below.refl _ w) _) _) (belNext HB2.out hB)) | (with_reducible exact belNext (belAlloc (belAlloc (Below.refl _ w) _) _) HB2.out) | (with_reducible refine belAlloc ?_ _) | (with_reducible refine Below.drew ?_)))).mono ?_); rintro e w7 ⟨rfl, hb⟩; have hB := belNext (show Below w2.heap.size w2 _ by repeat (first | (with_reducible exact hB) | (with_reducible exact Below.refl _ _) | (with_reducible refine belAlloc ?_ _) | (with_reducible refine Below.drew ?_))) hb; obtain ⟨⟨a0, a1, a2, a3, az⟩, b0, b1, b2, b3, bz⟩ := HX.out _ (belNext HB2.out hB); clear hb) | (go_at_call 16; (with_reducible refine (HTB.out _ (by repeat (first | (with_reducible exact belNext (belAlloc (belAlloc (Below.refl _ w) _) _) (belNext HB2.out hB)) | (with_reducible exact belNext (belAlloc (belAlloc (Below.refl _ w) _) _) HB2.out) | (with_reducible refine belAlloc ?_ _) | (with_reducible refine Below.drew ?_)))).mono ?_); rintro e w7 ⟨rfl, hb⟩; have hB := belNext (show Below w2.heap.size w2 _ by repeat (first | (with_reducible exact hB) | (with_reducible exact Below.refl _ _) | (with_reducible refine belAlloc ?_ _) | (with_reducible refine Below.drew ?_))) hb; obtain ⟨⟨a0, a1, a2, a3, az⟩, b0, b1, b2, b3, bz⟩ := HX.out _ (belNext HB2.out hB); clear hb) | (go_at_call 35; (with_reducible refine (HS.out _ (by repeat (first | (with_reducible exact belNext (belAlloc (belAlloc (Below.refl _ w) _) _) (belNext HB2.out hB)) | (with_reducible exact belNext (belAlloc (belAlloc (Below.refl _ w) _) _) HB2.out) | (with_reducible refine belAlloc ?_ _) | (with_reducible refine Below.drew ?_)))).mono ?_); rintro e w7 ⟨rfl, hb⟩; have hB := belNext (show Below w2.heap.size w2 _ by repeat (first | (with_reducible exact hB) | (with_reducible exact Below.refl _ _) | (with_reducible refine belAlloc ?_ _) | (with_reducible refine Below.drew ?_))) hb; obtain ⟨⟨a0, a1, a2, a3, az⟩, b0, b1, b2, b3, bz⟩ := HX.out _ (belNext HB2.out hB); clear hb))) | fail
  all_goals
    have HB3 := Lib.hid (belNext HB2.out hB)
    clear hB a0 a1 a2 a3 az b0 b1 b2 b3 bz
    obtain ⟨⟨a0, a1, a2, a3, az⟩, b0, b1, b2, b3, bz⟩ := HX.out _ HB3.out
    go_wp2_with fail
    first | (go_region_held3 (fun W => W.cell? ⟨w.heap.size, 0, none⟩ = some (.int .i64 x.k) ∧ W.cell? ⟨w.heap.size, 1, none⟩ = some (.int .i64 x.a) ∧ W.cell? ⟨w.heap.size, 2, none⟩ = some (.string x.t) ∧ W.cell? ⟨w.heap.size, 3, none⟩ = some (.int .i64 x.v) ∧ W.cell? ⟨w.heap.size + 1, 0, none⟩ = some (.int .i64 y.k) ∧ W.cell? ⟨w.heap.size + 1, 1, none⟩ = some (.int .i64 y.a) ∧ W.cell? ⟨w.heap.size + 1, 2, none⟩ = some (.string y.t) ∧ W.cell? ⟨w.heap.size + 1, 3, none⟩ = some (.int .i64 y.v)) (first | assumption | go_keep) (first | (go_at_call 16; (with_reducible refine (HTA.out _ (by repeat (first | (with_reducible exact belNext (belAlloc (belAlloc (Below.refl _ w) _) _) (belNext HB3.out hD)) | (with_reducible exact belNext (belAlloc (belAlloc (Below.refl _ w) _) _) HB3.out) | (with_reducible refine belAlloc ?_ _) | (with_reducible refine Below.drew ?_)))).mono ?_); rintro e w9 ⟨rfl, hb⟩; have hD := belNext (show Below w7.heap.size w7 _ by repeat (first | (with_reducible exact hD) | (with_reducible exact Below.refl _ _) | (with_reducible refine belAlloc ?_ _) | (with_reducible refine Below.drew ?_))) hb; obtain ⟨⟨a0, a1, a2, a3, az⟩, b0, b1, b2, b3, bz⟩ := HX.out _ (belNext HB3.out hD); clear hb) | (go_at_call 16; (with_reducible refine (HTB.out _ (by repeat (first | (with_reducible exact belNext (belAlloc (belAlloc (Below.refl _ w) _) _) (belNext HB3.out hD)) | (with_reducible exact belNext (belAlloc (belAlloc (Below.refl _ w) _) _) HB3.out) | (with_reducible refine belAlloc ?_ _) | (with_reducible refine Below.drew ?_)))).mono ?_); rintro e w9 ⟨rfl, hb⟩; have hD := belNext (show Below w7.heap.size w7 _ by repeat (first | (with_reducible exact hD) | (with_reducible exact Below.refl _ _) | (with_reducible refine belAlloc ?_ _) | (with_reducible refine Below.drew ?_))) hb; obtain ⟨⟨a0, a1, a2, a3, az⟩, b0, b1, b2, b3, bz⟩ := HX.out _ (belNext HB3.out hD); clear hb) | (go_at_call 36; (with_reducible refine (HI.out _ (by repeat (first | (with_reducible exact belNext (belAlloc (belAlloc (Below.refl _ w) _) _) (belNext HB3.out hD)) | (with_reducible exact belNext (belAlloc (belAlloc (Below.refl _ w) _) _) HB3.out) | (with_reducible refine belAlloc ?_ _) | (with_reducible refine Below.drew ?_)))).mono ?_); rintro e w9 ⟨rfl, hb⟩; have hD := belNext (show Below w7.heap.size w7 _ by repeat (first | (with_reducible exact hD) | (with_reducible exact Below.refl _ _) | (with_reducible refine belAlloc ?_ _) | (with_reducible refine Below.drew ?_))) hb; obtain ⟨⟨a0, a1, a2, a3, az⟩, b0, b1, b2, b3, bz⟩ := HX.out _ (belNext HB3.out hD); clear hb))) | fail
    all_goals
      have HB4 := Lib.hid (belNext (belAlloc (belAlloc (Below.refl _ w) _) _) (belNext HB3.out hD))
      clear hD a0 a1 a2 a3 az b0 b1 b2 b3 bz
      go_wp2_with fail
      go_ret
      exact ⟨rfl, HB4.out⟩
theorem fnExactCanTouch_walk (k : Int) (_ : -9223372036854775808 ≤ k) (_ : k ≤ 9223372036854775807) (a : Int) (_ : -9223372036854775808 ≤ a) (_ : a ≤ 9223372036854775807) (t : ByteArray) (ht : t.size ≤ maxLen) (v : Int) (_ : -9223372036854775808 ≤ v) (_ : v ≤ 9223372036854775807)
    (k' : Int) (_ : -9223372036854775808 ≤ k') (_ : k' ≤ 9223372036854775807) (a' : Int) (_ : -9223372036854775808 ≤ a') (_ : a' ≤ 9223372036854775807) (t' : ByteArray) (ht' : t'.size ≤ maxLen) (v' : Int) (_ : -9223372036854775808 ≤ v') (_ : v' ≤ 9223372036854775807) (w : World) (hL : laidMetH Tryd.prog Rows.fnExactCanTouchRow.laid w) :
    Calls Tryd.prog 9 #[.agg #[.int .i64 k, .int .i64 a, .string t, .int .i64 v], .agg #[.int .i64 k', .int .i64 a', .string t', .int .i64 v']] w fun e w' => e = .returned (.bool true) ∧ Below w.heap.size w w' := by
  unfold maxLen at ht ht'
  have hK := keyTab_of hL (by simp [Rows.fnExactCanTouchRow])
  have hG := signTab_of hL (by simp [Rows.fnExactCanTouchRow])
  clear hL
  have HX : Hid (∀ W : World, Below ((w.alloc (.cells #[.int .i64 k, .int .i64 a, .string t, .int .i64 v] 24)).alloc (.cells #[.int .i64 k', .int .i64 a', .string t', .int .i64 v'] 24)).heap.size ((w.alloc (.cells #[.int .i64 k, .int .i64 a, .string t, .int .i64 v] 24)).alloc (.cells #[.int .i64 k', .int .i64 a', .string t', .int .i64 v'] 24)) W → Two W w.heap.size ⟨k, a, t, v⟩ ⟨k', a', t', v'⟩) := fun W hW => two_of (x := ⟨k, a, t, v⟩) (y := ⟨k', a', t', v'⟩) hW
  by_cases hb1 : 1048576 < (t.size : Int)
  · clear hK hG
    have HZ := Lib.hid (fun W => szToken_big k a t v 1048576 W (by omega) (by omega) (by omega) hb1)
    go_enter Tryd.func9, Tryd.ntmps9
    go_wp2_with fail
    refine (HZ.out _).mono ?_
    rintro e w1 ⟨rfl, hb⟩
    have HB := Lib.hid hb
    clear hb
    go_wp2_with fail
    go_ret
    exact ⟨rfl, belNext (belAlloc (belAlloc (Below.refl _ _) _) _) HB.out⟩
  have hn1 : 0 ≤ 1048576 - (t.size : Int) := by omega
  by_cases hb2 : 1048576 - (t.size : Int) < (t'.size : Int)
  · clear hK hG
    have HZA := Lib.hid (fun W => szToken_small k a t v 1048576 W (by omega) (by omega) (by omega))
    have HZ := Lib.hid (fun W => szToken_big k' a' t' v' (1048576 - (t.size : Int)) W (by omega) (by omega) (by omega) hb2)
    go_enter Tryd.func9, Tryd.ntmps9
    go_wp2_with fail
    refine (HZA.out _).mono ?_
    rintro e w1 ⟨rfl, hb⟩
    have HB := Lib.hid hb
    obtain ⟨⟨a0, a1, a2, a3, az⟩, b0, b1, b2, b3, bz⟩ := HX.out _ hb
    dsimp only at a0 a1 a2 a3 b0 b1 b2 b3
    clear hb
    go_wp2_with fail
    refine (HZ.out _).mono ?_
    rintro e w2 ⟨rfl, hb⟩
    have HB2 := Lib.hid (belNext HB.out hb)
    clear hb
    go_wp2_with fail
    go_ret
    exact ⟨rfl, belNext (belAlloc (belAlloc (Below.refl _ _) _) _) HB2.out⟩
  clear HX
  have hx : (t.size : Int) ≤ 1048576 := by omega
  have hy : (t'.size : Int) ≤ 1048576 - (t.size : Int) := by omega
  by_cases hgd : gdB ⟨k, a, t, v⟩ = false ∨ (gdB ⟨k, a, t, v⟩ = true ∧ gdB ⟨k', a', t', v'⟩ = false)
  · exact canTouch_law ⟨k, a, t, v⟩ ⟨k', a', t', v'⟩ false false w hx hy
      (fun W hW => specCanTouch_no ⟨k, a, t, v⟩ ⟨k', a', t', v'⟩ W (by dsimp only; omega) (by dsimp only; omega) (hK.later hW) (hG.later hW) hgd)
      (fun W hW => implCanTouch_no ⟨k, a, t, v⟩ ⟨k', a', t', v'⟩ W (by dsimp only; omega) (by dsimp only; omega) (hK.later hW) (hG.later hW) hgd)
  · obtain ⟨h1, h2⟩ : gdB ⟨k, a, t, v⟩ = true ∧ gdB ⟨k', a', t', v'⟩ = true := by
      cases e1 : gdB ⟨k, a, t, v⟩ <;> cases e2 : gdB ⟨k', a', t', v'⟩ <;> simp_all
    exact canTouch_law ⟨k, a, t, v⟩ ⟨k', a', t', v'⟩ (ctB ⟨k, a, t, v⟩ ⟨k', a', t', v'⟩) true w hx hy
      (fun W _ => specCanTouch_yes ⟨k, a, t, v⟩ ⟨k', a', t', v'⟩ W (gd_short h1) (gd_short h2) h1 h2)
      (fun W hW => implCanTouch_yes ⟨k, a, t, v⟩ ⟨k', a', t', v'⟩ W (gd_short h1) (gd_short h2) h1 h2 (hK.later hW) (hG.later hW))
end Go.Proofs.YtopolfibledmnaaDoor
