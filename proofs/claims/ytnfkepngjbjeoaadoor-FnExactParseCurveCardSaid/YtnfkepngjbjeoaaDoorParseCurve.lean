/-
  ParseCurve of the program: the three pieces, their numbers, the curve and its text.
-/
import Derived.Test.YtnfkepngjbjeoaaDoorCurveTxt
import Derived.Test.YtnfkepngjbjeoaaDoorL1Split
import Derived.Test.YtnfkepngjbjeoaaDoorReadNumberWalk
namespace Go.Proofs.YtnfkepngjbjeoaaDoor
open Go.RowKit
/-- What a text of three pieces stands for. -/
def pcY (s : ByteArray) (x y z : Int) : Bool := crvB x y z && ((ctxt x.toNat y.toNat z.toNat).toList == s.toList)
def zeroC : Value := .tuple #[.agg #[.int .i64 0, .int .i64 0, .int .i64 0], .bool false]
def pcV (s : ByteArray) (x y z : Int) : Value := if pcY s x y z then .tuple #[.agg #[.int .i64 x, .int .i64 y, .int .i64 z], .bool true] else zeroC
theorem pcV_no {s : ByteArray} {x y z : Int} (h : pcY s x y z = false) : pcV s x y z = .tuple #[.agg #[.int .i64 0, .int .i64 0, .int .i64 0], .bool false] := by rw [pcV, h]; rfl
theorem pcV_yes {s : ByteArray} {x y z : Int} (h : pcY s x y z = true) : pcV s x y z = .tuple #[.agg #[.int .i64 x, .int .i64 y, .int .i64 z], .bool true] := by rw [pcV, h]; rfl
theorem pcY_neg {s : ByteArray} {x y z : Int} (h : x < 0 ∨ y < 0 ∨ z < 0) : pcY s x y z = false := by
  have : crvB x y z = false := by
    cases hc : crvB x y z with
    | false => rfl
    | true => obtain ⟨⟨a, _⟩, ⟨b, _⟩, c, _⟩ := crvB_iff.1 hc; omega
  rw [pcY, this]; rfl
/-- A block of three zeros, not frozen. -/
structure ResC (W : World) (g : Nat) : Prop where
  r0 : W.cell? ⟨g, 0, none⟩ = some (.int .i64 0)
  r1 : W.cell? ⟨g, 1, none⟩ = some (.int .i64 0)
  r2 : W.cell? ⟨g, 2, none⟩ = some (.int .i64 0)
  f0 : W.frozen? ⟨g, 0, none⟩ = false
  f1 : W.frozen? ⟨g, 1, none⟩ = false
  f2 : W.frozen? ⟨g, 2, none⟩ = false
  sz : g < W.heap.size
theorem resC {w W : World} {t : TypeId} (hb : Below (w.alloc (.cells #[.int .i64 0, .int .i64 0, .int .i64 0] t)).heap.size (w.alloc (.cells #[.int .i64 0, .int .i64 0, .int .i64 0] t)) W) : ResC W w.heap.size := by
  obtain ⟨hc, hf⟩ := bcell hb
  have hs := hb.size
  simp at hs
  constructor
  all_goals first
    | exact (hc _ _ (by simp <;> omega)).trans (by simp [go_sem])
    | exact (hf _ _ (by simp <;> omega)).trans (by simp [go_sem])
    | omega
theorem ResC.later {w W : World} {g : Nat} (h : ResC w g) (hb : Below w.heap.size w W) : ResC W g :=
  ⟨(hb.cell (p := ⟨g, 0, none⟩) h.sz).trans h.r0, (hb.cell (p := ⟨g, 1, none⟩) h.sz).trans h.r1, (hb.cell (p := ⟨g, 2, none⟩) h.sz).trans h.r2, (hb.frozen (p := ⟨g, 0, none⟩) h.sz).trans h.f0, (hb.frozen (p := ⟨g, 1, none⟩) h.sz).trans h.f1, (hb.frozen (p := ⟨g, 2, none⟩) h.sz).trans h.f2, Nat.lt_of_lt_of_le h.sz hb.size⟩
set_option maxHeartbeats 1000000 in
theorem implParse_len (s : ByteArray) (w : World) (hs : s.size ≤ 1048576) (hM : MaxL w) (hn : (pcs s 47 0).length ≠ 3) :
    Calls Tryd.prog 9 #[.string s] w fun e w' => e = .returned zeroC ∧ Below w.heap.size w w' := by
  have HS : Hid (∀ W, Below w.heap.size w W → _) := fun W hW => split_any s 47 W (hM.later hW) hs
  unfold zeroC
  have HL := Lib.hid hn
  clear hM hn
  go_enter Tryd.func9, Tryd.ntmps9
  go_wp2_with fail
  refine (HS.out _ (by repeat (first | (with_reducible exact Below.refl _ _) | (with_reducible refine belAlloc ?_ _) | (with_reducible refine Below.setCell ?_ (by simp) _) | (with_reducible refine Below.drew ?_)))).mono ?_
  rintro e w1 ⟨v, rfl, g, c, rfl, hcap, hg, hown, hb⟩
  have hne := HL.out
  change (pcs s (((47 : UInt8).toNat : Nat) : Int) 0).length ≠ 3 at hne
  generalize (pcs s (((47 : UInt8).toNat : Nat) : Int) 0).length = n at *
  have e3 : ((n : Int) != 3) = true := by simp; omega
  have HB := Lib.hid (belNext (belAlloc (Below.refl _ w) _) hb)
  have R := resC hb
  obtain ⟨r0, r1, r2, f0, f1, f2, rz⟩ := resC hb
  clear hb hown hne
  go_wp2_with fail
  exact bodyPost_ret (v := .tuple #[.agg #[.int .i64 0, .int .i64 0, .int .i64 0], .bool false]) (by simp [results, Tryd.results9, go_sem, R.r0, R.r1, R.r2]) rfl ⟨rfl, by repeat (first | (with_reducible exact HB.out) | (with_reducible refine belAlloc ?_ _) | (with_reducible refine Below.setCell ?_ (by simp) _))⟩
/-- The pieces in block g. -/
structure IsPcs (W : World) (g : Nat) (p0 p1 p2 : ByteArray) : Prop where
  c0 : W.cell? ⟨g, 0, none⟩ = some (.string p0)
  c1 : W.cell? ⟨g, 1, none⟩ = some (.string p1)
  c2 : W.cell? ⟨g, 2, none⟩ = some (.string p2)
  sz : g < W.heap.size
theorem IsPcs.later {w W : World} {g : Nat} {p0 p1 p2 : ByteArray} (h : IsPcs w g p0 p1 p2) (hb : Below w.heap.size w W) : IsPcs W g p0 p1 p2 :=
  ⟨(hb.cell (p := ⟨g, 0, none⟩) h.sz).trans h.c0, (hb.cell (p := ⟨g, 1, none⟩) h.sz).trans h.c1, (hb.cell (p := ⟨g, 2, none⟩) h.sz).trans h.c2, Nat.lt_of_lt_of_le h.sz hb.size⟩
theorem isPcs {W W' : World} {v : Value} {p0 p1 p2 : ByteArray} (h : StrsOut W [p0, p1, p2] v W') : ∃ g c, v = .slice (some ⟨g, 0, none⟩) 3 c ∧ IsPcs W' g p0 p1 p2 ∧ Below W.heap.size W W' := by
  obtain ⟨g, c, rfl, _, _, hown, hb⟩ := h
  exact ⟨g, c, rfl, ⟨hown.cell (i := 0) (by simp), hown.cell (i := 1) (by simp), hown.cell (i := 2) (by simp), hown.1⟩, hb⟩
theorem three_of {l : List ByteArray} (h : l.length = 3) : ∃ p0 p1 p2, l = [p0, p1, p2] := by
  match l, h with
  | [a, b, c], _ => exact ⟨a, b, c, rfl⟩
set_option maxHeartbeats 2000000 in
theorem implParse_three (s p0 p1 p2 : ByteArray) (w : World) (hs : s.size ≤ 1048576) (h0 : p0.size ≤ 1048576) (h1 : p1.size ≤ 1048576) (h2 : p2.size ≤ 1048576) (hM : MaxL w) (hT : Pow10 w) (hp : pcs s 47 0 = [p0, p1, p2]) :
    Calls Tryd.prog 9 #[.string s] w fun e w' => e = .returned (pcV s (rnD p0) (rnD p1) (rnD p2)) ∧ Below w.heap.size w w' := by
  have HS : Hid (∀ W, Below w.heap.size w W → Calls Tryd.prog 16 #[.string s, .string ⟨#[47]⟩] W fun e w' => ∃ v, e = .returned v ∧ StrsOut W [p0, p1, p2] v w') := fun W hW => by
    have := split_any s 47 W (hM.later hW) hs
    rwa [show pcs s (((47 : UInt8).toNat : Nat) : Int) 0 = [p0, p1, p2] from hp] at this
  have HN0 := Lib.hid (fun W => implReadNumber_any p0 W h0)
  have HN1 := Lib.hid (fun W => implReadNumber_any p1 W h1)
  have HN2 := Lib.hid (fun W => implReadNumber_any p2 W h2)
  have HTT : Hid (∀ W, Below w.heap.size w W → Pow10 W) := fun W hW => hT.later hW
  clear hM hT hp
  generalize rnD p0 = x at *
  generalize rnD p1 = y at *
  generalize rnD p2 = z at *
  by_cases hx : x < 0
  · rw [pcV_no (pcY_neg (.inl hx))]
    rw [outT_no hx] at HN0
    clear hx
    go_enter Tryd.func9, Tryd.ntmps9
    go_wp2_with fail
    refine (HS.out _ (by repeat (first | (with_reducible exact Below.refl _ _) | (with_reducible refine belAlloc ?_ _) | (with_reducible refine Below.setCell ?_ (by simp) _) | (with_reducible refine Below.drew ?_)))).mono ?_
    rintro e w1 ⟨v, rfl, hso⟩
    obtain ⟨g, c, rfl, hpc, hb⟩ := isPcs hso
    have HB := Lib.hid (belNext (belAlloc (Below.refl _ w) _) hb)
    have R := resC hb
    obtain ⟨r0, r1, r2, f0, f1, f2, rz⟩ := resC hb
    obtain ⟨c0, c1, c2, gz⟩ := hpc
    clear hb hso
    go_wp2_with fail
    refine wp_loop_rounds 4 ?_
    rw [rounds_succ]
    go_wp2_with (go_at_call 17; refine (HN0.out _).mono ?_; rintro e w2 ⟨rfl, rfl⟩)
    exact bodyPost_ret (v := .tuple #[.agg #[.int .i64 0, .int .i64 0, .int .i64 0], .bool false]) (by simp [results, Tryd.results9, go_sem, R.r0, R.r1, R.r2, R.sz]) rfl ⟨rfl, by repeat (first | (with_reducible exact HB.out) | (with_reducible refine belAlloc ?_ _) | (with_reducible refine Below.setCell ?_ (by simp) _))⟩
  rw [outT_yes (by omega)] at HN0
  by_cases hy : y < 0
  · rw [pcV_no (pcY_neg (.inr (.inl hy)))]
    rw [outT_no hy] at HN1
    clear hx hy
    go_enter Tryd.func9, Tryd.ntmps9
    go_wp2_with fail
    refine (HS.out _ (by repeat (first | (with_reducible exact Below.refl _ _) | (with_reducible refine belAlloc ?_ _) | (with_reducible refine Below.setCell ?_ (by simp) _) | (with_reducible refine Below.drew ?_)))).mono ?_
    rintro e w1 ⟨v, rfl, hso⟩
    obtain ⟨g, c, rfl, hpc, hb⟩ := isPcs hso
    have HB := Lib.hid (belNext (belAlloc (Below.refl _ w) _) hb)
    have R := resC hb
    obtain ⟨r0, r1, r2, f0, f1, f2, rz⟩ := resC hb
    obtain ⟨c0, c1, c2, gz⟩ := hpc
    clear hb hso
    go_wp2_with fail
    refine wp_loop_rounds 4 ?_
    rw [rounds_succ]
    go_wp2_with (go_at_call 17; refine (HN0.out _).mono ?_; rintro e w2 ⟨rfl, rfl⟩)
    rw [rounds_succ]
    go_wp2_with (go_at_call 17; refine (HN1.out _).mono ?_; rintro e w2 ⟨rfl, rfl⟩)
    exact bodyPost_ret (v := .tuple #[.agg #[.int .i64 0, .int .i64 0, .int .i64 0], .bool false]) (by simp [results, Tryd.results9, go_sem, R.r0, R.r1, R.r2, R.sz]) rfl ⟨rfl, by repeat (first | (with_reducible exact HB.out) | (with_reducible refine belAlloc ?_ _) | (with_reducible refine Below.setCell ?_ (by simp; try omega) _))⟩
  rw [outT_yes (by omega)] at HN1
  by_cases hz : z < 0
  · rw [pcV_no (pcY_neg (.inr (.inr hz)))]
    rw [outT_no hz] at HN2
    clear hx hy hz
    go_enter Tryd.func9, Tryd.ntmps9
    go_wp2_with fail
    refine (HS.out _ (by repeat (first | (with_reducible exact Below.refl _ _) | (with_reducible refine belAlloc ?_ _) | (with_reducible refine Below.setCell ?_ (by simp) _) | (with_reducible refine Below.drew ?_)))).mono ?_
    rintro e w1 ⟨v, rfl, hso⟩
    obtain ⟨g, c, rfl, hpc, hb⟩ := isPcs hso
    have HB := Lib.hid (belNext (belAlloc (Below.refl _ w) _) hb)
    have R := resC hb
    obtain ⟨r0, r1, r2, f0, f1, f2, rz⟩ := resC hb
    obtain ⟨c0, c1, c2, gz⟩ := hpc
    clear hb hso
    go_wp2_with fail
    refine wp_loop_rounds 4 ?_
    rw [rounds_succ]
    go_wp2_with (go_at_call 17; refine (HN0.out _).mono ?_; rintro e w2 ⟨rfl, rfl⟩)
    rw [rounds_succ]
    go_wp2_with (go_at_call 17; refine (HN1.out _).mono ?_; rintro e w2 ⟨rfl, rfl⟩)
    rw [rounds_succ]
    go_wp2_with (go_at_call 17; refine (HN2.out _).mono ?_; rintro e w2 ⟨rfl, rfl⟩)
    exact bodyPost_ret (v := .tuple #[.agg #[.int .i64 0, .int .i64 0, .int .i64 0], .bool false]) (by simp [results, Tryd.results9, go_sem, R.r0, R.r1, R.r2, R.sz]) rfl ⟨rfl, by repeat (first | (with_reducible exact HB.out) | (with_reducible refine belAlloc ?_ _) | (with_reducible refine Below.setCell ?_ (by simp; try omega) _))⟩
  rw [outT_yes (by omega)] at HN2
  have HI : Hid (∀ W, _) := fun W => isCurve_any x y z W
  cases hc : crvB x y z with
  | false =>
    rw [pcV_no (by rw [pcY, hc]; rfl)]
    rw [hc] at HI
    clear hx hy hz hc
    go_enter Tryd.func9, Tryd.ntmps9
    go_wp2_with fail
    refine (HS.out _ (by repeat (first | (with_reducible exact Below.refl _ _) | (with_reducible refine belAlloc ?_ _) | (with_reducible refine Below.setCell ?_ (by simp) _) | (with_reducible refine Below.drew ?_)))).mono ?_
    rintro e w1 ⟨v, rfl, hso⟩
    obtain ⟨g, c, rfl, hpc, hb⟩ := isPcs hso
    have HB := Lib.hid (belNext (belAlloc (Below.refl _ w) _) hb)
    have R := resC hb
    obtain ⟨r0, r1, r2, f0, f1, f2, rz⟩ := resC hb
    obtain ⟨c0, c1, c2, gz⟩ := hpc
    have z1 : w.heap.size < w1.heap.size + 1 := by omega
    have z2 : w.heap.size < w1.heap.size + 1 + 1 := by omega
    clear hb hso
    go_wp2_with fail
    refine wp_loop_rounds 4 ?_
    rw [rounds_succ]
    go_wp2_with (go_at_call 17; refine (HN0.out _).mono ?_; rintro e w2 ⟨rfl, rfl⟩)
    rw [rounds_succ]
    go_wp2_with (go_at_call 17; refine (HN1.out _).mono ?_; rintro e w2 ⟨rfl, rfl⟩)
    rw [rounds_succ]
    go_wp2_with (go_at_call 17; refine (HN2.out _).mono ?_; rintro e w2 ⟨rfl, rfl⟩)
    rw [rounds_succ]
    go_wp2_with (go_at_call 13; refine (HI.out _).mono ?_; rintro e w2 ⟨rfl, rfl⟩)
    exact bodyPost_ret (v := .tuple #[.agg #[.int .i64 0, .int .i64 0, .int .i64 0], .bool false]) (by simp [results, Tryd.results9, go_sem, R.r0, R.r1, R.r2, R.sz, z1, z2]) rfl ⟨rfl, by repeat (first | (with_reducible exact HB.out) | (with_reducible refine belAlloc ?_ _) | (with_reducible refine Below.setCell ?_ (by simp; try omega) _))⟩
  | true =>
    rw [hc] at HI
    obtain ⟨⟨f0, f1⟩, ⟨l0, l1⟩, s0, s1⟩ := crvB_iff.1 hc
    obtain ⟨nx, rfl⟩ : ∃ n : Nat, x = n := ⟨x.toNat, by omega⟩
    obtain ⟨ny, rfl⟩ : ∃ n : Nat, y = n := ⟨y.toNat, by omega⟩
    obtain ⟨nz, rfl⟩ : ∃ n : Nat, z = n := ⟨z.toNat, by omega⟩
    have HCT := Lib.hid (fun W => implcurveText_ct nx ny nz W (by omega) (by omega) (by omega))
    have HV : Hid (pcY s nx ny nz = ((ctxt nx ny nz).toList == s.toList)) := Lib.hid (by rw [pcY, hc, Bool.true_and]; rfl)
    clear hx hy hz hc f0 f1 l0 l1 s0 s1
    generalize ctxt nx ny nz = tx at *
    cases he : (tx.toList == s.toList) with
    | false =>
      rw [pcV_no (HV.out.trans he)]
      go_enter Tryd.func9, Tryd.ntmps9
      go_wp2_with fail
      refine (HS.out _ (by repeat (first | (with_reducible exact Below.refl _ _) | (with_reducible refine belAlloc ?_ _) | (with_reducible refine Below.setCell ?_ (by simp) _) | (with_reducible refine Below.drew ?_)))).mono ?_
      rintro e w1 ⟨v, rfl, hso⟩
      obtain ⟨g, c, rfl, hpc, hb⟩ := isPcs hso
      have HB := Lib.hid (belNext (belAlloc (Below.refl _ w) _) hb)
      have R := resC hb
      obtain ⟨r0, r1, r2, f0, f1, f2, rz⟩ := resC hb
      obtain ⟨c0, c1, c2, gz⟩ := hpc
      have z1 : w.heap.size < w1.heap.size + 1 := by omega
      have z2 : w.heap.size < w1.heap.size + 1 + 1 := by omega
      clear hb hso
      go_wp2_with fail
      refine wp_loop_rounds 4 ?_
      rw [rounds_succ]
      go_wp2_with (go_at_call 17; refine (HN0.out _).mono ?_; rintro e w2 ⟨rfl, rfl⟩)
      rw [rounds_succ]
      go_wp2_with (go_at_call 17; refine (HN1.out _).mono ?_; rintro e w2 ⟨rfl, rfl⟩)
      rw [rounds_succ]
      go_wp2_with (go_at_call 17; refine (HN2.out _).mono ?_; rintro e w2 ⟨rfl, rfl⟩)
      rw [rounds_succ]
      go_wp2_with (go_at_call 13; refine (HI.out _).mono ?_; rintro e w2 ⟨rfl, rfl⟩)
      refine (HCT.out _ (HTT.out _ (by repeat (first | (with_reducible exact HB.out) | (with_reducible refine belAlloc ?_ _) | (with_reducible refine Below.setCell ?_ (by simp; try omega) _))))).mono ?_
      rintro e w3 ⟨rfl, hb3⟩
      obtain ⟨hc3, hf3⟩ := bcell hb3
      have hs3 := hb3.size
      simp at hs3
      have k0 : w3.cell? ⟨w1.heap.size + 1, 0, none⟩ = some (.int .i64 nx) := (hc3 _ _ (by simp <;> omega)).trans (by simp [go_sem])
      have k1 : w3.cell? ⟨w1.heap.size + 1, 1, none⟩ = some (.int .i64 ny) := (hc3 _ _ (by simp <;> omega)).trans (by simp [go_sem])
      have k2 : w3.cell? ⟨w1.heap.size + 1, 2, none⟩ = some (.int .i64 nz) := (hc3 _ _ (by simp <;> omega)).trans (by simp [go_sem])
      have q0 : w3.cell? ⟨w.heap.size, 0, none⟩ = some (.int .i64 0) := (hc3 _ _ (by simp <;> omega)).trans (by simp [go_sem, R.r0, z1, z2, rz])
      have q1 : w3.cell? ⟨w.heap.size, 1, none⟩ = some (.int .i64 0) := (hc3 _ _ (by simp <;> omega)).trans (by simp [go_sem, R.r1, z1, z2, rz])
      have q2 : w3.cell? ⟨w.heap.size, 2, none⟩ = some (.int .i64 0) := (hc3 _ _ (by simp <;> omega)).trans (by simp [go_sem, R.r2, z1, z2, rz])
      have g0 : w3.frozen? ⟨w.heap.size, 0, none⟩ = false := (hf3 _ _ (by simp <;> omega)).trans (by simp [go_sem, R.f0, z1, z2, rz])
      have g1 : w3.frozen? ⟨w.heap.size, 1, none⟩ = false := (hf3 _ _ (by simp <;> omega)).trans (by simp [go_sem, R.f1, z1, z2, rz])
      have g2 : w3.frozen? ⟨w.heap.size, 2, none⟩ = false := (hf3 _ _ (by simp <;> omega)).trans (by simp [go_sem, R.f2, z1, z2, rz])
      have hz3 : w1.heap.size + 1 < w3.heap.size := by omega
      have hz4 : w.heap.size < w3.heap.size := by omega
      have HB3 := Lib.hid (belNext (show Below w.heap.size w _ from by repeat (first | (with_reducible exact HB.out) | (with_reducible refine belAlloc ?_ _) | (with_reducible refine Below.setCell ?_ (by simp; try omega) _))) hb3)
      clear hb3 hc3 hf3
      go_wp2_with fail
      exact bodyPost_ret (v := .tuple #[.agg #[.int .i64 0, .int .i64 0, .int .i64 0], .bool false]) (by simp [results, Tryd.results9, go_sem, q0, q1, q2]) rfl ⟨rfl, by repeat (first | (with_reducible exact HB3.out) | (with_reducible refine belAlloc ?_ _) | (with_reducible refine Below.setCell ?_ (by simp) _))⟩
    | true =>
      rw [pcV_yes (HV.out.trans he)]
      go_enter Tryd.func9, Tryd.ntmps9
      go_wp2_with fail
      refine (HS.out _ (by repeat (first | (with_reducible exact Below.refl _ _) | (with_reducible refine belAlloc ?_ _) | (with_reducible refine Below.setCell ?_ (by simp) _) | (with_reducible refine Below.drew ?_)))).mono ?_
      rintro e w1 ⟨v, rfl, hso⟩
      obtain ⟨g, c, rfl, hpc, hb⟩ := isPcs hso
      have HB := Lib.hid (belNext (belAlloc (Below.refl _ w) _) hb)
      have R := resC hb
      obtain ⟨r0, r1, r2, f0, f1, f2, rz⟩ := resC hb
      obtain ⟨c0, c1, c2, gz⟩ := hpc
      have z1 : w.heap.size < w1.heap.size + 1 := by omega
      have z2 : w.heap.size < w1.heap.size + 1 + 1 := by omega
      clear hb hso
      go_wp2_with fail
      refine wp_loop_rounds 4 ?_
      rw [rounds_succ]
      go_wp2_with (go_at_call 17; refine (HN0.out _).mono ?_; rintro e w2 ⟨rfl, rfl⟩)
      rw [rounds_succ]
      go_wp2_with (go_at_call 17; refine (HN1.out _).mono ?_; rintro e w2 ⟨rfl, rfl⟩)
      rw [rounds_succ]
      go_wp2_with (go_at_call 17; refine (HN2.out _).mono ?_; rintro e w2 ⟨rfl, rfl⟩)
      rw [rounds_succ]
      go_wp2_with (go_at_call 13; refine (HI.out _).mono ?_; rintro e w2 ⟨rfl, rfl⟩)
      refine (HCT.out _ (HTT.out _ (by repeat (first | (with_reducible exact HB.out) | (with_reducible refine belAlloc ?_ _) | (with_reducible refine Below.setCell ?_ (by simp; try omega) _))))).mono ?_
      rintro e w3 ⟨rfl, hb3⟩
      obtain ⟨hc3, hf3⟩ := bcell hb3
      have hs3 := hb3.size
      simp at hs3
      have k0 : w3.cell? ⟨w1.heap.size + 1, 0, none⟩ = some (.int .i64 nx) := (hc3 _ _ (by simp <;> omega)).trans (by simp [go_sem])
      have k1 : w3.cell? ⟨w1.heap.size + 1, 1, none⟩ = some (.int .i64 ny) := (hc3 _ _ (by simp <;> omega)).trans (by simp [go_sem])
      have k2 : w3.cell? ⟨w1.heap.size + 1, 2, none⟩ = some (.int .i64 nz) := (hc3 _ _ (by simp <;> omega)).trans (by simp [go_sem])
      have q0 : w3.cell? ⟨w.heap.size, 0, none⟩ = some (.int .i64 0) := (hc3 _ _ (by simp <;> omega)).trans (by simp [go_sem, R.r0, z1, z2, rz])
      have q1 : w3.cell? ⟨w.heap.size, 1, none⟩ = some (.int .i64 0) := (hc3 _ _ (by simp <;> omega)).trans (by simp [go_sem, R.r1, z1, z2, rz])
      have q2 : w3.cell? ⟨w.heap.size, 2, none⟩ = some (.int .i64 0) := (hc3 _ _ (by simp <;> omega)).trans (by simp [go_sem, R.r2, z1, z2, rz])
      have g0 : w3.frozen? ⟨w.heap.size, 0, none⟩ = false := (hf3 _ _ (by simp <;> omega)).trans (by simp [go_sem, R.f0, z1, z2, rz])
      have g1 : w3.frozen? ⟨w.heap.size, 1, none⟩ = false := (hf3 _ _ (by simp <;> omega)).trans (by simp [go_sem, R.f1, z1, z2, rz])
      have g2 : w3.frozen? ⟨w.heap.size, 2, none⟩ = false := (hf3 _ _ (by simp <;> omega)).trans (by simp [go_sem, R.f2, z1, z2, rz])
      have hz3 : w1.heap.size + 1 < w3.heap.size := by omega
      have hz4 : w.heap.size < w3.heap.size := by omega
      have HB3 := Lib.hid (belNext (show Below w.heap.size w _ from by repeat (first | (with_reducible exact HB.out) | (with_reducible refine belAlloc ?_ _) | (with_reducible refine Below.setCell ?_ (by simp; try omega) _))) hb3)
      clear hb3 hc3 hf3
      go_wp2_with fail
      exact bodyPost_ret (v := .tuple #[.agg #[.int .i64 nx, .int .i64 ny, .int .i64 nz], .bool true]) (by simp [results, Tryd.results9, go_sem, q0, q1, q2]) rfl ⟨rfl, by repeat (first | (with_reducible exact HB3.out) | (with_reducible refine belAlloc ?_ _) | (with_reducible refine Below.setCell ?_ (by simp) _))⟩
end Go.Proofs.YtnfkepngjbjeoaaDoor
