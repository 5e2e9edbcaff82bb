/-
  ParseCurve of the reference; the walk of FnExactParseCurve.
-/
import Derived.Test.YtnfkepngjbjeoaaDoorParseCurve
import Derived.Deep.RegionWith
import Derived.Deep.DeepCutAuto
import Derived.Deep.RegionHeld3
namespace Go.Proofs.YtnfkepngjbjeoaaDoor
open Go.RowKit
set_option maxHeartbeats 1000000 in
theorem cuParse_len (s : ByteArray) (w : World) (hs : s.size ≤ 1048576) (hn : (pcs s 47 0).length ≠ 3) :
    Calls Tryd.prog 15 #[.string s] w fun e w' => e = .returned zeroC ∧ Below w.heap.size w w' := by
  have HS := Lib.hid (fun W => l1Split_any s 47 W hs)
  unfold zeroC
  have HL := Lib.hid hn
  clear hn
  go_enter Tryd.func15, Tryd.ntmps15
  go_wp2_with fail
  refine (HS.out _).mono ?_
  rintro e w1 ⟨v, rfl, g, c, rfl, hcap, hg, hown, hb⟩
  have hne := HL.out
  generalize (pcs s 47 0).length = n at *
  have e3 : ((n : Int) != 3) = true := by simp; omega
  have HB := Lib.hid (belNext (belAlloc (Below.refl _ w) _) hb)
  have R := resC hb
  obtain ⟨r0, r1, r2, f0, f1, f2, rz⟩ := resC hb
  clear hb hown hne
  go_wp2_with fail
  exact bodyPost_ret (v := .tuple #[.agg #[.int .i64 0, .int .i64 0, .int .i64 0], .bool false]) (by simp [results, Tryd.results15, go_sem, R.r0, R.r1, R.r2]) rfl ⟨rfl, by repeat (first | (with_reducible exact HB.out) | (with_reducible refine belAlloc ?_ _) | (with_reducible refine Below.setCell ?_ (by simp) _))⟩
theorem cell_heap {X Y : World} (h : X.heap = Y.heap) (a : Addr) : X.cell? a = Y.cell? a := by unfold World.cell?; rw [h]
theorem frz_heap {X Y : World} (h : X.heap = Y.heap) (a : Addr) : X.frozen? a = Y.frozen? a := by unfold World.frozen?; rw [h]
theorem resCd {w X W : World} {t : TypeId} (hX : X.heap = (w.alloc (.cells #[.int .i64 0, .int .i64 0, .int .i64 0] t)).heap) (hb : Below X.heap.size X W) : ResC W w.heap.size := by
  obtain ⟨hc, hf⟩ := bcell hb
  have hs := hb.size
  have hx : w.heap.size < X.heap.size := by rw [hX]; simp
  constructor
  all_goals first
    | exact (hc _ _ hx).trans ((cell_heap hX _).trans (by simp [go_sem]))
    | exact (hf _ _ hx).trans ((frz_heap hX _).trans (by simp [go_sem]))
    | omega
theorem ResC.laterd {w X W : World} {g : Nat} (h : ResC w g) (hX : X.heap = w.heap) (hb : Below X.heap.size X W) : ResC W g := by
  obtain ⟨hc, hf⟩ := bcell hb
  have hx : g < X.heap.size := by rw [hX]; exact h.sz
  exact ⟨(hc _ _ hx).trans ((cell_heap hX _).trans h.r0), (hc _ _ hx).trans ((cell_heap hX _).trans h.r1), (hc _ _ hx).trans ((cell_heap hX _).trans h.r2), (hf _ _ hx).trans ((frz_heap hX _).trans h.f0), (hf _ _ hx).trans ((frz_heap hX _).trans h.f1), (hf _ _ hx).trans ((frz_heap hX _).trans h.f2), Nat.lt_of_lt_of_le hx hb.size⟩
theorem crv_new (w : World) (x y z : Int) (t : TypeId) : IsCrv (w.alloc (.cells #[.int .i64 x, .int .i64 y, .int .i64 z] t)) w.heap.size x y z := ⟨by simp, by simp [go_sem], by simp [go_sem], by simp [go_sem]⟩
theorem crv_set {W : World} {g : Nat} (h : ResC W g) (x y z : Int) : IsCrv (((W.setCell ⟨g, 0, none⟩ (.int .i64 x)).setCell ⟨g, 1, none⟩ (.int .i64 y)).setCell ⟨g, 2, none⟩ (.int .i64 z)) g x y z := by
  have ho : Own W g 3 (fun _ => .int .i64 0) := ⟨h.sz, fun i hi => by
    match i, hi with
    | 0, _ => exact ⟨h.r0, h.f0⟩
    | 1, _ => exact ⟨h.r1, h.f1⟩
    | 2, _ => exact ⟨h.r2, h.f2⟩⟩
  have h2 := ((ho.set (i := 0) (by omega) (.int .i64 x)).set (i := 1) (by omega) (.int .i64 y)).set (i := 2) (by omega) (.int .i64 z)
  exact ⟨h2.1, by simpa using h2.cell (i := 0) (by omega), by simpa using h2.cell (i := 1) (by omega), by simpa using h2.cell (i := 2) (by omega)⟩
set_option maxHeartbeats 8000000 in
theorem cuParse_three (s p0 p1 p2 : ByteArray) (w : World) (hs : s.size ≤ 1048576) (h0 : p0.size ≤ 1048576) (h1 : p1.size ≤ 1048576) (h2 : p2.size ≤ 1048576) (hT : Pow10 w) (hp : pcs s 47 0 = [p0, p1, p2]) :
    Calls Tryd.prog 15 #[.string s] w fun e w' => e = .returned (pcV s (rnD p0) (rnD p1) (rnD p2)) ∧ Below w.heap.size w w' := by
  have HS : Hid (∀ W, Calls Tryd.prog 21 #[.string s, .int .u8 47] W fun e w' => ∃ v, e = .returned v ∧ StrsOut W [p0, p1, p2] v w') := fun W => by
    have := l1Split_any s 47 W hs
    rwa [hp] at this
  have HN0 := Lib.hid (fun W => nuRead_any p0 W h0)
  have HN1 := Lib.hid (fun W => nuRead_any p1 W h1)
  have HN2 := Lib.hid (fun W => nuRead_any p2 W h2)
  have HTT : Hid (∀ W, Below w.heap.size w W → Pow10 W) := fun W hW => hT.later hW
  clear hT hp
  have HI : Hid (∀ x y z W, _) := fun x y z W => cuGood_any x y z W
  have HCT : Hid (∀ nx ny nz : Nat, crvB nx ny nz = true → ∀ W, Pow10 W → _) := fun nx ny nz hc W hW => speccuText_ct nx ny nz W (by obtain ⟨⟨_, _⟩, _⟩ := crvB_iff.1 hc; omega) (by obtain ⟨_, ⟨_, _⟩, _⟩ := crvB_iff.1 hc; omega) (by obtain ⟨_, _, _, _⟩ := crvB_iff.1 hc; omega) hW
  generalize rnD p0 = x at *
  generalize rnD p1 = y at *
  generalize rnD p2 = z at *
  go_enter Tryd.func15, Tryd.ntmps15
  go_upto_region 4 with (go_at_call 21; refine (HS.out _).mono ?_; rintro e w1 ⟨v, rfl, hso⟩; obtain ⟨g, c, rfl, hpc, hb⟩ := isPcs hso; have HB := Lib.hid (belNext (belAlloc (Below.refl _ w) _) hb); have HRC : Hid (∀ W, Below w1.heap.size w1 W → ResC W w.heap.size) := fun W hW => (resC hb).later hW; have HX : Hid (∀ W, Below w1.heap.size w1 W → IsPcs W g p0 p1 p2) := fun W hW => hpc.later hW; have rz : w.heap.size < w1.heap.size := (resC hb).sz; obtain ⟨q0, q1, q2, q3⟩ := hpc; clear hb hso)
  go_cut [5] (fun s5 wx => ∃ gC : Nat, s5 = .pointer (some ⟨gC, 0, none⟩) ∧ IsCrv wx gC x y z ∧ w1.heap.size ≤ gC ∧ Below w1.heap.size w1 wx)
  case first =>
    have n1 := Nat.ne_of_lt q3
    have n2 := Nat.ne_of_gt q3
    go_region_held3 (fun w' => w'.cell? ⟨g, 0, none⟩ = some (.string p0) ∧ w'.cell? ⟨g, 1, none⟩ = some (.string p1) ∧ w'.cell? ⟨g, 2, none⟩ = some (.string p2)) (go_keep) (first | (go_at_call 22; (with_reducible refine (HN0.out _).mono ?_); rintro e w2 ⟨rfl, hb⟩; have hB := belNext (show Below w1.heap.size w1 _ by repeat (first | (with_reducible exact hB) | (with_reducible exact Below.refl _ _) | (with_reducible refine belAlloc ?_ _) | (with_reducible refine Below.drew ?_))) hb; (first | (have hR := resCd (by rfl) hb) | (have hR := hR.laterd (by rfl) hb) | skip); (try (have hR' := hR; obtain ⟨e0, e1, e2, e3, e4, e5, e6⟩ := hR')); have s1 := hB.size; obtain ⟨k0, k1, k2, k3⟩ := HX.out _ hB; have n1 := Nat.ne_of_lt k3; have n2 := Nat.ne_of_gt k3; clear hb) | (go_at_call 22; (with_reducible refine (HN1.out _).mono ?_); rintro e w2 ⟨rfl, hb⟩; have hB := belNext (show Below w1.heap.size w1 _ by repeat (first | (with_reducible exact hB) | (with_reducible exact Below.refl _ _) | (with_reducible refine belAlloc ?_ _) | (with_reducible refine Below.drew ?_))) hb; (first | (have hR := resCd (by rfl) hb) | (have hR := hR.laterd (by rfl) hb) | skip); (try (have hR' := hR; obtain ⟨e0, e1, e2, e3, e4, e5, e6⟩ := hR')); have s1 := hB.size; obtain ⟨k0, k1, k2, k3⟩ := HX.out _ hB; have n1 := Nat.ne_of_lt k3; have n2 := Nat.ne_of_gt k3; clear hb) | (go_at_call 22; (with_reducible refine (HN2.out _).mono ?_); rintro e w2 ⟨rfl, hb⟩; have hB := belNext (show Below w1.heap.size w1 _ by repeat (first | (with_reducible exact hB) | (with_reducible exact Below.refl _ _) | (with_reducible refine belAlloc ?_ _) | (with_reducible refine Below.drew ?_))) hb; (first | (have hR := resCd (by rfl) hb) | (have hR := hR.laterd (by rfl) hb) | skip); (try (have hR' := hR; obtain ⟨e0, e1, e2, e3, e4, e5, e6⟩ := hR')); have s1 := hB.size; obtain ⟨k0, k1, k2, k3⟩ := HX.out _ hB; have n1 := Nat.ne_of_lt k3; have n2 := Nat.ne_of_gt k3; clear hb))
    all_goals
      go_wp2_with fail
      go_meet
      exact ⟨_, rfl, by first | exact crv_new _ _ _ _ _ | exact crv_set hR _ _ _, by omega, by repeat (first | (with_reducible exact hB) | (with_reducible refine belAlloc ?_ _) | (with_reducible refine Below.setCell ?_ (by simp; try omega) _))⟩
  case rest =>
    obtain ⟨gC, rfl, hcv, hgC, hbl⟩ := hcut
    have HBL := Lib.hid hbl
    have HCV := Lib.hid hcv
    have hsl := hbl.size
    obtain ⟨r0, r1, r2, f0, f1, f2, r3⟩ := HRC.out _ hbl
    have R := HRC.out _ hbl
    obtain ⟨kz, k0, k1, k2⟩ := hcv
    have hne : gC ≠ w.heap.size := by omega
    have hne2 : w.heap.size ≠ gC := by omega
    clear hbl
    cases hc : crvB x y z with
    | false =>
      have HPV := Lib.hid (pcV_no (s := s) (x := x) (y := y) (z := z) (by rw [pcY, hc]; rfl))
      have HG : Hid (∀ W, _) := fun W => HI.out x y z W
      rw [hc] at HG
      clear hc HI HCT
      have z1 : w.heap.size < wc.heap.size + 1 := by omega
      go_wp2_with (go_at_call 11; refine (HG.out _).mono ?_; rintro e w3 ⟨rfl, rfl⟩)
      exact bodyPost_ret (v := .tuple #[.agg #[.int .i64 0, .int .i64 0, .int .i64 0], .bool false]) (by simp [results, Tryd.results15, go_sem, R.r0, R.r1, R.r2, R.sz]) rfl ⟨by rw [HPV.out], by repeat (first | (with_reducible exact belNext HB.out HBL.out) | (with_reducible refine belAlloc ?_ _) | (with_reducible refine Below.setCell ?_ (by simp) _) | (with_reducible refine Below.drew ?_))⟩
    | true =>
      have HG : Hid (∀ W, _) := fun W => HI.out x y z W
      rw [hc] at HG
      obtain ⟨⟨a0, a1⟩, ⟨l0, l1⟩, s0, s1⟩ := crvB_iff.1 hc
      obtain ⟨nx, rfl⟩ : ∃ n : Nat, x = n := ⟨x.toNat, by omega⟩
      obtain ⟨ny, rfl⟩ : ∃ n : Nat, y = n := ⟨y.toNat, by omega⟩
      obtain ⟨nz, rfl⟩ : ∃ n : Nat, z = n := ⟨z.toNat, by omega⟩
      have HC2 := Lib.hid (fun W hW => HCT.out nx ny nz hc W hW)
      have HV : Hid (pcY s nx ny nz = ((ctxt nx ny nz).toList == s.toList)) := Lib.hid (by rw [pcY, hc, Bool.true_and]; rfl)
      clear hc a0 a1 l0 l1 s0 s1 HI HCT
      generalize ctxt nx ny nz = tx at *
      have z1 : w.heap.size < wc.heap.size + 1 := by omega
      have z2 : gC < wc.heap.size + 1 := by omega
      cases he : (tx.toList == s.toList) with
      | false =>
        have HPV := Lib.hid (pcV_no (HV.out.trans he))
        go_wp2_with (go_at_call 11; refine (HG.out _).mono ?_; rintro e w3 ⟨rfl, rfl⟩)
        refine (HC2.out _ (HTT.out _ (by repeat (first | (with_reducible exact belNext HB.out HBL.out) | (with_reducible refine belAlloc ?_ _) | (with_reducible refine Below.drew ?_))))).mono ?_
        rintro e w3 ⟨rfl, hb3⟩
        have HB3 := Lib.hid (belNext (show Below wc.heap.size wc _ by repeat (first | (with_reducible exact Below.refl _ _) | (with_reducible refine belAlloc ?_ _) | (with_reducible refine Below.drew ?_))) hb3)
        have R3 := HRC.out _ (belNext HBL.out HB3.out)
        clear hb3 r0 r1 r2 f0 f1 f2 r3 kz k0 k1 k2
        obtain ⟨r0, r1, r2, f0, f1, f2, r3⟩ := HRC.out _ (belNext HBL.out HB3.out)
        obtain ⟨kz, k0, k1, k2⟩ := HCV.out.later HB3.out
        go_wp2_with fail
        exact bodyPost_ret (v := .tuple #[.agg #[.int .i64 0, .int .i64 0, .int .i64 0], .bool false]) (by simp [results, Tryd.results15, go_sem, R3.r0, R3.r1, R3.r2]) rfl ⟨by rw [HPV.out], by repeat (first | (with_reducible exact belNext (belNext HB.out HBL.out) HB3.out) | (with_reducible refine belAlloc ?_ _) | (with_reducible refine Below.setCell ?_ (by simp) _) | (with_reducible refine Below.drew ?_))⟩
      | true =>
        have HPV := Lib.hid (pcV_yes (HV.out.trans he))
        go_wp2_with (go_at_call 11; refine (HG.out _).mono ?_; rintro e w3 ⟨rfl, rfl⟩)
        refine (HC2.out _ (HTT.out _ (by repeat (first | (with_reducible exact belNext HB.out HBL.out) | (with_reducible refine belAlloc ?_ _) | (with_reducible refine Below.drew ?_))))).mono ?_
        rintro e w3 ⟨rfl, hb3⟩
        have HB3 := Lib.hid (belNext (show Below wc.heap.size wc _ by repeat (first | (with_reducible exact Below.refl _ _) | (with_reducible refine belAlloc ?_ _) | (with_reducible refine Below.drew ?_))) hb3)
        have R3 := HRC.out _ (belNext HBL.out HB3.out)
        clear hb3 r0 r1 r2 f0 f1 f2 r3 kz k0 k1 k2
        obtain ⟨r0, r1, r2, f0, f1, f2, r3⟩ := HRC.out _ (belNext HBL.out HB3.out)
        obtain ⟨kz, k0, k1, k2⟩ := HCV.out.later HB3.out
        go_wp2_with fail
        exact bodyPost_ret (v := .tuple #[.agg #[.int .i64 nx, .int .i64 ny, .int .i64 nz], .bool true]) (by simp [results, Tryd.results15, go_sem, R3.r0, R3.r1, R3.r2]) rfl ⟨by rw [HPV.out], by repeat (first | (with_reducible exact belNext (belNext HB.out HBL.out) HB3.out) | (with_reducible refine belAlloc ?_ _) | (with_reducible refine Below.setCell ?_ (by simp) _) | (with_reducible refine Below.drew ?_))⟩
theorem pcs_sizes (s : ByteArray) (b : Int) (a : Nat) : ∀ p ∈ pcs s b a, p.size ≤ s.size := by
  rw [pcs]
  split
  · intro p hp
    rcases List.mem_cons.1 hp with rfl | hp
    · rw [ByteArray.size_extract]; omega
    · exact pcs_sizes s b _ p hp
  · intro p hp
    obtain rfl : p = s.extract a s.size := by simpa using hp
    rw [ByteArray.size_extract]; omega
termination_by s.size - a
decreasing_by have := nxt_ge s b a; omega
/-- Both sides return one tuple of a curve and a bool. -/
theorem both_parse (s : ByteArray) (hs : s.size ≤ 1048576) : ∃ (x y z : Int) (b : Bool),
    (∀ W, Pow10 W → Calls Tryd.prog 15 #[.string s] W fun e w' => e = .returned (.tuple #[.agg #[.int .i64 x, .int .i64 y, .int .i64 z], .bool b]) ∧ Below W.heap.size W w') ∧
    (∀ W, MaxL W → Pow10 W → Calls Tryd.prog 9 #[.string s] W fun e w' => e = .returned (.tuple #[.agg #[.int .i64 x, .int .i64 y, .int .i64 z], .bool b]) ∧ Below W.heap.size W w') := by
  by_cases hn : (pcs s 47 0).length = 3
  · obtain ⟨p0, p1, p2, hp⟩ := three_of hn
    have hsz := pcs_sizes s 47 0
    rw [hp] at hsz
    have h0 := hsz p0 (by simp)
    have h1 := hsz p1 (by simp)
    have h2 := hsz p2 (by simp)
    have hv : ∃ (x y z : Int) (b : Bool), pcV s (rnD p0) (rnD p1) (rnD p2) = .tuple #[.agg #[.int .i64 x, .int .i64 y, .int .i64 z], .bool b] := by
      unfold pcV
      split
      · exact ⟨_, _, _, _, rfl⟩
      · exact ⟨_, _, _, _, rfl⟩
    obtain ⟨x, y, z, b, hv⟩ := hv
    refine ⟨x, y, z, b, fun W hT => ?_, fun W hM hT => ?_⟩
    · have := cuParse_three s p0 p1 p2 W hs (by omega) (by omega) (by omega) hT hp
      rwa [hv] at this
    · have := implParse_three s p0 p1 p2 W hs (by omega) (by omega) (by omega) hM hT hp
      rwa [hv] at this
  · exact ⟨0, 0, 0, false, fun W _ => cuParse_len s W hs hn, fun W hM _ => implParse_len s W hs hM hn⟩
set_option maxHeartbeats 1000000 in
theorem specParseCurve_of (s : ByteArray) (x y z : Int) (b : Bool) (w : World)
    (h : ∀ W, Below w.heap.size w W → Calls Tryd.prog 15 #[.string s] W fun e w' => e = .returned (.tuple #[.agg #[.int .i64 x, .int .i64 y, .int .i64 z], .bool b]) ∧ Below W.heap.size W w') :
    Calls Tryd.prog 8 #[.string s] w fun e w' => e = .returned (.tuple #[.agg #[.int .i64 x, .int .i64 y, .int .i64 z], .bool b]) ∧ Below w.heap.size w w' := by
  have H := Lib.hid h
  clear h
  go_enter Tryd.func8, Tryd.ntmps8
  go_wp2_with fail
  refine (H.out _ (by repeat (first | (with_reducible exact Below.refl _ _) | (with_reducible refine belAlloc ?_ _) | (with_reducible refine Below.setCell ?_ (by simp) _) | (with_reducible refine Below.drew ?_)))).mono ?_
  rintro e w1 ⟨rfl, hb1⟩
  have HB := Lib.hid (belNext (belAlloc (Below.refl _ w) _) hb1)
  have R := resC hb1
  obtain ⟨r0, r1, r2, f0, f1, f2, r3⟩ := resC hb1
  clear hb1
  go_wp2_with fail
  exact bodyPost_ret (v := .tuple #[.agg #[.int .i64 x, .int .i64 y, .int .i64 z], .bool b]) (by simp [results, Tryd.results8, go_sem, R.r0, R.r1, R.r2]) rfl ⟨rfl, by repeat (first | (with_reducible exact HB.out) | (with_reducible refine belAlloc ?_ _) | (with_reducible refine Below.setCell ?_ (by simp) _))⟩
theorem isCrvB {w W : World} {t : TypeId} {x y z : Int} (hb : Below (w.alloc (.cells #[.int .i64 x, .int .i64 y, .int .i64 z] t)).heap.size (w.alloc (.cells #[.int .i64 x, .int .i64 y, .int .i64 z] t)) W) : IsCrv W w.heap.size x y z := (crv_new w x y z t).later hb
set_option maxHeartbeats 1000000 in
theorem fnExactParseCurve_walk (s : ByteArray) (hs : s.size ≤ maxLen) (w : World) (hL : laidMetH Tryd.prog Rows.fnExactParseCurveRow.laid w) (hsh : w.ShapedOpen Tryd.prog) :
    Calls Tryd.prog 4 #[.string s] w fun e w' => e = .returned (.bool true) ∧ Below w.heap.size w w' := by
  have hT := pow10_of hL (by simp [Rows.fnExactParseCurveRow])
  have hM := maxL_of hsh
  clear hL hsh
  unfold maxLen at hs
  by_cases hbig : 1048576 < (s.size : Int)
  · clear hT hM
    go_enter Tryd.func4, Tryd.ntmps4
    go_wp2
    go_ret
    exact ⟨rfl, Below.refl _ _⟩
  · obtain ⟨x, y, z, b, hS, hI⟩ := both_parse s (by omega)
    have HS : Hid (∀ W, Below w.heap.size w W → _) := fun W hW => specParseCurve_of s x y z b W fun W' hW' => hS W' (hT.later (belNext hW hW'))
    have HI : Hid (∀ W, Below w.heap.size w W → _) := fun W hW => hI W (hM.later hW) (hT.later hW)
    have HE : Hid (∀ W, _) := fun W => eqCurve_bel x y z W
    clear hT hM hS hI
    go_enter Tryd.func4, Tryd.ntmps4
    go_wp2_with fail
    refine (HS.out _ (Below.refl _ _)).mono ?_
    rintro e w1 ⟨rfl, hb1⟩
    have HB1 := Lib.hid hb1
    clear hb1
    go_wp2_with fail
    refine (HI.out _ (belAlloc HB1.out _)).mono ?_
    rintro e w2 ⟨rfl, hb2⟩
    have HB2 := Lib.hid (belNext (belAlloc HB1.out _) hb2)
    obtain ⟨kz, k0, k1, k2⟩ := isCrvB hb2
    clear hb2
    go_wp2_with fail
    refine (HE.out _).mono ?_
    rintro e w3 ⟨rfl, hb3⟩
    have HB3 := Lib.hid (belNext (belAlloc HB2.out _) hb3)
    clear hb3 kz k0 k1 k2
    go_wp2_with fail
    go_ret
    exact ⟨rfl, HB3.out⟩
end Go.Proofs.YtnfkepngjbjeoaaDoor
