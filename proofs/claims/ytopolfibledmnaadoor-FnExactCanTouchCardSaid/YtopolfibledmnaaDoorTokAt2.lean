/-
  The token behind space: tkAt of the reference, TokenAt of both; the walk of FnExactTokenAt.
-/
import Derived.Test.YtopolfibledmnaaDoorTokAt
import Derived.Test.YtopolfibledmnaaDoorTokenS
namespace Go.Proofs.YtopolfibledmnaaDoor
open Go.RowKit
theorem eqFault_tk (k a : Int) (w : World) :
    Calls Tryd.prog 21 #[.agg #[.int .i64 k, .int .i64 a], .agg #[.int .i64 k, .int .i64 a]] w fun e w' => e = .returned (.bool true) ∧ Below w.heap.size w w' := by
  go_enter Tryd.func21, Tryd.ntmps21
  go_wp2
  go_ret
  exact ⟨rfl, by (repeat refine belAlloc ?_ _); exact Below.refl _ _⟩
/-- The two result blocks of a call, a token and a fault, as they were made. -/
structure ResB (w W : World) : Prop where
  r0 : W.cell? ⟨w.heap.size, 0, none⟩ = some (.int .i64 0)
  r1 : W.cell? ⟨w.heap.size, 1, none⟩ = some (.int .i64 0)
  r2 : W.cell? ⟨w.heap.size, 2, none⟩ = some (.string ⟨#[]⟩)
  r3 : W.cell? ⟨w.heap.size, 3, none⟩ = some (.int .i64 0)
  q0 : W.cell? ⟨w.heap.size + 1, 0, none⟩ = some (.int .i64 0)
  q1 : W.cell? ⟨w.heap.size + 1, 1, none⟩ = some (.int .i64 0)
  f0 : W.frozen? ⟨w.heap.size, 0, none⟩ = false
  f1 : W.frozen? ⟨w.heap.size, 1, none⟩ = false
  f2 : W.frozen? ⟨w.heap.size, 2, none⟩ = false
  f3 : W.frozen? ⟨w.heap.size, 3, none⟩ = false
  g0 : W.frozen? ⟨w.heap.size + 1, 0, none⟩ = false
  g1 : W.frozen? ⟨w.heap.size + 1, 1, none⟩ = false
  sz : w.heap.size + 1 < W.heap.size
  sz0 : w.heap.size < W.heap.size
theorem resB {w W : World} {t u : TypeId} (hb : Below ((w.alloc (.cells #[.int .i64 0, .int .i64 0, .string ⟨#[]⟩, .int .i64 0] t)).alloc (.cells #[.int .i64 0, .int .i64 0] u)).heap.size ((w.alloc (.cells #[.int .i64 0, .int .i64 0, .string ⟨#[]⟩, .int .i64 0] t)).alloc (.cells #[.int .i64 0, .int .i64 0] u)) W) : ResB w W := by
  obtain ⟨hc, hf⟩ := bcell hb
  have hs := hb.size
  simp at hs
  constructor
  all_goals first
    | exact (hc _ _ (by simp <;> omega)).trans (by simp [go_sem])
    | exact (hf _ _ (by simp <;> omega)).trans (by simp [go_sem])
    | omega
/-- What stands at a, space skipped. -/
def atOut (s : ByteArray) (a : Nat) : Value := if skp s a < s.size then rdOut s (skp s a) else .tuple #[.agg #[.int .i64 0, .int .i64 0, .string ⟨#[]⟩, .int .i64 0], .int .i64 (skp s a), .agg #[.int .i64 0, .int .i64 0]]
theorem skp_le (s : ByteArray) {a : Nat} (h : a ≤ s.size) : skp s a ≤ s.size := by
  rw [skp]
  split
  · split
    · exact skp_le s (by omega)
    · split
      · exact skp_le s (by omega)
      · split
        · exact skp_le s (cmEnd_le s (by omega))
        · exact h
  · exact h
termination_by s.size - a
decreasing_by
  all_goals (try have := cmEnd_ge s (a + 1)); omega
theorem rd_make {s : ByteArray} {a : Nat} (h : (tkT s a).size ≠ 0) (hf : mkF (tkT s a) = 0) : rdOut s a = .tuple #[.agg #[.int .i64 (mkK (tkT s a)), .int .i64 a, .string (tkT s a), .int .i64 (mkV (tkT s a))], .int .i64 ((a : Int) + ((tkT s a).size : Int)), .agg #[.int .i64 0, .int .i64 0]] :=
  rdOut_yes (by rw [rdF, if_neg h]; exact hf) rfl rfl rfl
theorem rd_fault {s : ByteArray} {a : Nat} (h : (tkT s a).size ≠ 0) (hf : mkF (tkT s a) ≠ 0) : rdOut s a = .tuple #[.agg #[.int .i64 0, .int .i64 0, .string ⟨#[]⟩, .int .i64 0], .int .i64 a, .agg #[.int .i64 (mkF (tkT s a)), .int .i64 a]] :=
  rdOut_no (by rw [rdF, if_neg h]) hf
set_option maxHeartbeats 800000 in
theorem tkAt_end (s : ByteArray) (a : Nat) (w : World) (hs : s.size ≤ 4000) (ha : a ≤ s.size) (h : ¬ skp s a < s.size) :
    Calls Tryd.prog 48 #[.string s, .int .i64 a] w fun e w' => e = .returned (atOut s a) ∧ Below w.heap.size w w' := by
  have HK := Lib.hid (fun W => tkSkip_any s a W hs ha)
  have hle := skp_le s ha
  have HR : Hid (atOut s a = .tuple #[.agg #[.int .i64 0, .int .i64 0, .string ⟨#[]⟩, .int .i64 0], .int .i64 (skp s a), .agg #[.int .i64 0, .int .i64 0]]) := Lib.hid (by rw [atOut, if_neg h])
  generalize skp s a = p at *
  have hq : ((p : Int) == (s.size : Int)) = true := by simp; omega
  have hq2 : (p == s.size) = true := by simp; omega
  go_enter Tryd.func48, Tryd.ntmps48
  go_wp2_with fail
  refine (HK.out _).mono ?_
  rintro e w1 ⟨rfl, rfl⟩
  go_wp2_with fail
  exact bodyPost_ret (v := .tuple #[.agg #[.int .i64 0, .int .i64 0, .string ⟨#[]⟩, .int .i64 0], .int .i64 p, .agg #[.int .i64 0, .int .i64 0]]) (by simp [results, Tryd.results48, go_sem]) rfl ⟨by rw [HR.out], by repeat (first | (with_reducible exact Below.refl _ _) | refine Below.setCell ?_ (by simp) _ | refine belAlloc ?_ _)⟩
set_option maxHeartbeats 800000 in
theorem tkAt_none (s : ByteArray) (a : Nat) (w : World) (hs : s.size ≤ 4000) (ha : a ≤ s.size) (h : skp s a < s.size) (hg : ¬ sgI s (skp s a) < 6) (hal : alB (byt s (skp s a)) = false) :
    Calls Tryd.prog 48 #[.string s, .int .i64 a] w fun e w' => e = .returned (atOut s a) ∧ Below w.heap.size w w' := by
  have HK := Lib.hid (fun W => tkSkip_any s a W hs ha)
  have HA : Hid (atOut s a = rdOut s (skp s a)) := Lib.hid (by rw [atOut, if_pos h])
  have HS := Lib.hid (fun W => tkSign_any s (skp s a) W (by omega) (by omega))
  rw [sgn_none (by have := sgI_le s (skp s a); omega)] at HS
  have HN := Lib.hid (fun W => tkRun_any s (skp s a) W (by omega) (by omega))
  have HR := Lib.hid (HA.out.trans (rdOut_no (rd_none h hg hal) (by decide)))
  have hre : run s (skp s a) = ⟨#[]⟩ := by
    have h1 := run_size (s := s) (a := skp s a) (by omega)
    rw [alEnd_none hal, Nat.sub_self] at h1
    exact ByteArray.ext (by apply Array.eq_empty_of_size_eq_zero; exact h1)
  rw [hre] at HN
  clear hre hg hal HA
  generalize skp s a = p at *
  have hq : ((p : Int) == (s.size : Int)) = false := by simp; omega
  have hq2 : (p == s.size) = false := by simp; omega
  go_enter Tryd.func48, Tryd.ntmps48
  go_wp2_with fail
  refine (HK.out _).mono ?_
  rintro e w1 ⟨rfl, rfl⟩
  go_wp2_with fail
  refine (HS.out _).mono ?_
  rintro e w2 ⟨rfl, hb2⟩
  have HB2 := Lib.hid hb2
  have R2 := resB hb2
  obtain ⟨a0, a1, a2, a3, b0, b1, c0, c1, c2, c3, d0, d1, hz, hzz⟩ := R2
  clear hb2
  go_wp2_with fail
  refine (HN.out _).mono ?_
  rintro e w3 ⟨rfl, rfl⟩
  have HB := Lib.hid (belNext (belAlloc (belAlloc (Below.refl _ w) _) _) HB2.out)
  have R := resB HB2.out
  go_wp2_with fail
  exact bodyPost_ret (v := .tuple #[.agg #[.int .i64 0, .int .i64 0, .string ⟨#[]⟩, .int .i64 0], .int .i64 p, .agg #[.int .i64 1, .int .i64 p]]) (by simp [results, Tryd.results48, go_sem, R.r0, R.r1, R.r2, R.r3, R.q0, R.q1]) rfl ⟨by rw [HR.out], by repeat (first | (with_reducible exact HB.out) | (with_reducible refine belAlloc ?_ _) | (with_reducible refine Below.setCell ?_ (by simp) _))⟩
set_option maxHeartbeats 800000 in
theorem tkAt_sign_ok (s : ByteArray) (a : Nat) (w : World) (hs : s.size ≤ 4000) (ha : a ≤ s.size) (h : skp s a < s.size) (hg : sgI s (skp s a) < 6) (hf : mkF (tkT s (skp s a)) = 0) :
    Calls Tryd.prog 48 #[.string s, .int .i64 a] w fun e w' => e = .returned (atOut s a) ∧ Below w.heap.size w w' := by
  have HK := Lib.hid (fun W => tkSkip_any s a W hs ha)
  have HA : Hid (atOut s a = rdOut s (skp s a)) := Lib.hid (by rw [atOut, if_pos h])
  have HS := Lib.hid (fun W => tkSign_any s (skp s a) W (by omega) (by omega))
  have het : tkT s (skp s a) = sgn s (skp s a) := by rw [tkT, if_pos hg]
  have hz0 := (sign_size hg).1
  change 1 ≤ (sgn s (skp s a)).size at hz0
  have hfit := tkT_fits (s := s) (a := skp s a) (by omega)
  have HR := Lib.hid (HA.out.trans (rd_make (by rw [het]; omega) hf))
  rw [het] at HR hf hfit
  generalize sgn s (skp s a) = t at *
  have HM : Hid (∀ a W, _) := fun a W => (tkMake_any t a W (by omega) (by omega))
  have hmo : ∀ a, mkOut t a = _ := fun a => mkOut_yes (t := t) (a := a) hf rfl rfl
  simp only [hmo] at HM
  generalize mkK t = kk at *
  generalize mkV t = vv at *
  have hemp := empty_no (t := t) (by omega)
  clear hmo hf het HA hg
  generalize skp s a = p at *
  have hq : ((p : Int) == (s.size : Int)) = false := by simp; omega
  have hq2 : (p == s.size) = false := by simp; omega
  go_enter Tryd.func48, Tryd.ntmps48
  go_wp2_with fail
  refine (HK.out _).mono ?_
  rintro e w1 ⟨rfl, rfl⟩
  go_wp2_with fail
  refine (HS.out _).mono ?_
  rintro e w2 ⟨rfl, hb2⟩
  have HB2 := Lib.hid hb2
  have R2 := resB hb2
  obtain ⟨a0, a1, a2, a3, b0, b1, c0, c1, c2, c3, d0, d1, hz, hzz⟩ := R2
  clear hb2
  go_wp2_with fail
  refine (HM.out _ _).mono ?_
  rintro e w4 ⟨rfl, hb4⟩
  have HB4 := Lib.hid (belNext HB2.out hb4)
  have HB := Lib.hid (belNext (belAlloc (belAlloc (Below.refl _ w) _) _) HB4.out)
  have R := resB HB4.out
  clear hb4 a0 a1 a2 a3 b0 b1 c0 c1 c2 c3 d0 d1 hz hzz
  obtain ⟨a0, a1, a2, a3, b0, b1, c0, c1, c2, c3, d0, d1, hz, hzz⟩ := resB HB4.out
  go_wp2_with fail
  exact bodyPost_ret (v := .tuple #[.agg #[.int .i64 kk, .int .i64 p, .string t, .int .i64 vv], .int .i64 ((p : Int) + (t.size : Int)), .agg #[.int .i64 0, .int .i64 0]]) (by simp [results, Tryd.results48, go_sem, R.r0, R.r1, R.r2, R.r3, R.q0, R.q1, R.sz, R.sz0]) rfl ⟨by rw [HR.out], by repeat (first | (with_reducible exact HB.out) | (with_reducible refine belAlloc ?_ _) | (with_reducible refine Below.setCell ?_ (by simp) _))⟩
set_option maxHeartbeats 800000 in
theorem tkAt_sign_bad (s : ByteArray) (a : Nat) (w : World) (hs : s.size ≤ 4000) (ha : a ≤ s.size) (h : skp s a < s.size) (hg : sgI s (skp s a) < 6) (hf : mkF (tkT s (skp s a)) ≠ 0) :
    Calls Tryd.prog 48 #[.string s, .int .i64 a] w fun e w' => e = .returned (atOut s a) ∧ Below w.heap.size w w' := by
  have HK := Lib.hid (fun W => tkSkip_any s a W hs ha)
  have HA : Hid (atOut s a = rdOut s (skp s a)) := Lib.hid (by rw [atOut, if_pos h])
  have HS := Lib.hid (fun W => tkSign_any s (skp s a) W (by omega) (by omega))
  have het : tkT s (skp s a) = sgn s (skp s a) := by rw [tkT, if_pos hg]
  have hz0 := (sign_size hg).1
  change 1 ≤ (sgn s (skp s a)).size at hz0
  have hfit := tkT_fits (s := s) (a := skp s a) (by omega)
  have HR := Lib.hid (HA.out.trans (rd_fault (by rw [het]; omega) hf))
  rw [het] at HR hf hfit
  generalize sgn s (skp s a) = t at *
  have HM : Hid (∀ a W, _) := fun a W => (tkMake_any t a W (by omega) (by omega))
  have hmo : ∀ a, mkOut t a = _ := fun a => mkOut_no (t := t) (a := a) rfl hf
  simp only [hmo] at HM
  generalize mkF t = ff at *
  have hff : (ff == 0) = false := by simpa using hf
  have hemp := empty_no (t := t) (by omega)
  clear hmo hf het HA hg
  generalize skp s a = p at *
  have hq : ((p : Int) == (s.size : Int)) = false := by simp; omega
  have hq2 : (p == s.size) = false := by simp; omega
  go_enter Tryd.func48, Tryd.ntmps48
  go_wp2_with fail
  refine (HK.out _).mono ?_
  rintro e w1 ⟨rfl, rfl⟩
  go_wp2_with fail
  refine (HS.out _).mono ?_
  rintro e w2 ⟨rfl, hb2⟩
  have HB2 := Lib.hid hb2
  have R2 := resB hb2
  obtain ⟨a0, a1, a2, a3, b0, b1, c0, c1, c2, c3, d0, d1, hz, hzz⟩ := R2
  clear hb2
  go_wp2_with fail
  refine (HM.out _ _).mono ?_
  rintro e w4 ⟨rfl, hb4⟩
  have HB4 := Lib.hid (belNext HB2.out hb4)
  have HB := Lib.hid (belNext (belAlloc (belAlloc (Below.refl _ w) _) _) HB4.out)
  have R := resB HB4.out
  clear hb4 a0 a1 a2 a3 b0 b1 c0 c1 c2 c3 d0 d1 hz hzz
  obtain ⟨a0, a1, a2, a3, b0, b1, c0, c1, c2, c3, d0, d1, hz, hzz⟩ := resB HB4.out
  go_wp2_with fail
  exact bodyPost_ret (v := .tuple #[.agg #[.int .i64 0, .int .i64 0, .string ⟨#[]⟩, .int .i64 0], .int .i64 p, .agg #[.int .i64 ff, .int .i64 p]]) (by simp [results, Tryd.results48, go_sem, R.r0, R.r1, R.r2, R.r3, R.q0, R.q1, R.sz, R.sz0]) rfl ⟨by rw [HR.out], by repeat (first | (with_reducible exact HB.out) | (with_reducible refine belAlloc ?_ _) | (with_reducible refine Below.setCell ?_ (by simp) _))⟩
set_option maxHeartbeats 800000 in
theorem tkAt_run_ok (s : ByteArray) (a : Nat) (w : World) (hs : s.size ≤ 4000) (ha : a ≤ s.size) (h : skp s a < s.size) (hg : ¬ sgI s (skp s a) < 6) (hal : alB (byt s (skp s a)) = true) (hf : mkF (tkT s (skp s a)) = 0) :
    Calls Tryd.prog 48 #[.string s, .int .i64 a] w fun e w' => e = .returned (atOut s a) ∧ Below w.heap.size w w' := by
  have HK := Lib.hid (fun W => tkSkip_any s a W hs ha)
  have HA : Hid (atOut s a = rdOut s (skp s a)) := Lib.hid (by rw [atOut, if_pos h])
  have HS := Lib.hid (fun W => tkSign_any s (skp s a) W (by omega) (by omega))
  rw [sgn_none (by have := sgI_le s (skp s a); omega)] at HS
  have HN := Lib.hid (fun W => tkRun_any s (skp s a) W (by omega) (by omega))
  have het : tkT s (skp s a) = run s (skp s a) := by rw [tkT, if_neg hg]
  have hz0 : 1 ≤ (run s (skp s a)).size := (run_byte h hal).2
  have hfit := tkT_fits (s := s) (a := skp s a) (by omega)
  have HR := Lib.hid (HA.out.trans (rd_make (by rw [het]; omega) hf))
  rw [het] at HR hf hfit
  generalize run s (skp s a) = t at *
  have HM : Hid (∀ a W, _) := fun a W => (tkMake_any t a W (by omega) (by omega))
  have hmo : ∀ a, mkOut t a = _ := fun a => mkOut_yes (t := t) (a := a) hf rfl rfl
  simp only [hmo] at HM
  generalize mkK t = kk at *
  generalize mkV t = vv at *
  have hemp := empty_no (t := t) (by omega)
  clear hmo hf het HA hal hg
  generalize skp s a = p at *
  have hq : ((p : Int) == (s.size : Int)) = false := by simp; omega
  have hq2 : (p == s.size) = false := by simp; omega
  go_enter Tryd.func48, Tryd.ntmps48
  go_wp2_with fail
  refine (HK.out _).mono ?_
  rintro e w1 ⟨rfl, rfl⟩
  go_wp2_with fail
  refine (HS.out _).mono ?_
  rintro e w2 ⟨rfl, hb2⟩
  have HB2 := Lib.hid hb2
  have R2 := resB hb2
  obtain ⟨a0, a1, a2, a3, b0, b1, c0, c1, c2, c3, d0, d1, hz, hzz⟩ := R2
  clear hb2
  go_wp2_with fail
  refine (HN.out _).mono ?_
  rintro e w3 ⟨rfl, rfl⟩
  go_wp2_with fail
  refine (HM.out _ _).mono ?_
  rintro e w4 ⟨rfl, hb4⟩
  have HB4 := Lib.hid (belNext HB2.out hb4)
  have HB := Lib.hid (belNext (belAlloc (belAlloc (Below.refl _ w) _) _) HB4.out)
  have R := resB HB4.out
  clear hb4 a0 a1 a2 a3 b0 b1 c0 c1 c2 c3 d0 d1 hz hzz
  obtain ⟨a0, a1, a2, a3, b0, b1, c0, c1, c2, c3, d0, d1, hz, hzz⟩ := resB HB4.out
  go_wp2_with fail
  exact bodyPost_ret (v := .tuple #[.agg #[.int .i64 kk, .int .i64 p, .string t, .int .i64 vv], .int .i64 ((p : Int) + (t.size : Int)), .agg #[.int .i64 0, .int .i64 0]]) (by simp [results, Tryd.results48, go_sem, R.r0, R.r1, R.r2, R.r3, R.q0, R.q1, R.sz, R.sz0]) rfl ⟨by rw [HR.out], by repeat (first | (with_reducible exact HB.out) | (with_reducible refine belAlloc ?_ _) | (with_reducible refine Below.setCell ?_ (by simp) _))⟩
set_option maxHeartbeats 800000 in
theorem tkAt_run_bad (s : ByteArray) (a : Nat) (w : World) (hs : s.size ≤ 4000) (ha : a ≤ s.size) (h : skp s a < s.size) (hg : ¬ sgI s (skp s a) < 6) (hal : alB (byt s (skp s a)) = true) (hf : mkF (tkT s (skp s a)) ≠ 0) :
    Calls Tryd.prog 48 #[.string s, .int .i64 a] w fun e w' => e = .returned (atOut s a) ∧ Below w.heap.size w w' := by
  have HK := Lib.hid (fun W => tkSkip_any s a W hs ha)
  have HA : Hid (atOut s a = rdOut s (skp s a)) := Lib.hid (by rw [atOut, if_pos h])
  have HS := Lib.hid (fun W => tkSign_any s (skp s a) W (by omega) (by omega))
  rw [sgn_none (by have := sgI_le s (skp s a); omega)] at HS
  have HN := Lib.hid (fun W => tkRun_any s (skp s a) W (by omega) (by omega))
  have het : tkT s (skp s a) = run s (skp s a) := by rw [tkT, if_neg hg]
  have hz0 : 1 ≤ (run s (skp s a)).size := (run_byte h hal).2
  have hfit := tkT_fits (s := s) (a := skp s a) (by omega)
  have HR := Lib.hid (HA.out.trans (rd_fault (by rw [het]; omega) hf))
  rw [het] at HR hf hfit
  generalize run s (skp s a) = t at *
  have HM : Hid (∀ a W, _) := fun a W => (tkMake_any t a W (by omega) (by omega))
  have hmo : ∀ a, mkOut t a = _ := fun a => mkOut_no (t := t) (a := a) rfl hf
  simp only [hmo] at HM
  generalize mkF t = ff at *
  have hff : (ff == 0) = false := by simpa using hf
  have hemp := empty_no (t := t) (by omega)
  clear hmo hf het HA hal hg
  generalize skp s a = p at *
  have hq : ((p : Int) == (s.size : Int)) = false := by simp; omega
  have hq2 : (p == s.size) = false := by simp; omega
  go_enter Tryd.func48, Tryd.ntmps48
  go_wp2_with fail
  refine (HK.out _).mono ?_
  rintro e w1 ⟨rfl, rfl⟩
  go_wp2_with fail
  refine (HS.out _).mono ?_
  rintro e w2 ⟨rfl, hb2⟩
  have HB2 := Lib.hid hb2
  have R2 := resB hb2
  obtain ⟨a0, a1, a2, a3, b0, b1, c0, c1, c2, c3, d0, d1, hz, hzz⟩ := R2
  clear hb2
  go_wp2_with fail
  refine (HN.out _).mono ?_
  rintro e w3 ⟨rfl, rfl⟩
  go_wp2_with fail
  refine (HM.out _ _).mono ?_
  rintro e w4 ⟨rfl, hb4⟩
  have HB4 := Lib.hid (belNext HB2.out hb4)
  have HB := Lib.hid (belNext (belAlloc (belAlloc (Below.refl _ w) _) _) HB4.out)
  have R := resB HB4.out
  clear hb4 a0 a1 a2 a3 b0 b1 c0 c1 c2 c3 d0 d1 hz hzz
  obtain ⟨a0, a1, a2, a3, b0, b1, c0, c1, c2, c3, d0, d1, hz, hzz⟩ := resB HB4.out
  go_wp2_with fail
  exact bodyPost_ret (v := .tuple #[.agg #[.int .i64 0, .int .i64 0, .string ⟨#[]⟩, .int .i64 0], .int .i64 p, .agg #[.int .i64 ff, .int .i64 p]]) (by simp [results, Tryd.results48, go_sem, R.r0, R.r1, R.r2, R.r3, R.q0, R.q1, R.sz, R.sz0]) rfl ⟨by rw [HR.out], by repeat (first | (with_reducible exact HB.out) | (with_reducible refine belAlloc ?_ _) | (with_reducible refine Below.setCell ?_ (by simp) _))⟩
theorem tkAt_any (s : ByteArray) (a : Nat) (w : World) (hs : s.size ≤ 4000) (ha : a ≤ s.size) :
    Calls Tryd.prog 48 #[.string s, .int .i64 a] w fun e w' => e = .returned (atOut s a) ∧ Below w.heap.size w w' := by
  by_cases h : skp s a < s.size
  · by_cases hg : sgI s (skp s a) < 6
    · by_cases hf : mkF (tkT s (skp s a)) = 0
      · exact tkAt_sign_ok s a w hs ha h hg hf
      · exact tkAt_sign_bad s a w hs ha h hg hf
    · cases hal : alB (byt s (skp s a)) with
      | false => exact tkAt_none s a w hs ha h hg hal
      | true =>
        by_cases hf : mkF (tkT s (skp s a)) = 0
        · exact tkAt_run_ok s a w hs ha h hg hal hf
        · exact tkAt_run_bad s a w hs ha h hg hal hf
  · exact tkAt_end s a w hs ha h
end Go.Proofs.YtopolfibledmnaaDoor
