/-
  One token: tkMake, tkAt and readToken, walked once each; both sides return the plain rdOut.
-/
import Derived.Test.YtopolfibledmnaaDoorTokWalk
import Derived.Test.YtopolfibledmnaaDoorDec
namespace Go.Proofs.YtopolfibledmnaaDoor
open Go.RowKit
def mkOut (t : ByteArray) (a : Int) : Value := if mkF t = 0 then .tuple #[.agg #[.int .i64 (mkK t), .int .i64 a, .string t, .int .i64 (mkV t)], .int .i64 0] else .tuple #[.agg #[.int .i64 0, .int .i64 0, .string ⟨#[]⟩, .int .i64 0], .int .i64 (mkF t)]
theorem mkOut_no {t : ByteArray} {a f : Int} (h : mkF t = f) (h0 : f ≠ 0) : mkOut t a = .tuple #[.agg #[.int .i64 0, .int .i64 0, .string ⟨#[]⟩, .int .i64 0], .int .i64 f] := by
  rw [mkOut, if_neg (by omega), h]
theorem mkOut_yes {t : ByteArray} {a k v : Int} (h : mkF t = 0) (hk : mkK t = k) (hv : mkV t = v) : mkOut t a = .tuple #[.agg #[.int .i64 k, .int .i64 a, .string t, .int .i64 v], .int .i64 0] := by
  rw [mkOut, if_pos h, hk, hv]
set_option maxHeartbeats 2000000 in
theorem tkMake_any (t : ByteArray) (a : Int) (w : World) (hs : t.size ≤ 1048576) (h0 : 0 < t.size) :
    Calls Tryd.prog 64 #[.string t, .int .i64 a] w fun e w' => e = .returned (mkOut t a) ∧ Below w.heap.size w w' := by
  have hbe := byt_eq h0
  cases hsm : smB (byt t 0) with
  | true =>
    have HL : Hid (smB (t[0].toNat : Int) = true) := by rw [← hbe]; exact hsm
    have HW := Lib.hid (fun W => tkWord_any t W hs)
    cases hw : wdB t with
    | false =>
      have HR := Lib.hid (mkOut_no (t := t) (a := a) (f := 7) (by rw [mkF, hsm, hw]; rfl) (by decide))
      rw [hw] at HW
      clear hw hsm hbe
      go_enter Tryd.func64, Tryd.ntmps64
      go_wp2_with (first | (go_at_call 77; refine (tkLetter_yes _ _ HL.out).mono ?_; rintro e w1 ⟨rfl, rfl⟩) | (go_at_call 78; refine (HW.out _).mono ?_; rintro e w1 ⟨rfl, rfl⟩))
      exact bodyPost_ret (v := .tuple #[.agg #[.int .i64 0, .int .i64 0, .string ⟨#[]⟩, .int .i64 0], .int .i64 7]) (by simp [results, Tryd.results64, go_sem]) rfl ⟨by rw [HR.out], by (repeat refine belAlloc ?_ _); exact Below.refl _ _⟩
    | true =>
      have HK := Lib.hid (fun W => specIsKey_any t W)
      cases hh : hasS keyNs t with
      | true =>
        have HR := Lib.hid (mkOut_yes (t := t) (a := a) (k := 1) (v := 0) (by rw [mkF, hsm, hw]; rfl) (by rw [mkK, hsm, hh]; rfl) (by rw [mkV, hsm]; rfl))
        rw [hw] at HW
        rw [hh] at HK
        clear hw hsm hbe hh
        go_enter Tryd.func64, Tryd.ntmps64
        go_wp2_with (first | (go_at_call 77; refine (tkLetter_yes _ _ HL.out).mono ?_; rintro e w1 ⟨rfl, rfl⟩) | (go_at_call 78; refine (HW.out _).mono ?_; rintro e w1 ⟨rfl, rfl⟩) | (go_at_call 12; refine (HK.out _).mono ?_; rintro e w1 ⟨rfl, rfl⟩))
        exact bodyPost_ret (v := .tuple #[.agg #[.int .i64 1, .int .i64 a, .string t, .int .i64 0], .int .i64 0]) (by simp [results, Tryd.results64, go_sem]) rfl ⟨by rw [HR.out], by repeat (first | exact Below.refl _ _ | assumption | refine Below.alloc ?_ (by simp; try omega) _ | refine Below.setCell ?_ (by simp; try omega) _ | refine Below.drew ?_)⟩
      | false =>
        have HR := Lib.hid (mkOut_yes (t := t) (a := a) (k := 2) (v := 0) (by rw [mkF, hsm, hw]; rfl) (by rw [mkK, hsm, hh]; rfl) (by rw [mkV, hsm]; rfl))
        rw [hw] at HW
        rw [hh] at HK
        clear hw hsm hbe hh
        go_enter Tryd.func64, Tryd.ntmps64
        go_wp2_with (first | (go_at_call 77; refine (tkLetter_yes _ _ HL.out).mono ?_; rintro e w1 ⟨rfl, rfl⟩) | (go_at_call 78; refine (HW.out _).mono ?_; rintro e w1 ⟨rfl, rfl⟩) | (go_at_call 12; refine (HK.out _).mono ?_; rintro e w1 ⟨rfl, rfl⟩))
        exact bodyPost_ret (v := .tuple #[.agg #[.int .i64 2, .int .i64 a, .string t, .int .i64 0], .int .i64 0]) (by simp [results, Tryd.results64, go_sem]) rfl ⟨by rw [HR.out], by repeat (first | exact Below.refl _ _ | assumption | refine Below.alloc ?_ (by simp; try omega) _ | refine Below.setCell ?_ (by simp; try omega) _ | refine Below.drew ?_)⟩
  | false =>
    have HL : Hid (smB (t[0].toNat : Int) = false) := by rw [← hbe]; exact hsm
    cases hal : alB (byt t 0) with
    | false =>
      have HM : Hid (alB (t[0].toNat : Int) = false) := by rw [← hbe]; exact hal
      have hd := (alB_not hal).2
      have HR := Lib.hid (mkOut_yes (t := t) (a := a) (k := 4) (v := 0) (by rw [mkF, hsm, hd]; rfl) (by rw [mkK, hsm, hd]; rfl) (by rw [mkV, hsm, hd]; rfl))
      clear hsm hbe hal hd
      go_enter Tryd.func64, Tryd.ntmps64
      go_wp2_with (first | (go_at_call 77; refine (tkLetter_no _ _ HL.out).mono ?_; rintro e w1 ⟨rfl, rfl⟩) | (go_at_call 76; refine (tkMark_no _ _ HM.out).mono ?_; rintro e w1 ⟨rfl, rfl⟩))
      exact bodyPost_ret (v := .tuple #[.agg #[.int .i64 4, .int .i64 a, .string t, .int .i64 0], .int .i64 0]) (by simp [results, Tryd.results64, go_sem]) rfl ⟨by rw [HR.out], by repeat (first | exact Below.refl _ _ | assumption | refine Below.alloc ?_ (by simp; try omega) _ | refine Below.setCell ?_ (by simp; try omega) _ | refine Below.drew ?_)⟩
    | true =>
      have HM : Hid (alB (t[0].toNat : Int) = true) := by rw [← hbe]; exact hal
      have hd := alB_dig hal hsm
      have HA := Lib.hid (fun W => specReadAny_any t W hs)
      by_cases hx : raD t < 0
      · have HR := Lib.hid (mkOut_no (t := t) (a := a) (f := 3) (by rw [mkF, hsm, hd, if_pos hx]; rfl) (by decide))
        rw [outT_no hx] at HA
        clear hsm hbe hal hd hx
        go_enter Tryd.func64, Tryd.ntmps64
        go_wp2_with (first | (go_at_call 77; refine (tkLetter_no _ _ HL.out).mono ?_; rintro e w1 ⟨rfl, rfl⟩) | (go_at_call 76; refine (tkMark_yes _ _ HM.out).mono ?_; rintro e w1 ⟨rfl, rfl⟩) | fail)
        refine (HA.out _).mono ?_
        rintro e w1 ⟨rfl, hb⟩
        have HB := Lib.hid (belNext (belAlloc (belAlloc (Below.refl _ w) _) _) hb)
        obtain ⟨hc, hf⟩ := bcell hb
        have hsz := hb.size
        have r0 : w1.cell? ⟨w.heap.size, 0, none⟩ = some (.int .i64 0) := (hc _ _ (by simp <;> omega)).trans (by simp [go_sem])
        have r1 : w1.cell? ⟨w.heap.size, 1, none⟩ = some (.int .i64 0) := (hc _ _ (by simp <;> omega)).trans (by simp [go_sem])
        have r2 : w1.cell? ⟨w.heap.size, 2, none⟩ = some (.string ⟨#[]⟩) := (hc _ _ (by simp <;> omega)).trans (by simp [go_sem])
        have r3 : w1.cell? ⟨w.heap.size, 3, none⟩ = some (.int .i64 0) := (hc _ _ (by simp <;> omega)).trans (by simp [go_sem])
        simp at hsz
        clear hb
        go_wp2_with fail
        exact bodyPost_ret (v := .tuple #[.agg #[.int .i64 0, .int .i64 0, .string ⟨#[]⟩, .int .i64 0], .int .i64 3]) (by simp [results, Tryd.results64, go_sem, r0, r1, r2, r3]) rfl ⟨by rw [HR.out], by repeat (first | (with_reducible exact HB.out) | refine Below.setCell ?_ (by simp) _ | refine belAlloc ?_ _)⟩
      · have HR := Lib.hid (mkOut_yes (t := t) (a := a) (k := 3) (v := raD t) (by rw [mkF, hsm, hd, if_neg hx]; rfl) (by rw [mkK, hsm, hd]; rfl) (by rw [mkV, hsm, hd]; rfl))
        rw [outT_yes (by omega)] at HA
        generalize raD t = x at *
        clear hsm hbe hal hd
        go_enter Tryd.func64, Tryd.ntmps64
        go_wp2_with (first | (go_at_call 77; refine (tkLetter_no _ _ HL.out).mono ?_; rintro e w1 ⟨rfl, rfl⟩) | (go_at_call 76; refine (tkMark_yes _ _ HM.out).mono ?_; rintro e w1 ⟨rfl, rfl⟩) | fail)
        refine (HA.out _).mono ?_
        rintro e w1 ⟨rfl, hb⟩
        have HB := Lib.hid (belNext (belAlloc (belAlloc (Below.refl _ w) _) _) hb)
        obtain ⟨hc, hf⟩ := bcell hb
        have hsz := hb.size
        have r0 : w1.cell? ⟨w.heap.size, 0, none⟩ = some (.int .i64 0) := (hc _ _ (by simp <;> omega)).trans (by simp [go_sem])
        have r1 : w1.cell? ⟨w.heap.size, 1, none⟩ = some (.int .i64 0) := (hc _ _ (by simp <;> omega)).trans (by simp [go_sem])
        have r2 : w1.cell? ⟨w.heap.size, 2, none⟩ = some (.string ⟨#[]⟩) := (hc _ _ (by simp <;> omega)).trans (by simp [go_sem])
        have r3 : w1.cell? ⟨w.heap.size, 3, none⟩ = some (.int .i64 0) := (hc _ _ (by simp <;> omega)).trans (by simp [go_sem])
        simp at hsz
        clear hb
        go_wp2_with fail
        exact bodyPost_ret (v := .tuple #[.agg #[.int .i64 3, .int .i64 a, .string t, .int .i64 x], .int .i64 0]) (by simp [results, Tryd.results64, go_sem, r0, r1, r2, r3]) rfl ⟨by rw [HR.out], by repeat (first | (with_reducible exact HB.out) | refine Below.setCell ?_ (by simp) _ | refine belAlloc ?_ _)⟩
/-- The token at a, where no space begins, the index behind it and the fault. -/
def rdOut (s : ByteArray) (a : Nat) : Value :=
  if rdF s a = 0 then .tuple #[.agg #[.int .i64 (mkK (tkT s a)), .int .i64 a, .string (tkT s a), .int .i64 (mkV (tkT s a))], .int .i64 ((a : Int) + ((tkT s a).size : Int)), .agg #[.int .i64 0, .int .i64 0]]
  else .tuple #[.agg #[.int .i64 0, .int .i64 0, .string ⟨#[]⟩, .int .i64 0], .int .i64 a, .agg #[.int .i64 (rdF s a), .int .i64 a]]
theorem rdOut_no {s : ByteArray} {a : Nat} {f : Int} (h : rdF s a = f) (h0 : f ≠ 0) : rdOut s a = .tuple #[.agg #[.int .i64 0, .int .i64 0, .string ⟨#[]⟩, .int .i64 0], .int .i64 a, .agg #[.int .i64 f, .int .i64 a]] := by
  rw [rdOut, if_neg (by omega), h]
theorem rdOut_yes {s t : ByteArray} {a : Nat} {k v : Int} (h : rdF s a = 0) (ht : tkT s a = t) (hk : mkK t = k) (hv : mkV t = v) : rdOut s a = .tuple #[.agg #[.int .i64 k, .int .i64 a, .string t, .int .i64 v], .int .i64 ((a : Int) + (t.size : Int)), .agg #[.int .i64 0, .int .i64 0]] := by
  rw [rdOut, if_pos h, ht, hk, hv]
theorem run_byte {s : ByteArray} {a : Nat} (h : a < s.size) (hb : alB (byt s a) = true) : byt (run s a) 0 = byt s a ∧ 0 < (run s a).size := by
  have h1 := alEnd_one h hb
  have h2 := alEnd_ge s (a + 1)
  refine ⟨?_, by rw [run_size (by omega)]; omega⟩
  rw [run, byt_extract (by omega), Nat.add_zero]
theorem rd_run {s : ByteArray} {a : Nat} (h : a < s.size) (hg : ¬ sgI s a < 6) (hb : alB (byt s a) = true) : tkT s a = run s a ∧ rdF s a = mkF (run s a) := by
  have h1 := (run_byte h hb).2
  have e : tkT s a = run s a := by rw [tkT, if_neg hg]
  exact ⟨e, by rw [rdF, e, if_neg (by omega)]⟩
theorem rd_none {s : ByteArray} {a : Nat} (h : a < s.size) (hg : ¬ sgI s a < 6) (hb : alB (byt s a) = false) : rdF s a = 1 := by
  have e : tkT s a = run s a := by rw [tkT, if_neg hg]
  rw [rdF, e, run_size (by omega), alEnd_none hb, Nat.sub_self, if_pos rfl]
theorem rd_sign {s : ByteArray} {a : Nat} (hg : sgI s a < 6) : rdOut s a = .tuple #[.agg #[.int .i64 4, .int .i64 a, .string (sgn s a), .int .i64 0], .int .i64 ((a : Int) + ((sgn s a).size : Int)), .agg #[.int .i64 0, .int .i64 0]] := by
  have e : tkT s a = sgn s a := by rw [tkT, if_pos hg]
  obtain ⟨h1, h2, h3⟩ := mk_sign hg
  refine rdOut_yes ?_ e h2 h3
  rw [rdF, e, if_neg (by have := (sign_size hg).1; unfold sgn; omega)]
  exact h1
set_option maxHeartbeats 2000000 in
theorem readToken_any (s : ByteArray) (a : Nat) (w : World) (hs : s.size ≤ 1048576) (ha : a < s.size) (hK : TabS w 0 keyNs) (hG : TabS w 1 signNs) :
    Calls Tryd.prog 51 #[.string s, .int .i64 a] w fun e w' => e = .returned (rdOut s a) ∧ Below w.heap.size w w' := by
  have HS : Hid (∀ W, Below w.heap.size w W → _) := fun W hW => signAt_any s a W hs (by omega) (hG.later hW)
  by_cases hg : sgI s a < 6
  · have HR := Lib.hid (rd_sign hg)
    have hz := sign_size hg
    have hfit := sgn_fits hg (by omega)
    change 1 ≤ (sgn s a).size ∧ (sgn s a).size ≤ 2 at hz
    obtain ⟨hz1, hz2⟩ := hz
    generalize sgn s a = g at *
    have he := empty_no (t := g) (by omega)
    clear hg hK hG
    go_enter Tryd.func51, Tryd.ntmps51
    go_wp2_with fail
    refine (HS.out _ (by repeat (first | (with_reducible exact Below.refl _ _) | refine belAlloc ?_ _ | refine Below.setCell ?_ (by simp) _ | refine Below.drew ?_))).mono ?_
    rintro e w1 ⟨rfl, rfl⟩
    go_wp2_with fail
    exact bodyPost_ret (v := .tuple #[.agg #[.int .i64 4, .int .i64 a, .string g, .int .i64 0], .int .i64 ((a : Int) + (g.size : Int)), .agg #[.int .i64 0, .int .i64 0]]) (by simp [results, Tryd.results51, go_sem]) rfl ⟨by rw [HR.out], by repeat (first | exact Below.refl _ _ | assumption | refine Below.alloc ?_ (by simp; try omega) _ | refine Below.setCell ?_ (by simp; try omega) _ | refine Below.drew ?_)⟩
  have hbe := byt_eq ha
  rw [sgn_none (by have := sgI_le s a; omega)] at HS
  cases hal : alB (byt s a) with
  | false =>
    have HR := Lib.hid (rdOut_no (rd_none ha hg hal) (by decide))
    have HA : Hid (alB (s[a].toNat : Int) = false) := by rw [← hbe]; exact hal
    clear hg hal hbe hK hG
    go_enter Tryd.func51, Tryd.ntmps51
    go_wp2_with fail
    refine (HS.out _ (by repeat (first | (with_reducible exact Below.refl _ _) | refine belAlloc ?_ _ | refine Below.setCell ?_ (by simp) _ | refine Below.drew ?_))).mono ?_
    rintro e w1 ⟨rfl, rfl⟩
    go_wp2_with (go_at_call 72; refine (isAlnum_no _ _ HA.out).mono ?_; rintro e w1 ⟨rfl, rfl⟩)
    exact bodyPost_ret (v := .tuple #[.agg #[.int .i64 0, .int .i64 0, .string ⟨#[]⟩, .int .i64 0], .int .i64 a, .agg #[.int .i64 1, .int .i64 a]]) (by simp [results, Tryd.results51, go_sem]) rfl ⟨by rw [HR.out], by repeat (first | exact Below.refl _ _ | assumption | refine Below.alloc ?_ (by simp; try omega) _ | refine Below.setCell ?_ (by simp; try omega) _ | refine Below.drew ?_)⟩
  | true =>
    have HA : Hid (alB (s[a].toNat : Int) = true) := by rw [← hbe]; exact hal
    obtain ⟨ht, hf⟩ := rd_run ha hg hal
    obtain ⟨hb0, hrz⟩ := run_byte ha hal
    have hre := run_size (s := s) (a := a) (by omega)
    have HE := Lib.hid (alEnd_one ha hal)
    have hrs : (run s a).size ≤ 1048576 := by have := alEnd_le s (show a ≤ s.size by omega); omega
    have HX : Hid (∀ k, alEnd s (a + 1) = k → run s a = s.extract a k ∧ (a : Int) + ((run s a).size : Int) = k) := fun k hk => by
      have hle := alEnd_le s (show a ≤ s.size by omega)
      have hge := alEnd_ge s a
      have hkk : alEnd s a = k := HE.out.trans hk
      exact ⟨by rw [run, hkk], by omega⟩
    cases hsm : smB (byt s a) with
    | true =>
      have HSM : Hid (smB (s[a].toNat : Int) = true) := by rw [← hbe]; exact hsm
      have hsm' : smB (byt (run s a) 0) = true := by rw [hb0]; exact hsm
      cases hw : wdB (run s a) with
      | false =>
        have HC : Hid (∀ t W, t = run s a → Below w.heap.size w W → Calls Tryd.prog 45 #[.string t] W fun e w' => e = .returned (.int .i64 0) ∧ W = w') := fun t W h hW => by
          subst h
          have := wordKind_any (run s a) W hrs (hK.later hW)
          rwa [wkD, hw] at this
        have HR := Lib.hid (rdOut_no (s := s) (a := a) (f := 7) (by rw [hf, mkF, hsm', hw]; rfl) (by decide))
        clear hw hsm hsm'
        clear hal hbe hK hG hre hrs ht hf hb0 hrz
        go_enter Tryd.func51, Tryd.ntmps51
        go_wp2_with fail
        refine (HS.out _ (by repeat (first | (with_reducible exact Below.refl _ _) | refine belAlloc ?_ _ | refine Below.setCell ?_ (by simp) _ | refine Below.drew ?_))).mono ?_
        rintro e w1 ⟨rfl, rfl⟩
        go_wp2_with (go_at_call 72; refine (isAlnum_yes _ _ HA.out).mono ?_; rintro e w1 ⟨rfl, rfl⟩)
        go_loop [8] (fun i => ∃ k : Nat, a < k ∧ k ≤ s.size ∧ i = .int .i64 k ∧ alEnd s (a + 1) = alEnd s k) (fun i => s.size - (intOf i).toNat)
        case atStart => exact ⟨a + 1, by omega, by omega, by go_num, rfl⟩
        case round =>
          obtain ⟨k, hak, hk, rfl, hq⟩ := hrel
          have HQ := Lib.hid hq
          clear hq
          by_cases hlt : k < s.size
          · have hbk := byt_eq hlt
            cases hb : alB (byt s k) with
            | true =>
              have HN := Lib.hid (HQ.out.trans (alEnd_one hlt hb))
              rw [hbk] at hb
              have HB := Lib.hid hb
              clear hb hbk
              go_wp2_with (go_at_call 72; refine (isAlnum_yes _ _ HB.out).mono ?_; rintro e w1 ⟨rfl, rfl⟩)
              go_round
              case rel => exact ⟨k + 1, by omega, by omega, by go_num, HN.out⟩
              case measure => simp [intOf]; omega
            | false =>
              have HY := Lib.hid (HX.out k (HQ.out.trans (alEnd_none hb)))
              rw [hbk] at hb
              have HB := Lib.hid hb
              clear hb hbk
              have HV : Hid (rdOut s a = .tuple #[.agg #[.int .i64 0, .int .i64 0, .string ⟨#[]⟩, .int .i64 0], .int .i64 a, .agg #[.int .i64 7, .int .i64 a]]) := Lib.hid (by rw [HR.out])
              go_wp2_with (first | (go_at_call 72; refine (isAlnum_no _ _ HB.out).mono ?_; rintro e w1 ⟨rfl, rfl⟩) | (go_at_call 65; refine (isSmall_yes _ _ HSM.out).mono ?_; rintro e w1 ⟨rfl, rfl⟩) | (go_at_call 45; refine (HC.out _ _ HY.out.1.symm (by repeat (first | (with_reducible exact Below.refl _ _) | refine belAlloc ?_ _ | refine Below.setCell ?_ (by simp) _ | refine Below.drew ?_))).mono ?_; rintro e w1 ⟨rfl, rfl⟩))
              exact bodyPost_ret (v := .tuple #[.agg #[.int .i64 0, .int .i64 0, .string ⟨#[]⟩, .int .i64 0], .int .i64 a, .agg #[.int .i64 7, .int .i64 a]]) (by simp [results, Tryd.results51, go_sem]) rfl ⟨by rw [HV.out], by repeat (first | exact Below.refl _ _ | assumption | refine Below.alloc ?_ (by simp; try omega) _ | refine Below.setCell ?_ (by simp; try omega) _ | refine Below.drew ?_)⟩
          · have HY := Lib.hid (HX.out k (HQ.out.trans (by rw [alEnd, show s.size - k = 0 by omega]; rfl)))
            have hd : decide (k < s.size) = false := decide_eq_false hlt
            have HV : Hid (rdOut s a = .tuple #[.agg #[.int .i64 0, .int .i64 0, .string ⟨#[]⟩, .int .i64 0], .int .i64 a, .agg #[.int .i64 7, .int .i64 a]]) := Lib.hid (by rw [HR.out])
            go_wp2_with (first | (go_at_call 65; refine (isSmall_yes _ _ HSM.out).mono ?_; rintro e w1 ⟨rfl, rfl⟩) | (go_at_call 45; refine (HC.out _ _ HY.out.1.symm (by repeat (first | (with_reducible exact Below.refl _ _) | refine belAlloc ?_ _ | refine Below.setCell ?_ (by simp) _ | refine Below.drew ?_))).mono ?_; rintro e w1 ⟨rfl, rfl⟩))
            exact bodyPost_ret (v := .tuple #[.agg #[.int .i64 0, .int .i64 0, .string ⟨#[]⟩, .int .i64 0], .int .i64 a, .agg #[.int .i64 7, .int .i64 a]]) (by simp [results, Tryd.results51, go_sem]) rfl ⟨by rw [HV.out], by repeat (first | exact Below.refl _ _ | assumption | refine Below.alloc ?_ (by simp; try omega) _ | refine Below.setCell ?_ (by simp; try omega) _ | refine Below.drew ?_)⟩
      | true =>
        obtain ⟨kk, hkk, hk12⟩ : ∃ kk : Int, mkK (run s a) = kk ∧ (kk = 1 ∨ kk = 2) := by
          refine ⟨_, rfl, ?_⟩
          rw [mkK, hsm', if_pos rfl]
          cases hasS keyNs (run s a)
          · exact .inr rfl
          · exact .inl rfl
        have hkk0 : (kk == 0) = false := by simp; omega
        have HC : Hid (∀ t W, t = run s a → Below w.heap.size w W → Calls Tryd.prog 45 #[.string t] W fun e w' => e = .returned (.int .i64 kk) ∧ W = w') := fun t W h hW => by
          subst h
          have := wordKind_any (run s a) W hrs (hK.later hW)
          rw [wkD, hw, if_pos rfl] at this
          rw [mkK, hsm', if_pos rfl] at hkk
          rwa [hkk] at this
        have HR := Lib.hid (rdOut_yes (s := s) (a := a) (k := kk) (v := 0) (by rw [hf, mkF, hsm', hw]; rfl) ht hkk (by rw [mkV, hsm']; rfl))
        clear hw hsm hsm' hkk hk12
        clear hal hbe hK hG hre hrs ht hf hb0 hrz
        go_enter Tryd.func51, Tryd.ntmps51
        go_wp2_with fail
        refine (HS.out _ (by repeat (first | (with_reducible exact Below.refl _ _) | refine belAlloc ?_ _ | refine Below.setCell ?_ (by simp) _ | refine Below.drew ?_))).mono ?_
        rintro e w1 ⟨rfl, rfl⟩
        go_wp2_with (go_at_call 72; refine (isAlnum_yes _ _ HA.out).mono ?_; rintro e w1 ⟨rfl, rfl⟩)
        go_loop [8] (fun i => ∃ k : Nat, a < k ∧ k ≤ s.size ∧ i = .int .i64 k ∧ alEnd s (a + 1) = alEnd s k) (fun i => s.size - (intOf i).toNat)
        case atStart => exact ⟨a + 1, by omega, by omega, by go_num, rfl⟩
        case round =>
          obtain ⟨k, hak, hk, rfl, hq⟩ := hrel
          have HQ := Lib.hid hq
          clear hq
          by_cases hlt : k < s.size
          · have hbk := byt_eq hlt
            cases hb : alB (byt s k) with
            | true =>
              have HN := Lib.hid (HQ.out.trans (alEnd_one hlt hb))
              rw [hbk] at hb
              have HB := Lib.hid hb
              clear hb hbk
              go_wp2_with (go_at_call 72; refine (isAlnum_yes _ _ HB.out).mono ?_; rintro e w1 ⟨rfl, rfl⟩)
              go_round
              case rel => exact ⟨k + 1, by omega, by omega, by go_num, HN.out⟩
              case measure => simp [intOf]; omega
            | false =>
              have HY := Lib.hid (HX.out k (HQ.out.trans (alEnd_none hb)))
              rw [hbk] at hb
              have HB := Lib.hid hb
              clear hb hbk
              have HV : Hid (rdOut s a = .tuple #[.agg #[.int .i64 kk, .int .i64 a, .string (s.extract a k), .int .i64 0], .int .i64 k, .agg #[.int .i64 0, .int .i64 0]]) := Lib.hid (by rw [HR.out]; rw [HY.out.2, HY.out.1])
              go_wp2_with (first | (go_at_call 72; refine (isAlnum_no _ _ HB.out).mono ?_; rintro e w1 ⟨rfl, rfl⟩) | (go_at_call 65; refine (isSmall_yes _ _ HSM.out).mono ?_; rintro e w1 ⟨rfl, rfl⟩) | (go_at_call 45; refine (HC.out _ _ HY.out.1.symm (by repeat (first | (with_reducible exact Below.refl _ _) | refine belAlloc ?_ _ | refine Below.setCell ?_ (by simp) _ | refine Below.drew ?_))).mono ?_; rintro e w1 ⟨rfl, rfl⟩))
              exact bodyPost_ret (v := .tuple #[.agg #[.int .i64 kk, .int .i64 a, .string (s.extract a k), .int .i64 0], .int .i64 k, .agg #[.int .i64 0, .int .i64 0]]) (by simp [results, Tryd.results51, go_sem]) rfl ⟨by rw [HV.out], by repeat (first | exact Below.refl _ _ | assumption | refine Below.alloc ?_ (by simp; try omega) _ | refine Below.setCell ?_ (by simp; try omega) _ | refine Below.drew ?_)⟩
          · have HY := Lib.hid (HX.out k (HQ.out.trans (by rw [alEnd, show s.size - k = 0 by omega]; rfl)))
            have hd : decide (k < s.size) = false := decide_eq_false hlt
            have HV : Hid (rdOut s a = .tuple #[.agg #[.int .i64 kk, .int .i64 a, .string (s.extract a k), .int .i64 0], .int .i64 k, .agg #[.int .i64 0, .int .i64 0]]) := Lib.hid (by rw [HR.out]; rw [HY.out.2, HY.out.1])
            go_wp2_with (first | (go_at_call 65; refine (isSmall_yes _ _ HSM.out).mono ?_; rintro e w1 ⟨rfl, rfl⟩) | (go_at_call 45; refine (HC.out _ _ HY.out.1.symm (by repeat (first | (with_reducible exact Below.refl _ _) | refine belAlloc ?_ _ | refine Below.setCell ?_ (by simp) _ | refine Below.drew ?_))).mono ?_; rintro e w1 ⟨rfl, rfl⟩))
            exact bodyPost_ret (v := .tuple #[.agg #[.int .i64 kk, .int .i64 a, .string (s.extract a k), .int .i64 0], .int .i64 k, .agg #[.int .i64 0, .int .i64 0]]) (by simp [results, Tryd.results51, go_sem]) rfl ⟨by rw [HV.out], by repeat (first | exact Below.refl _ _ | assumption | refine Below.alloc ?_ (by simp; try omega) _ | refine Below.setCell ?_ (by simp; try omega) _ | refine Below.drew ?_)⟩
    | false =>
      have HSM : Hid (smB (s[a].toNat : Int) = false) := by rw [← hbe]; exact hsm
      have hsm' : smB (byt (run s a) 0) = false := by rw [hb0]; exact hsm
      have hd' : digB (byt (run s a) 0) = true := by rw [hb0]; exact alB_dig hal hsm
      by_cases hx : raD (run s a) < 0
      · have HC : Hid (∀ t W, t = run s a → Below w.heap.size w W → Calls Tryd.prog 46 #[.string t] W fun e w' => e = .returned (.tuple #[.int .i64 0, .bool false]) ∧ W = w') := fun t W h _ => by
          subst h
          have := implReadAny_any (run s a) W hrs
          rwa [outT_no hx] at this
        have HR := Lib.hid (rdOut_no (s := s) (a := a) (f := 3) (by rw [hf, mkF, hsm', hd', if_pos hx]; rfl) (by decide))
        clear hsm hsm' hd' hx
        clear hal hbe hK hG hre hrs ht hf hb0 hrz
        go_enter Tryd.func51, Tryd.ntmps51
        go_wp2_with fail
        refine (HS.out _ (by repeat (first | (with_reducible exact Below.refl _ _) | refine belAlloc ?_ _ | refine Below.setCell ?_ (by simp) _ | refine Below.drew ?_))).mono ?_
        rintro e w1 ⟨rfl, rfl⟩
        go_wp2_with (go_at_call 72; refine (isAlnum_yes _ _ HA.out).mono ?_; rintro e w1 ⟨rfl, rfl⟩)
        go_loop [8] (fun i => ∃ k : Nat, a < k ∧ k ≤ s.size ∧ i = .int .i64 k ∧ alEnd s (a + 1) = alEnd s k) (fun i => s.size - (intOf i).toNat)
        case atStart => exact ⟨a + 1, by omega, by omega, by go_num, rfl⟩
        case round =>
          obtain ⟨k, hak, hk, rfl, hq⟩ := hrel
          have HQ := Lib.hid hq
          clear hq
          by_cases hlt : k < s.size
          · have hbk := byt_eq hlt
            cases hb : alB (byt s k) with
            | true =>
              have HN := Lib.hid (HQ.out.trans (alEnd_one hlt hb))
              rw [hbk] at hb
              have HB := Lib.hid hb
              clear hb hbk
              go_wp2_with (go_at_call 72; refine (isAlnum_yes _ _ HB.out).mono ?_; rintro e w1 ⟨rfl, rfl⟩)
              go_round
              case rel => exact ⟨k + 1, by omega, by omega, by go_num, HN.out⟩
              case measure => simp [intOf]; omega
            | false =>
              have HY := Lib.hid (HX.out k (HQ.out.trans (alEnd_none hb)))
              rw [hbk] at hb
              have HB := Lib.hid hb
              clear hb hbk
              have HV : Hid (rdOut s a = .tuple #[.agg #[.int .i64 0, .int .i64 0, .string ⟨#[]⟩, .int .i64 0], .int .i64 a, .agg #[.int .i64 3, .int .i64 a]]) := Lib.hid (by rw [HR.out])
              go_wp2_with (first | (go_at_call 72; refine (isAlnum_no _ _ HB.out).mono ?_; rintro e w1 ⟨rfl, rfl⟩) | (go_at_call 65; refine (isSmall_no _ _ HSM.out).mono ?_; rintro e w1 ⟨rfl, rfl⟩) | (go_at_call 46; refine (HC.out _ _ HY.out.1.symm (by repeat (first | (with_reducible exact Below.refl _ _) | refine belAlloc ?_ _ | refine Below.setCell ?_ (by simp) _ | refine Below.drew ?_))).mono ?_; rintro e w1 ⟨rfl, rfl⟩))
              exact bodyPost_ret (v := .tuple #[.agg #[.int .i64 0, .int .i64 0, .string ⟨#[]⟩, .int .i64 0], .int .i64 a, .agg #[.int .i64 3, .int .i64 a]]) (by simp [results, Tryd.results51, go_sem]) rfl ⟨by rw [HV.out], by repeat (first | exact Below.refl _ _ | assumption | refine Below.alloc ?_ (by simp; try omega) _ | refine Below.setCell ?_ (by simp; try omega) _ | refine Below.drew ?_)⟩
          · have HY := Lib.hid (HX.out k (HQ.out.trans (by rw [alEnd, show s.size - k = 0 by omega]; rfl)))
            have hd : decide (k < s.size) = false := decide_eq_false hlt
            have HV : Hid (rdOut s a = .tuple #[.agg #[.int .i64 0, .int .i64 0, .string ⟨#[]⟩, .int .i64 0], .int .i64 a, .agg #[.int .i64 3, .int .i64 a]]) := Lib.hid (by rw [HR.out])
            go_wp2_with (first | (go_at_call 65; refine (isSmall_no _ _ HSM.out).mono ?_; rintro e w1 ⟨rfl, rfl⟩) | (go_at_call 46; refine (HC.out _ _ HY.out.1.symm (by repeat (first | (with_reducible exact Below.refl _ _) | refine belAlloc ?_ _ | refine Below.setCell ?_ (by simp) _ | refine Below.drew ?_))).mono ?_; rintro e w1 ⟨rfl, rfl⟩))
            exact bodyPost_ret (v := .tuple #[.agg #[.int .i64 0, .int .i64 0, .string ⟨#[]⟩, .int .i64 0], .int .i64 a, .agg #[.int .i64 3, .int .i64 a]]) (by simp [results, Tryd.results51, go_sem]) rfl ⟨by rw [HV.out], by repeat (first | exact Below.refl _ _ | assumption | refine Below.alloc ?_ (by simp; try omega) _ | refine Below.setCell ?_ (by simp; try omega) _ | refine Below.drew ?_)⟩
      · obtain ⟨x, hxx⟩ : ∃ x, raD (run s a) = x := ⟨_, rfl⟩
        have HC : Hid (∀ t W, t = run s a → Below w.heap.size w W → Calls Tryd.prog 46 #[.string t] W fun e w' => e = .returned (.tuple #[.int .i64 x, .bool true]) ∧ W = w') := fun t W h _ => by
          subst h
          have := implReadAny_any (run s a) W hrs
          rwa [outT_yes (by omega), hxx] at this
        have HR := Lib.hid (rdOut_yes (s := s) (a := a) (k := 3) (v := x) (by rw [hf, mkF, hsm', hd', if_neg hx]; rfl) ht (by rw [mkK, hsm', hd']; rfl) (by rw [mkV, hsm', hd']; exact hxx))
        clear hsm hsm' hd' hx hxx
        clear hal hbe hK hG hre hrs ht hf hb0 hrz
        go_enter Tryd.func51, Tryd.ntmps51
        go_wp2_with fail
        refine (HS.out _ (by repeat (first | (with_reducible exact Below.refl _ _) | refine belAlloc ?_ _ | refine Below.setCell ?_ (by simp) _ | refine Below.drew ?_))).mono ?_
        rintro e w1 ⟨rfl, rfl⟩
        go_wp2_with (go_at_call 72; refine (isAlnum_yes _ _ HA.out).mono ?_; rintro e w1 ⟨rfl, rfl⟩)
        go_loop [8] (fun i => ∃ k : Nat, a < k ∧ k ≤ s.size ∧ i = .int .i64 k ∧ alEnd s (a + 1) = alEnd s k) (fun i => s.size - (intOf i).toNat)
        case atStart => exact ⟨a + 1, by omega, by omega, by go_num, rfl⟩
        case round =>
          obtain ⟨k, hak, hk, rfl, hq⟩ := hrel
          have HQ := Lib.hid hq
          clear hq
          by_cases hlt : k < s.size
          · have hbk := byt_eq hlt
            cases hb : alB (byt s k) with
            | true =>
              have HN := Lib.hid (HQ.out.trans (alEnd_one hlt hb))
              rw [hbk] at hb
              have HB := Lib.hid hb
              clear hb hbk
              go_wp2_with (go_at_call 72; refine (isAlnum_yes _ _ HB.out).mono ?_; rintro e w1 ⟨rfl, rfl⟩)
              go_round
              case rel => exact ⟨k + 1, by omega, by omega, by go_num, HN.out⟩
              case measure => simp [intOf]; omega
            | false =>
              have HY := Lib.hid (HX.out k (HQ.out.trans (alEnd_none hb)))
              rw [hbk] at hb
              have HB := Lib.hid hb
              clear hb hbk
              have HV : Hid (rdOut s a = .tuple #[.agg #[.int .i64 3, .int .i64 a, .string (s.extract a k), .int .i64 x], .int .i64 k, .agg #[.int .i64 0, .int .i64 0]]) := Lib.hid (by rw [HR.out]; rw [HY.out.2, HY.out.1])
              go_wp2_with (first | (go_at_call 72; refine (isAlnum_no _ _ HB.out).mono ?_; rintro e w1 ⟨rfl, rfl⟩) | (go_at_call 65; refine (isSmall_no _ _ HSM.out).mono ?_; rintro e w1 ⟨rfl, rfl⟩) | (go_at_call 46; refine (HC.out _ _ HY.out.1.symm (by repeat (first | (with_reducible exact Below.refl _ _) | refine belAlloc ?_ _ | refine Below.setCell ?_ (by simp) _ | refine Below.drew ?_))).mono ?_; rintro e w1 ⟨rfl, rfl⟩))
              exact bodyPost_ret (v := .tuple #[.agg #[.int .i64 3, .int .i64 a, .string (s.extract a k), .int .i64 x], .int .i64 k, .agg #[.int .i64 0, .int .i64 0]]) (by simp [results, Tryd.results51, go_sem]) rfl ⟨by rw [HV.out], by repeat (first | exact Below.refl _ _ | assumption | refine Below.alloc ?_ (by simp; try omega) _ | refine Below.setCell ?_ (by simp; try omega) _ | refine Below.drew ?_)⟩
          · have HY := Lib.hid (HX.out k (HQ.out.trans (by rw [alEnd, show s.size - k = 0 by omega]; rfl)))
            have hd : decide (k < s.size) = false := decide_eq_false hlt
            have HV : Hid (rdOut s a = .tuple #[.agg #[.int .i64 3, .int .i64 a, .string (s.extract a k), .int .i64 x], .int .i64 k, .agg #[.int .i64 0, .int .i64 0]]) := Lib.hid (by rw [HR.out]; rw [HY.out.2, HY.out.1])
            go_wp2_with (first | (go_at_call 65; refine (isSmall_no _ _ HSM.out).mono ?_; rintro e w1 ⟨rfl, rfl⟩) | (go_at_call 46; refine (HC.out _ _ HY.out.1.symm (by repeat (first | (with_reducible exact Below.refl _ _) | refine belAlloc ?_ _ | refine Below.setCell ?_ (by simp) _ | refine Below.drew ?_))).mono ?_; rintro e w1 ⟨rfl, rfl⟩))
            exact bodyPost_ret (v := .tuple #[.agg #[.int .i64 3, .int .i64 a, .string (s.extract a k), .int .i64 x], .int .i64 k, .agg #[.int .i64 0, .int .i64 0]]) (by simp [results, Tryd.results51, go_sem]) rfl ⟨by rw [HV.out], by repeat (first | exact Below.refl _ _ | assumption | refine Below.alloc ?_ (by simp; try omega) _ | refine Below.setCell ?_ (by simp; try omega) _ | refine Below.drew ?_)⟩
end Go.Proofs.YtopolfibledmnaaDoor
