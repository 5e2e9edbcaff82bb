/-
  DecimalAt, the program's and the reference's: both return the number of the digits and where they end; the walk of FnExactDecimalAt.
-/
import Derived.Test.YtfddfhobkfkmiaaIn
import Derived.Test.YtfddfhobkfkmiaaScDigit
namespace Go.Proofs.Ytfddfhobkfkmiaa
open Go.RowKit
/-- The number that begins at a, growing no more above the bound. -/
def decV (s : ByteArray) (a : Nat) : Int := capN (fun i => dgV (byt s i) 10) 10 1000000000 a (dgEnd s 10 a - a)
def daOk (s : ByteArray) (a : Nat) : Bool := decide (a < dgEnd s 10 a ∧ ¬ (byt s a = 48 ∧ a + 1 < dgEnd s 10 a) ∧ decV s a ≤ 1000000000)
theorem dgEnd_ge (s : ByteArray) (b : Int) (a : Nat) : a ≤ dgEnd s b a := stop_ge _ _ _
theorem dgEnd_le (s : ByteArray) (b : Int) (a : Nat) (h : a ≤ s.size) : dgEnd s b a ≤ s.size := stop_le' _ h
theorem dgEnd_lt {s : ByteArray} {b : Int} {a : Nat} (h : a < dgEnd s b a) : a < s.size := by
  rcases Nat.lt_or_ge a s.size with h1 | h1
  · exact h1
  · have : dgEnd s b a = a := by unfold dgEnd; rw [show s.size - a = 0 by omega]; rfl
    omega
theorem decV_bd (s : ByteArray) (a : Nat) : 0 ≤ decV s a ∧ decV s a ≤ 10000000010 := by
  refine ⟨capN_lo _ _ _ _ (by omega) _ fun i hi => ?_, ?_⟩
  · have := stop_all _ _ _ (a + i) (by omega) (show a + i < dgEnd s 10 a by omega)
    simpa using this
  · have := capN_hi (fun i => dgV (byt s i) 10) 10 1000000000 a (by omega) (by omega) (fun i => by show dgV _ _ ≤ _; unfold dgV; split <;> omega) (dgEnd s 10 a - a)
    unfold decV
    omega
set_option maxHeartbeats 400000 in
theorem scDecimal_any (s : ByteArray) (a : Nat) (w : World) (hs : s.size ≤ 4000) (ha : a ≤ s.size) :
    Calls Try.prog 58 #[.string s, .int .i64 a] w fun e w' => e = .returned (.tuple #[.int .i64 (if daOk s a then decV s a else 0), .int .i64 (if daOk s a then (dgEnd s 10 a : Int) else -1)]) ∧ w = w' := by
  have hN := scNumber_any s a 10 1000000000 w hs ha (by omega) (by omega) (by omega) (by omega)
  rw [show capN (fun i => dgV (byt s i) 10) 10 1000000000 a (dgEnd s 10 a - a) = decV s a from rfl] at hN
  have hbd := decV_bd s a
  have hge := dgEnd_ge s 10 a
  have hle := dgEnd_le s 10 a ha
  have hlt := @dgEnd_lt s 10 a
  unfold daOk
  generalize dgEnd s 10 a = E at *
  generalize decV s a = V at *
  have HN := Lib.hid hN
  clear hN
  by_cases h1 : a < E
  · have hsz := hlt h1
    have hz1 : (E == a) = false := by simp; omega
    have hz2 : ((E : Int) == (a : Int)) = false := by simp; omega
    have hbe := byt_eq hsz
    by_cases h2 : byt s a = 48
    · have e2 : ((s[a].toNat : Int) == 48) = true := by rw [← hbe]; simpa using h2
      by_cases h3 : a + 1 < E
      · rw [if_neg (by simp; omega), if_neg (by simp; omega)]
        clear hlt hbe h2
        go_enter Try.func58, Try.ntmps58
        go_wp2_with (go_at_call 65; refine HN.out.mono ?_; rintro e w1 ⟨rfl, rfl⟩)
        go_ret2
        exact ⟨rfl, rfl⟩
      · have d3 : decide (a + 1 < E) = false := decide_eq_false h3
        have d3' : decide ((a : Int) + 1 < (E : Int)) = false := decide_eq_false (by omega)
        by_cases h4 : 1000000000 < V
        · rw [if_neg (by simp; omega), if_neg (by simp; omega)]
          clear hlt hbe h2
          go_enter Try.func58, Try.ntmps58
          go_wp2_with (go_at_call 65; refine HN.out.mono ?_; rintro e w1 ⟨rfl, rfl⟩)
          go_ret2
          exact ⟨rfl, rfl⟩
        · rw [if_pos (by simp; omega), if_pos (by simp; omega)]
          have d4 : decide (1000000000 < V) = false := decide_eq_false h4
          clear hlt hbe h2
          go_enter Try.func58, Try.ntmps58
          go_wp2_with (go_at_call 65; refine HN.out.mono ?_; rintro e w1 ⟨rfl, rfl⟩)
          go_ret2
          exact ⟨rfl, rfl⟩
    · have e2 : ((s[a].toNat : Int) == 48) = false := by rw [← hbe]; simpa using h2
      by_cases h4 : 1000000000 < V
      · rw [if_neg (by simp; omega), if_neg (by simp; omega)]
        clear hlt hbe h2
        go_enter Try.func58, Try.ntmps58
        go_wp2_with (go_at_call 65; refine HN.out.mono ?_; rintro e w1 ⟨rfl, rfl⟩)
        go_ret2
        exact ⟨rfl, rfl⟩
      · rw [if_pos (by simp; omega), if_pos (by simp; omega)]
        have d4 : decide (1000000000 < V) = false := decide_eq_false h4
        clear hlt hbe h2
        go_enter Try.func58, Try.ntmps58
        go_wp2_with (go_at_call 65; refine HN.out.mono ?_; rintro e w1 ⟨rfl, rfl⟩)
        go_ret2
        exact ⟨rfl, rfl⟩
  · rw [if_neg (by simp; omega), if_neg (by simp; omega)]
    have hz1 : (E == a) = true := by simp; omega
    have hz2 : ((E : Int) == (a : Int)) = true := by simp; omega
    clear hlt
    go_enter Try.func58, Try.ntmps58
    go_wp2_with (go_at_call 65; refine HN.out.mono ?_; rintro e w1 ⟨rfl, rfl⟩)
    go_ret2
    exact ⟨rfl, rfl⟩
theorem dgEnd_next {s : ByteArray} {a k : Nat} (hE : dgEnd s 10 a = stop (fun i => decide (0 ≤ dgV (byt s i) 10)) k (s.size - k)) (hk : k < s.size) (hd : digB (byt s k) = true) :
    dgEnd s 10 a = stop (fun i => decide (0 ≤ dgV (byt s i) 10)) (k + 1) (s.size - (k + 1)) ∧ k + 1 ≤ dgEnd s 10 a := by
  have h1 : dgEnd s 10 a = stop (fun i => decide (0 ≤ dgV (byt s i) 10)) (k + 1) (s.size - (k + 1)) := by rw [hE, stop_go hk (by simpa using (digB_iff _).1 hd)]
  exact ⟨h1, by rw [h1]; exact stop_ge _ _ _⟩
/-- What the program's DecimalAt returns for a valid text and index. -/
def daT (s : ByteArray) (a : Nat) : Value := .tuple #[.int .i64 (if daOk s a then decV s a else 0), .int .i64 (if daOk s a then (dgEnd s 10 a : Int) else 0), .bool (daOk s a)]
theorem daT_no {s : ByteArray} {a : Nat} (h : daOk s a = false) : daT s a = .tuple #[.int .i64 0, .int .i64 0, .bool false] := by simp [daT, h]
theorem daT_yes {s : ByteArray} {a : Nat} (h : daOk s a = true) : daT s a = .tuple #[.int .i64 (decV s a), .int .i64 (dgEnd s 10 a), .bool true] := by simp [daT, h]
set_option maxHeartbeats 1000000 in
theorem implDecimalAt_in (s : ByteArray) (a : Nat) (w : World) (hs : s.size ≤ 4000) (ha : a ≤ s.size) :
    Calls Try.prog 36 #[.string s, .int .i64 a] w fun e w' => e = .returned (daT s a) ∧ w = w' := by
  have hd0 : decide (4000 < (s.size : Int)) = false := decide_eq_false (by omega)
  have hd1 : decide ((a : Int) < 0) = false := decide_eq_false (by omega)
  by_cases hlt : a < s.size
  · have hd2 : decide (s.size ≤ a) = false := decide_eq_false (by omega)
    have hbe := byt_eq hlt
    by_cases hdg : digB (byt s a) = true
    · have hq : digB (s[a].toNat : Int) = true := by rw [← hbe]; exact hdg
      obtain ⟨_, hE1⟩ := dgEnd_next (s := s) (a := a) (k := a) rfl hlt hdg
      have HQ := Lib.hid hq
      have HBE := Lib.hid hbe
      clear hbe hdg hq
      go_enter Try.func36, Try.ntmps36
      go_wp2_with (go_at_call 59; refine (isDigit_yes _ _ HQ.out).mono ?_; rintro e w1 ⟨rfl, rfl⟩)
      go_loop [7, 8] (fun i x => ∃ k : Nat, a ≤ k ∧ k ≤ s.size ∧ i = .int .i64 k ∧ x = .int .i64 (capN (fun i => dgV (byt s i) 10) 10 1000000000 a (k - a)) ∧ dgEnd s 10 a = stop (fun i => decide (0 ≤ dgV (byt s i) 10)) k (s.size - k) ∧ 0 ≤ capN (fun i => dgV (byt s i) 10) 10 1000000000 a (k - a) ∧ capN (fun i => dgV (byt s i) 10) 10 1000000000 a (k - a) ≤ 1000000000 ∧ (byt s a = 48 → k ≤ a + 1)) (fun i _ => s.size - (intOf i).toNat)
      case atStart => exact ⟨a, Nat.le_refl _, ha, rfl, by simp [capN], rfl, by simp [capN], by simp [capN], fun _ => by omega⟩
      case round =>
        obtain ⟨k, hk0, hk, rfl, rfl, hst, hlo, hhi, hz⟩ := hrel
        have HS := Lib.hid hst
        have HZ := Lib.hid hz
        clear hst hz
        by_cases hlt2 : k < s.size
        · have hbk := byt_eq hlt2
          by_cases hdk : digB (byt s k) = true
          · have hqk : digB (s[k].toNat : Int) = true := by rw [← hbk]; exact hdk
            have HQK := Lib.hid hqk
            obtain ⟨hst', hE2⟩ := dgEnd_next HS.out hlt2 hdk
            have HST := Lib.hid hst'
            have hb48 : 48 ≤ (s[k].toNat : Int) ∧ (s[k].toNat : Int) ≤ 57 := by simpa [digB] using hqk
            obtain ⟨hb1, hb2⟩ := hb48
            have hstep : capN (fun i => dgV (byt s i) 10) 10 1000000000 a (k + 1 - a) = 10 * capN (fun i => dgV (byt s i) 10) 10 1000000000 a (k - a) + ((s[k].toNat : Int) - 48) := by
              rw [show k + 1 - a = (k - a) + 1 by omega, capN_step _ _ _ _ hhi]
              show _ + dgV (byt s (a + (k - a))) 10 = _
              rw [show a + (k - a) = k by omega, dgV_ten hdk, hbk]
            have HSTEP := Lib.hid hstep
            clear hbk hdk hqk hst' hstep
            by_cases hzz : byt s a = 48 ∧ a < k
            · obtain ⟨hz1, hz2⟩ := hzz
              have e1 : ((s[a].toNat : Int) == 48) = true := by rw [← HBE.out]; simpa using hz1
              have HF : Hid (daOk s a = false) := by
                show daOk s a = false
                unfold daOk
                exact decide_eq_false fun h => h.2.1 ⟨hz1, by omega⟩
              clear hz1
              go_wp2_with (go_at_call 59; refine (isDigit_yes _ _ HQK.out).mono ?_; rintro e w1 ⟨rfl, rfl⟩)
              go_ret3
              exact ⟨by rw [daT_no HF.out]; rfl, rfl⟩
            · have hzz' : ((s[a].toNat : Int) == 48) = false ∨ (((s[a].toNat : Int) == 48) = true ∧ ¬ a < k) := by
                by_cases h : byt s a = 48
                · exact .inr ⟨by rw [← HBE.out]; simpa using h, fun hh => hzz ⟨h, hh⟩⟩
                · exact .inl (by rw [← HBE.out]; simpa using h)
              have HZZ := Lib.hid hzz
              have hd5 : ¬ a < k → decide (a < k) = false := fun h => decide_eq_false h
              clear hzz
              by_cases hov : 1000000000 < 10 * capN (fun i => dgV (byt s i) 10) 10 1000000000 a (k - a) + ((s[k].toNat : Int) - 48)
              · have HF : Hid (daOk s a = false) := by
                  show daOk s a = false
                  unfold daOk
                  refine decide_eq_false fun h => ?_
                  have h4 := h.2.2
                  have hov' := hov
                  rw [← HSTEP.out] at hov'
                  have := capN_over _ _ _ _ hov' (dgEnd s 10 a - (k + 1))
                  rw [show k + 1 - a + (dgEnd s 10 a - (k + 1)) = dgEnd s 10 a - a by omega] at this
                  unfold decV at h4
                  omega
                rcases hzz' with e1 | ⟨e1, e2⟩
                · clear hd5
                  go_wp2_with (go_at_call 59; refine (isDigit_yes _ _ HQK.out).mono ?_; rintro e w1 ⟨rfl, rfl⟩)
                  go_ret3
                  exact ⟨by rw [daT_no HF.out]; rfl, rfl⟩
                · have e3 := hd5 e2
                  clear hd5
                  go_wp2_with (go_at_call 59; refine (isDigit_yes _ _ HQK.out).mono ?_; rintro e w1 ⟨rfl, rfl⟩)
                  go_ret3
                  exact ⟨by rw [daT_no HF.out]; rfl, rfl⟩
              · rcases hzz' with e1 | ⟨e1, e2⟩
                · clear hd5
                  go_wp2_with (go_at_call 59; refine (isDigit_yes _ _ HQK.out).mono ?_; rintro e w1 ⟨rfl, rfl⟩)
                  go_round
                  case rel => exact ⟨k + 1, by omega, by omega, by go_num, by rw [HSTEP.out], HST.out, by rw [HSTEP.out]; omega, by rw [HSTEP.out]; omega, fun h => by have h' := HZZ.out; have : ¬ a < k := fun hh => h' ⟨h, hh⟩; omega⟩
                  case measure => simp [intOf]; omega
                · have e3 := hd5 e2
                  clear hd5
                  go_wp2_with (go_at_call 59; refine (isDigit_yes _ _ HQK.out).mono ?_; rintro e w1 ⟨rfl, rfl⟩)
                  go_round
                  case rel => exact ⟨k + 1, by omega, by omega, by go_num, by rw [HSTEP.out], HST.out, by rw [HSTEP.out]; omega, by rw [HSTEP.out]; omega, fun _ => by omega⟩
                  case measure => simp [intOf]; omega
          · have hdk' : digB (byt s k) = false := by simpa using hdk
            have hqk : digB (s[k].toNat : Int) = false := by rw [← hbk]; exact hdk'
            have HQK := Lib.hid hqk
            have HE : Hid (dgEnd s 10 a = k) := by
              show dgEnd s 10 a = k
              rw [HS.out]
              exact stop_no _ (by have := (digB_iff (byt s k)).2; simp only [decide_eq_false_iff_not]; intro h; rw [this h] at hdk'; cases hdk')
            clear hbk hdk hdk' hqk
            go_wp2_with (go_at_call 59; refine (isDigit_no _ _ HQK.out).mono ?_; rintro e w1 ⟨rfl, rfl⟩)
            go_ret3
            refine ⟨?_, rfl⟩
            have hE := HE.out
            have hok : daOk s a = true := by
              unfold daOk decV
              rw [hE]
              exact decide_eq_true ⟨by omega, fun h => by have := HZ.out h.1; omega, hhi⟩
            rw [daT_yes hok, decV, hE]; rfl
        · have hd : decide (k < s.size) = false := decide_eq_false hlt2
          have HE : Hid (dgEnd s 10 a = k) := by
            show dgEnd s 10 a = k
            rw [HS.out, show s.size - k = 0 by omega]; rfl
          go_wp2_with fail
          go_ret3
          refine ⟨?_, rfl⟩
          have hE := HE.out
          have hok : daOk s a = true := by
            unfold daOk decV
            rw [hE]
            exact decide_eq_true ⟨by omega, fun h => by have := HZ.out h.1; omega, hhi⟩
          rw [daT_yes hok, decV, hE]; rfl
    · have hdg' : digB (byt s a) = false := by simpa using hdg
      have hq : digB (s[a].toNat : Int) = false := by rw [← hbe]; exact hdg'
      have HQ := Lib.hid hq
      have hE : dgEnd s 10 a = a := by
        unfold dgEnd
        exact stop_no _ (by have := (digB_iff (byt s a)).2; simp only [decide_eq_false_iff_not]; intro h; rw [this h] at hdg'; cases hdg')
      have hno : daOk s a = false := by unfold daOk; rw [hE]; exact decide_eq_false fun h => absurd h.1 (by omega)
      rw [daT_no hno]
      clear hbe hdg hdg' hq hE hno
      go_enter Try.func36, Try.ntmps36
      go_wp2_with (go_at_call 59; refine (isDigit_no _ _ HQ.out).mono ?_; rintro e w1 ⟨rfl, rfl⟩)
      go_ret3
      exact ⟨rfl, rfl⟩
  · have hd2 : decide (s.size ≤ a) = true := decide_eq_true (by omega)
    have hno : daOk s a = false := by
      unfold daOk
      refine decide_eq_false fun h => ?_
      have := dgEnd_lt h.1
      omega
    rw [daT_no hno]
    clear hno
    go_enter Try.func36, Try.ntmps36
    go_wp2_with fail
    go_ret3
    exact ⟨rfl, rfl⟩
set_option maxHeartbeats 1000000 in
theorem specDecimalAt_in (s : ByteArray) (a : Nat) (w : World) (hs : s.size ≤ 4000) (ha : a ≤ s.size) :
    Calls Try.prog 35 #[.string s, .int .i64 a] w fun e w' => e = .returned (daT s a) ∧ w = w' := by
  have hD := scDecimal_any s a w hs ha
  have h0 : (s.size : Int) ≤ 4000 := by omega
  by_cases hok : daOk s a = true
  · rw [daT_yes hok]
    rw [if_pos hok, if_pos hok] at hD
    have HD := Lib.hid hD
    clear hD hok
    go_enter Try.func35, Try.ntmps35
    go_wp2_with (first | (go_at_call 43; refine (l1In_yes _ _ _ _ (by omega) (by omega)).mono ?_; rintro e w1 ⟨rfl, rfl⟩) | (go_at_call 43; refine (l1In_no _ _ _ _ (by omega)).mono ?_; rintro e w1 ⟨rfl, rfl⟩) | (go_at_call 58; refine HD.out.mono ?_; rintro e w1 ⟨rfl, rfl⟩) | go_in)
    go_ret3
    exact ⟨rfl, rfl⟩
  · rw [daT_no (by simpa using hok)]
    rw [if_neg hok, if_neg hok] at hD
    have HD := Lib.hid hD
    clear hD hok
    go_enter Try.func35, Try.ntmps35
    go_wp2_with (first | (go_at_call 43; refine (l1In_yes _ _ _ _ (by omega) (by omega)).mono ?_; rintro e w1 ⟨rfl, rfl⟩) | (go_at_call 43; refine (l1In_no _ _ _ _ (by omega)).mono ?_; rintro e w1 ⟨rfl, rfl⟩) | (go_at_call 58; refine HD.out.mono ?_; rintro e w1 ⟨rfl, rfl⟩) | go_in)
    go_ret3
    exact ⟨rfl, rfl⟩
theorem specDecimalAt_out (s : ByteArray) (a : Int) (w : World) (hs : s.size ≤ 1048576) (h : 4000 < (s.size : Int) ∨ a < 0 ∨ (s.size : Int) < a) :
    Calls Try.prog 35 #[.string s, .int .i64 a] w fun e w' => e = .returned (.tuple #[.int .i64 0, .int .i64 0, .bool false]) ∧ w = w' := by
  by_cases h1 : 4000 < (s.size : Int)
  · have hd : decide ((s.size : Int) ≤ 4000) = false := decide_eq_false (by omega)
    clear h
    go_enter Try.func35, Try.ntmps35
    go_wp2_with (first | (go_at_call 43; refine (l1In_yes _ _ _ _ (by omega) (by omega)).mono ?_; rintro e w1 ⟨rfl, rfl⟩) | (go_at_call 43; refine (l1In_no _ _ _ _ (by omega)).mono ?_; rintro e w1 ⟨rfl, rfl⟩) | go_in)
    go_ret3
    exact ⟨rfl, rfl⟩
  · have h2 : a < 0 ∨ (s.size : Int) < a := by omega
    have h3 : (s.size : Int) ≤ 4000 := by omega
    clear h
    go_enter Try.func35, Try.ntmps35
    go_wp2_with (first | (go_at_call 43; refine (l1In_yes _ _ _ _ (by omega) (by omega)).mono ?_; rintro e w1 ⟨rfl, rfl⟩) | (go_at_call 43; refine (l1In_no _ _ _ _ (by omega)).mono ?_; rintro e w1 ⟨rfl, rfl⟩) | go_in)
    go_ret3
    exact ⟨rfl, rfl⟩
theorem implDecimalAt_out (s : ByteArray) (a : Int) (w : World) (hs : s.size ≤ 1048576) (h : 4000 < (s.size : Int) ∨ a < 0 ∨ (s.size : Int) < a) :
    Calls Try.prog 36 #[.string s, .int .i64 a] w fun e w' => e = .returned (.tuple #[.int .i64 0, .int .i64 0, .bool false]) ∧ w = w' := by
  by_cases h1 : 4000 < (s.size : Int)
  · clear h
    go_enter Try.func36, Try.ntmps36
    go_wp2_with fail
    go_ret3
    exact ⟨rfl, rfl⟩
  · have hd : decide (4000 < (s.size : Int)) = false := decide_eq_false h1
    by_cases h2 : a < 0
    · clear h
      go_enter Try.func36, Try.ntmps36
      go_wp2_with fail
      go_ret3
      exact ⟨rfl, rfl⟩
    · have hd2 : decide (a < 0) = false := decide_eq_false h2
      have h3 : (s.size : Int) < a := by omega
      clear h
      go_enter Try.func36, Try.ntmps36
      go_wp2_with fail
      go_ret3
      exact ⟨rfl, rfl⟩
set_option maxHeartbeats 1000000 in
theorem fnExactDecimalAt_walk (s : ByteArray) (hs : s.size ≤ maxLen) (a : Int) (_ : -9223372036854775808 ≤ a) (_ : a ≤ 9223372036854775807) (w : World) :
    Calls Try.prog 11 #[.string s, .int .i64 a] w fun e w' => e = .returned (.bool true) ∧ Below w.heap.size w w' := by
  unfold maxLen at hs
  by_cases hin : (s.size : Int) ≤ 4000 ∧ 0 ≤ a ∧ a ≤ s.size
  · obtain ⟨h1, h2, h3⟩ := hin
    obtain ⟨x, rfl⟩ := Int.eq_ofNat_of_zero_le h2
    have HS := Lib.hid (specDecimalAt_in s x w (by omega) (by omega))
    have HI := Lib.hid (implDecimalAt_in s x w (by omega) (by omega))
    by_cases hok : daOk s x = true
    · rw [daT_yes hok] at HS HI
      clear hok
      go_enter Try.func11, Try.ntmps11
      go_wp2_with (first | (go_at_call 35; refine HS.out.mono ?_; rintro e w1 ⟨rfl, rfl⟩) | (go_at_call 36; refine HI.out.mono ?_; rintro e w1 ⟨rfl, rfl⟩))
      go_ret
      exact ⟨rfl, Below.refl _ _⟩
    · rw [daT_no (by simpa using hok)] at HS HI
      clear hok
      go_enter Try.func11, Try.ntmps11
      go_wp2_with (first | (go_at_call 35; refine HS.out.mono ?_; rintro e w1 ⟨rfl, rfl⟩) | (go_at_call 36; refine HI.out.mono ?_; rintro e w1 ⟨rfl, rfl⟩))
      go_ret
      exact ⟨rfl, Below.refl _ _⟩
  · have hcases : 1048576 < (s.size : Int) ∨ ((s.size : Int) ≤ 1048576 ∧ 4000 < (s.size : Int)) ∨ ((s.size : Int) ≤ 4000 ∧ a < 0) ∨ ((s.size : Int) ≤ 4000 ∧ (s.size : Int) < a) := by omega
    clear hin
    rcases hcases with h | ⟨h1, h2⟩ | ⟨h1, h2⟩ | ⟨h1, h2⟩
    · go_enter Try.func11, Try.ntmps11
      go_wp2
      go_ret
      exact ⟨rfl, Below.refl _ _⟩
    all_goals
      go_enter Try.func11, Try.ntmps11
      go_wp2_with (first | (go_at_call 35; refine (specDecimalAt_out _ _ _ (by omega) (by omega)).mono ?_; rintro e w1 ⟨rfl, rfl⟩) | (go_at_call 36; refine (implDecimalAt_out _ _ _ (by omega) (by omega)).mono ?_; rintro e w1 ⟨rfl, rfl⟩))
      go_ret
      exact ⟨rfl, Below.refl _ _⟩
end Go.Proofs.Ytfddfhobkfkmiaa
