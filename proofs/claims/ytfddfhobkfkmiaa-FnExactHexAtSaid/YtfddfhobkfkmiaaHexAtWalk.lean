/-
  HexAt, the program's and the reference's: both return the number of the digits behind 0x and where they end; the walk of FnExactHexAt.
-/
import Derived.Test.YtfddfhobkfkmiaaIn
import Derived.Test.YtfddfhobkfkmiaaBits
import Derived.Test.YtfddfhobkfkmiaaHexDigit
import Derived.Test.YtfddfhobkfkmiaaScDigit
import Derived.WalkSpells
import Derived.Lib.Strings
namespace Go.Proofs.Ytfddfhobkfkmiaa
open Go.RowKit
theorem two_bytes (s : ByteArray) (a : Nat) (h : a + 2 ≤ s.size) : ∃ x y : UInt8, (s.extract a (a + 2)).toList = [x, y] ∧ byt s a = (x.toNat : Int) ∧ byt s (a + 1) = (y.toNat : Int) := by
  have hl : s.data.toList.length = s.size := by simp
  refine ⟨s.data.toList[a]'(by omega), s.data.toList[a + 1]'(by omega), ?_, ?_, ?_⟩
  · rw [ByteArray.toList_eq, Lib.extract_data, show a + 2 - a = 2 by omega, List.drop_eq_getElem_cons (by omega), List.drop_eq_getElem_cons (by omega)]
    rfl
  · rw [byt, List.getElem?_eq_getElem (by omega)]; rfl
  · rw [byt, List.getElem?_eq_getElem (by omega)]; rfl
theorem pre0x_yes {s : ByteArray} {a : Nat} (h : a + 2 ≤ s.size) (h1 : byt s a = 48) (h2 : byt s (a + 1) = 120) : ((s.extract a (a + 2)).toList == [48, 120]) = true := by
  obtain ⟨x, y, e, e1, e2⟩ := two_bytes s a h
  have hx : x = 48 := UInt8.toNat_inj.1 (by rw [e1] at h1; show x.toNat = 48; omega)
  have hy : y = 120 := UInt8.toNat_inj.1 (by rw [e2] at h2; show y.toNat = 120; omega)
  rw [e, hx, hy]; rfl
theorem pre0x_no {s : ByteArray} {a : Nat} (h : a + 2 ≤ s.size) (h1 : ¬ (byt s a = 48 ∧ byt s (a + 1) = 120)) : ((s.extract a (a + 2)).toList == [48, 120]) = false := by
  obtain ⟨x, y, e, e1, e2⟩ := two_bytes s a h
  rw [e]
  cases hb : ([x, y] == [48, 120]) with
  | false => rfl
  | true =>
    have := eq_of_beq hb
    simp only [List.cons.injEq, and_true] at this
    exact absurd ⟨by rw [e1, this.1]; rfl, by rw [e2, this.2]; rfl⟩ h1
def p16 : Nat → Int
  | 0 => 1
  | j + 1 => 16 * p16 j
theorem p16_le : ∀ j, j ≤ 8 → 1 ≤ p16 j ∧ p16 j ≤ 4294967296 ∧ (j ≤ 7 → p16 j ≤ 268435456)
  | 0, _ => by decide
  | 1, _ => by decide
  | 2, _ => by decide
  | 3, _ => by decide
  | 4, _ => by decide
  | 5, _ => by decide
  | 6, _ => by decide
  | 7, _ => by decide
  | 8, _ => by decide
  | j + 9, h => by omega
theorem hexCap (d : Nat → Int) (a : Nat) (hd : ∀ i, d i ≤ 15) : ∀ j, j ≤ 8 → (∀ i, i < j → 0 ≤ d (a + i)) → 0 ≤ capN d 16 4294967295 a j ∧ capN d 16 4294967295 a j < p16 j
  | 0, _, _ => by simp [capN, p16]
  | j + 1, hj, h => by
    have h1 := hexCap d a hd j (by omega) fun i hi => h i (by omega)
    have h2 := (p16_le j (by omega)).2.2 (by omega)
    have h3 := hd (a + j)
    have h4 := h j (by omega)
    rw [capN_step _ _ _ _ (by omega), p16]
    omega
/-- The number behind 0x at a, and when there is one. -/
def hxV (s : ByteArray) (a : Nat) : Int := capN (fun i => dgV (byt s i) 16) 16 4294967295 (a + 2) (dgEnd s 16 (a + 2) - (a + 2))
def hxOk (s : ByteArray) (a : Nat) : Bool := decide (a + 2 ≤ s.size ∧ byt s a = 48 ∧ byt s (a + 1) = 120 ∧ a + 3 ≤ dgEnd s 16 (a + 2) ∧ dgEnd s 16 (a + 2) ≤ a + 10)
def hxT (s : ByteArray) (a : Nat) : Value := .tuple #[.int .i64 (if hxOk s a then hxV s a else 0), .int .i64 (if hxOk s a then (dgEnd s 16 (a + 2) : Int) else 0), .bool (hxOk s a)]
theorem hxT_no {s : ByteArray} {a : Nat} (h : hxOk s a = false) : hxT s a = .tuple #[.int .i64 0, .int .i64 0, .bool false] := by simp [hxT, h]
theorem hxT_yes {s : ByteArray} {a : Nat} (h : hxOk s a = true) : hxT s a = .tuple #[.int .i64 (hxV s a), .int .i64 (dgEnd s 16 (a + 2)), .bool true] := by simp [hxT, h]
theorem hxE_ge (s : ByteArray) (a : Nat) : a ≤ dgEnd s 16 a := stop_ge _ _ _
theorem hxE_le (s : ByteArray) (a : Nat) (h : a ≤ s.size) : dgEnd s 16 a ≤ s.size := stop_le' _ h
theorem hxE_dig (s : ByteArray) (a i : Nat) (h1 : a ≤ i) (h2 : i < dgEnd s 16 a) : 0 ≤ dgV (byt s i) 16 := by
  have := stop_all _ _ _ i h1 (show i < stop (fun i => decide (0 ≤ dgV (byt s i) 16)) a (s.size - a) from h2)
  simpa using this
theorem dg15 (s : ByteArray) (i : Nat) : dgV (byt s i) 16 ≤ 15 := by unfold dgV; split <;> omega
theorem hxV_bd (s : ByteArray) (a : Nat) : 0 ≤ hxV s a ∧ hxV s a ≤ 70000000000 := by
  refine ⟨capN_lo _ _ _ _ (by omega) _ fun i hi => hxE_dig s (a + 2) (a + 2 + i) (by omega) (by omega), ?_⟩
  have := capN_hi (fun i => dgV (byt s i) 16) 16 4294967295 (a + 2) (by omega) (by omega) (fun i => dg15 s i) (dgEnd s 16 (a + 2) - (a + 2))
  unfold hxV
  omega
set_option maxHeartbeats 400000 in
theorem scHex_any (s : ByteArray) (a : Nat) (w : World) (hs : s.size ≤ 4000) (ha : a ≤ s.size) :
    Calls Try.prog 61 #[.string s, .int .i64 a] w fun e w' => e = .returned (.tuple #[.int .i64 (if hxOk s a then hxV s a else 0), .int .i64 (if hxOk s a then (dgEnd s 16 (a + 2) : Int) else -1)]) ∧ w = w' := by
  by_cases h2 : a + 2 ≤ s.size
  · have hd : decide ((s.size : Int) < (a : Int) + 2) = false := decide_eq_false (by omega)
    by_cases hp : byt s a = 48 ∧ byt s (a + 1) = 120
    · have hN := scNumber_any s (a + 2) 16 4294967295 w hs h2 (by omega) (by omega) (by omega) (by omega)
      rw [show capN (fun i => dgV (byt s i) 16) 16 4294967295 (a + 2) (dgEnd s 16 (a + 2) - (a + 2)) = hxV s a from rfl] at hN
      have hpre := pre0x_yes h2 hp.1 hp.2
      have hbd := hxV_bd s a
      have hge := hxE_ge s (a + 2)
      have hle := hxE_le s (a + 2) h2
      unfold hxOk
      generalize dgEnd s 16 (a + 2) = E at *
      generalize hxV s a = V at *
      rw [show ((a + 2 : Nat) : Int) = (a : Int) + 2 by omega] at hN
      have HN := Lib.hid hN
      have HP := Lib.hid hp
      clear hN hp
      by_cases h3 : a + 3 ≤ E ∧ E ≤ a + 10
      · rw [if_pos (decide_eq_true ⟨h2, HP.out.1, HP.out.2, h3.1, h3.2⟩), if_pos (decide_eq_true ⟨h2, HP.out.1, HP.out.2, h3.1, h3.2⟩)]
        obtain ⟨h3, h4⟩ := h3
        go_enter Try.func61, Try.ntmps61
        go_wp2_with (first | (go_at_call 43; refine (l1In_yes _ _ _ _ (by omega) (by omega)).mono ?_; rintro e w1 ⟨rfl, rfl⟩) | (go_at_call 43; refine (l1In_no _ _ _ _ (by omega)).mono ?_; rintro e w1 ⟨rfl, rfl⟩) | (go_at_call 65; refine HN.out.mono ?_; rintro e w1 ⟨rfl, rfl⟩))
        go_ret2
        exact ⟨rfl, rfl⟩
      · rw [if_neg (by simp only [decide_eq_true_eq]; exact fun h => h3 ⟨h.2.2.2.1, h.2.2.2.2⟩), if_neg (by simp only [decide_eq_true_eq]; exact fun h => h3 ⟨h.2.2.2.1, h.2.2.2.2⟩)]
        have h4 : E < a + 3 ∨ a + 10 < E := by omega
        clear h3
        go_enter Try.func61, Try.ntmps61
        go_wp2_with (first | (go_at_call 43; refine (l1In_yes _ _ _ _ (by omega) (by omega)).mono ?_; rintro e w1 ⟨rfl, rfl⟩) | (go_at_call 43; refine (l1In_no _ _ _ _ (by omega)).mono ?_; rintro e w1 ⟨rfl, rfl⟩) | (go_at_call 65; refine HN.out.mono ?_; rintro e w1 ⟨rfl, rfl⟩))
        go_ret2
        exact ⟨rfl, rfl⟩
    · have hno : hxOk s a = false := by unfold hxOk; exact decide_eq_false fun h => hp ⟨h.2.1, h.2.2.1⟩
      rw [hno, if_neg (by simp), if_neg (by simp)]
      have hpre := pre0x_no h2 hp
      clear hno hp
      go_enter Try.func61, Try.ntmps61
      go_wp2_with fail
      go_ret2
      exact ⟨rfl, rfl⟩
  · have hd : decide ((s.size : Int) < (a : Int) + 2) = true := decide_eq_true (by omega)
    have hno : hxOk s a = false := by unfold hxOk; exact decide_eq_false fun h => h2 h.1
    rw [hno, if_neg (by simp), if_neg (by simp)]
    clear hno
    go_enter Try.func61, Try.ntmps61
    go_wp2_with fail
    go_ret2
    exact ⟨rfl, rfl⟩
set_option maxHeartbeats 1000000 in
theorem specHexAt_in (s : ByteArray) (a : Nat) (w : World) (hs : s.size ≤ 4000) (ha : a ≤ s.size) :
    Calls Try.prog 39 #[.string s, .int .i64 a] w fun e w' => e = .returned (hxT s a) ∧ w = w' := by
  have hD := scHex_any s a w hs ha
  have h0 : (s.size : Int) ≤ 4000 := by omega
  by_cases hok : hxOk s a = true
  · rw [hxT_yes hok]
    rw [if_pos hok, if_pos hok] at hD
    have HD := Lib.hid hD
    clear hD hok
    go_enter Try.func39, Try.ntmps39
    go_wp2_with (first | (go_at_call 43; refine (l1In_yes _ _ _ _ (by omega) (by omega)).mono ?_; rintro e w1 ⟨rfl, rfl⟩) | (go_at_call 43; refine (l1In_no _ _ _ _ (by omega)).mono ?_; rintro e w1 ⟨rfl, rfl⟩) | (go_at_call 61; refine HD.out.mono ?_; rintro e w1 ⟨rfl, rfl⟩) | go_in)
    go_ret3
    exact ⟨rfl, rfl⟩
  · rw [hxT_no (by simpa using hok)]
    rw [if_neg hok, if_neg hok] at hD
    have HD := Lib.hid hD
    clear hD hok
    go_enter Try.func39, Try.ntmps39
    go_wp2_with (first | (go_at_call 43; refine (l1In_yes _ _ _ _ (by omega) (by omega)).mono ?_; rintro e w1 ⟨rfl, rfl⟩) | (go_at_call 43; refine (l1In_no _ _ _ _ (by omega)).mono ?_; rintro e w1 ⟨rfl, rfl⟩) | (go_at_call 61; refine HD.out.mono ?_; rintro e w1 ⟨rfl, rfl⟩) | go_in)
    go_ret3
    exact ⟨rfl, rfl⟩
theorem specHexAt_out (s : ByteArray) (a : Int) (w : World) (hs : s.size ≤ 1048576) (h : 4000 < (s.size : Int) ∨ a < 0 ∨ (s.size : Int) < a) :
    Calls Try.prog 39 #[.string s, .int .i64 a] w fun e w' => e = .returned (.tuple #[.int .i64 0, .int .i64 0, .bool false]) ∧ w = w' := by
  by_cases h1 : 4000 < (s.size : Int)
  · have hd : decide ((s.size : Int) ≤ 4000) = false := decide_eq_false (by omega)
    clear h
    go_enter Try.func39, Try.ntmps39
    go_wp2_with (first | (go_at_call 43; refine (l1In_yes _ _ _ _ (by omega) (by omega)).mono ?_; rintro e w1 ⟨rfl, rfl⟩) | (go_at_call 43; refine (l1In_no _ _ _ _ (by omega)).mono ?_; rintro e w1 ⟨rfl, rfl⟩) | go_in)
    go_ret3
    exact ⟨rfl, rfl⟩
  · have h2 : a < 0 ∨ (s.size : Int) < a := by omega
    have h3 : (s.size : Int) ≤ 4000 := by omega
    clear h
    go_enter Try.func39, Try.ntmps39
    go_wp2_with (first | (go_at_call 43; refine (l1In_yes _ _ _ _ (by omega) (by omega)).mono ?_; rintro e w1 ⟨rfl, rfl⟩) | (go_at_call 43; refine (l1In_no _ _ _ _ (by omega)).mono ?_; rintro e w1 ⟨rfl, rfl⟩) | go_in)
    go_ret3
    exact ⟨rfl, rfl⟩
theorem implHexAt_out (s : ByteArray) (a : Int) (w : World) (hs : s.size ≤ 1048576) (h : 4000 < (s.size : Int) ∨ a < 0 ∨ (s.size : Int) < a) :
    Calls Try.prog 40 #[.string s, .int .i64 a] w fun e w' => e = .returned (.tuple #[.int .i64 0, .int .i64 0, .bool false]) ∧ w = w' := by
  by_cases h1 : 4000 < (s.size : Int)
  · clear h
    go_enter Try.func40, Try.ntmps40
    go_wp2_with fail
    go_ret3
    exact ⟨rfl, rfl⟩
  · have hd : decide (4000 < (s.size : Int)) = false := decide_eq_false h1
    by_cases h2 : a < 0
    · clear h
      go_enter Try.func40, Try.ntmps40
      go_wp2_with fail
      go_ret3
      exact ⟨rfl, rfl⟩
    · have hd2 : decide (a < 0) = false := decide_eq_false h2
      have h3 : (s.size : Int) < a := by omega
      clear h
      go_enter Try.func40, Try.ntmps40
      go_wp2_with fail
      go_ret3
      exact ⟨rfl, rfl⟩
theorem hxE_next {s : ByteArray} {a k : Nat} (hE : dgEnd s 16 a = stop (fun i => decide (0 ≤ dgV (byt s i) 16)) k (s.size - k)) (hk : k < s.size) (hd : 0 ≤ hexV (byt s k)) :
    dgEnd s 16 a = stop (fun i => decide (0 ≤ dgV (byt s i) 16)) (k + 1) (s.size - (k + 1)) ∧ k + 1 ≤ dgEnd s 16 a := by
  have h1 : dgEnd s 16 a = stop (fun i => decide (0 ≤ dgV (byt s i) 16)) (k + 1) (s.size - (k + 1)) := by rw [hE, stop_go hk (by simpa [dgV_hex] using hd)]
  exact ⟨h1, by rw [h1]; exact stop_ge _ _ _⟩
set_option maxHeartbeats 2000000 in
theorem implHexAt_in (s : ByteArray) (a : Nat) (w : World) (hs : s.size ≤ 4000) (ha : a ≤ s.size) :
    Calls Try.prog 40 #[.string s, .int .i64 a] w fun e w' => e = .returned (hxT s a) ∧ w = w' := by
  have hd0 : decide (4000 < (s.size : Int)) = false := decide_eq_false (by omega)
  have hd1 : decide ((a : Int) < 0) = false := decide_eq_false (by omega)
  by_cases h3 : a + 3 ≤ s.size
  · have hd2 : decide ((s.size : Int) - 3 < (a : Int)) = false := decide_eq_false (by omega)
    have hlt : a < s.size := by omega
    have hlt1 : a + 1 < s.size := by omega
    have hbe := byt_eq hlt
    have hbe1 := byt_eq hlt1
    by_cases hp : byt s a = 48
    · have e0 : ((s[a].toNat : Int) != 48) = false := by rw [← hbe]; simpa using hp
      by_cases hp1 : byt s (a + 1) = 120
      · have e1 : ((s[a + 1].toNat : Int) != 120) = false := by rw [← hbe1]; simpa using hp1
        have HP := Lib.hid hp
        have HP1 := Lib.hid hp1
        clear hp hp1 hbe hbe1
        go_enter Try.func40, Try.ntmps40
        go_wp2_with fail
        go_loop [7, 8] (fun i x => ∃ k : Nat, a + 2 ≤ k ∧ k ≤ s.size ∧ k ≤ a + 10 ∧ k ≤ dgEnd s 16 (a + 2) ∧ i = .int .i64 k ∧ x = .int .i64 (capN (fun i => dgV (byt s i) 16) 16 4294967295 (a + 2) (k - (a + 2))) ∧ dgEnd s 16 (a + 2) = stop (fun i => decide (0 ≤ dgV (byt s i) 16)) k (s.size - k)) (fun i _ => s.size - (intOf i).toNat)
        case atStart => exact ⟨a + 2, Nat.le_refl _, by omega, by omega, hxE_ge _ _, by go_num, by simp [capN], rfl⟩
        case round =>
          obtain ⟨k, hk0, hk, hk1, hkE, rfl, rfl, hst⟩ := hrel
          have HS := Lib.hid hst
          clear hst
          have hcap := hexCap (fun i => dgV (byt s i) 16) (a + 2) (fun i => dg15 s i) (k - (a + 2)) (by omega) (fun i hi => hxE_dig s (a + 2) (a + 2 + i) (by omega) (by omega))
          have hp16 := p16_le (k - (a + 2)) (by omega)
          by_cases hlt2 : k < s.size
          · have hbk := byt_eq hlt2
            have hby0 := byt_lo s k
            have hby9 := byt_hi s k
            rw [hbk] at hby0 hby9
            have hvb := hexV_bd (s[k].toNat : Int)
            by_cases hdk : 0 ≤ hexV (byt s k)
            · obtain ⟨hst', hE2⟩ := hxE_next HS.out hlt2 hdk
              have HST := Lib.hid hst'
              have hq : decide (0 ≤ hexV (s[k].toNat : Int)) = true := by rw [← hbk]; exact decide_eq_true hdk
              have hq' : 0 ≤ hexV (s[k].toNat : Int) := by rw [← hbk]; exact hdk
              clear hst'
              by_cases hten : k = a + 10
              · have e10 : ((k : Int) == (a : Int) + 10) = true := by simp; omega
                have HF : Hid (hxOk s a = false) := by
                  show hxOk s a = false
                  unfold hxOk
                  exact decide_eq_false fun h => by have := h.2.2.2.2; omega
                clear hten hbk hdk hcap hp16
                go_wp2_with (go_at_call 62; refine (hexDigit_any _ _ hby0 hby9).mono ?_; rintro e w1 ⟨rfl, rfl⟩)
                go_ret3
                exact ⟨by rw [hxT_no HF.out]; rfl, rfl⟩
              · have e10 : ((k : Int) == (a : Int) + 10) = false := by simp; omega
                have h7 := hp16.2.2 (by omega)
                have hclo : 0 ≤ capN (fun i => dgV (byt s i) 16) 16 4294967295 (a + 2) (k - (a + 2)) := hcap.1
                have hchi : capN (fun i => dgV (byt s i) 16) 16 4294967295 (a + 2) (k - (a + 2)) ≤ 268435456 := by omega
                have hstep : capN (fun i => dgV (byt s i) 16) 16 4294967295 (a + 2) (k + 1 - (a + 2)) = capN (fun i => dgV (byt s i) 16) 16 4294967295 (a + 2) (k - (a + 2)) * 16 + hexV (s[k].toNat : Int) := by
                  rw [show k + 1 - (a + 2) = (k - (a + 2)) + 1 by omega, capN_step _ _ _ _ (by omega)]
                  show _ + dgV (byt s (a + 2 + (k - (a + 2)))) 16 = _
                  rw [show a + 2 + (k - (a + 2)) = k by omega, dgV_hex, hbk]
                  omega
                have HSTEP := Lib.hid hstep
                have hor := or_nibble (capN (fun i => dgV (byt s i) 16) 16 4294967295 (a + 2) (k - (a + 2))) (hexV (s[k].toNat : Int)) hclo (by omega) hq' (by omega)
                have hkne : k < a + 10 := by omega
                clear hten hbk hdk hcap hp16 h7 hstep
                go_wp2_with (go_at_call 62; refine (hexDigit_any _ _ hby0 hby9).mono ?_; rintro e w1 ⟨rfl, rfl⟩)
                go_round
                case rel => exact ⟨k + 1, by omega, by omega, by omega, hE2, by go_num, by rw [HSTEP.out], HST.out⟩
                case measure => simp [intOf]; omega
            · have hq : decide (0 ≤ hexV (s[k].toNat : Int)) = false := by rw [← hbk]; exact decide_eq_false hdk
              have HE : Hid (dgEnd s 16 (a + 2) = k) := by
                show dgEnd s 16 (a + 2) = k
                rw [HS.out]
                exact stop_no _ (by simpa [dgV_hex] using hdk)
              clear hbk hdk
              by_cases hem : k = a + 2
              · have e2 : ((k : Int) == (a : Int) + 2) = true := by simp; omega
                have HF : Hid (hxOk s a = false) := by
                  show hxOk s a = false
                  unfold hxOk
                  rw [HE.out]
                  exact decide_eq_false fun h => by have := h.2.2.2.1; omega
                clear hem hcap hp16
                go_wp2_with (go_at_call 62; refine (hexDigit_any _ _ hby0 hby9).mono ?_; rintro e w1 ⟨rfl, rfl⟩)
                go_ret3
                exact ⟨by rw [hxT_no HF.out]; rfl, rfl⟩
              · have e2 : ((k : Int) == (a : Int) + 2) = false := by simp; omega
                have HF : Hid (hxOk s a = true) := by
                  show hxOk s a = true
                  unfold hxOk
                  rw [HE.out]
                  exact decide_eq_true ⟨by omega, HP.out, HP1.out, by omega, hk1⟩
                clear hem hcap hp16
                go_wp2_with (go_at_call 62; refine (hexDigit_any _ _ hby0 hby9).mono ?_; rintro e w1 ⟨rfl, rfl⟩)
                go_ret3
                exact ⟨by rw [hxT_yes HF.out, hxV, HE.out]; rfl, rfl⟩
          · have hd : decide (k < s.size) = false := decide_eq_false hlt2
            have HE : Hid (dgEnd s 16 (a + 2) = k) := by
              show dgEnd s 16 (a + 2) = k
              rw [HS.out, show s.size - k = 0 by omega]; rfl
            have e2 : ((k : Int) == (a : Int) + 2) = false := by simp; omega
            have HF : Hid (hxOk s a = true) := by
              show hxOk s a = true
              unfold hxOk
              rw [HE.out]
              exact decide_eq_true ⟨by omega, HP.out, HP1.out, by omega, hk1⟩
            clear hcap hp16
            go_wp2_with fail
            go_ret3
            exact ⟨by rw [hxT_yes HF.out, hxV, HE.out]; rfl, rfl⟩
      · have e1 : ((s[a + 1].toNat : Int) != 120) = true := by rw [← hbe1]; simpa using hp1
        have hno : hxOk s a = false := by unfold hxOk; exact decide_eq_false fun h => hp1 h.2.2.1
        rw [hxT_no hno]
        clear hno hp hp1 hbe hbe1
        go_enter Try.func40, Try.ntmps40
        go_wp2_with fail
        go_ret3
        exact ⟨rfl, rfl⟩
    · have e0 : ((s[a].toNat : Int) != 48) = true := by rw [← hbe]; simpa using hp
      have hno : hxOk s a = false := by unfold hxOk; exact decide_eq_false fun h => hp h.2.1
      rw [hxT_no hno]
      clear hno hp hbe hbe1
      go_enter Try.func40, Try.ntmps40
      go_wp2_with fail
      go_ret3
      exact ⟨rfl, rfl⟩
  · have hd2 : decide ((s.size : Int) - 3 < (a : Int)) = true := decide_eq_true (by omega)
    have hno : hxOk s a = false := by
      unfold hxOk
      refine decide_eq_false fun h => ?_
      have := hxE_le s (a + 2) h.1
      omega
    rw [hxT_no hno]
    clear hno
    go_enter Try.func40, Try.ntmps40
    go_wp2_with fail
    go_ret3
    exact ⟨rfl, rfl⟩
set_option maxHeartbeats 1000000 in
theorem fnExactHexAt_walk (s : ByteArray) (hs : s.size ≤ maxLen) (a : Int) (_ : -9223372036854775808 ≤ a) (_ : a ≤ 9223372036854775807) (w : World) :
    Calls Try.prog 13 #[.string s, .int .i64 a] w fun e w' => e = .returned (.bool true) ∧ Below w.heap.size w w' := by
  unfold maxLen at hs
  by_cases hin : (s.size : Int) ≤ 4000 ∧ 0 ≤ a ∧ a ≤ s.size
  · obtain ⟨h1, h2, h3⟩ := hin
    obtain ⟨x, rfl⟩ := Int.eq_ofNat_of_zero_le h2
    have HS := Lib.hid (specHexAt_in s x w (by omega) (by omega))
    have HI := Lib.hid (implHexAt_in s x w (by omega) (by omega))
    by_cases hok : hxOk s x = true
    · rw [hxT_yes hok] at HS HI
      clear hok
      go_enter Try.func13, Try.ntmps13
      go_wp2_with (first | (go_at_call 39; refine HS.out.mono ?_; rintro e w1 ⟨rfl, rfl⟩) | (go_at_call 40; refine HI.out.mono ?_; rintro e w1 ⟨rfl, rfl⟩))
      go_ret
      exact ⟨rfl, Below.refl _ _⟩
    · rw [hxT_no (by simpa using hok)] at HS HI
      clear hok
      go_enter Try.func13, Try.ntmps13
      go_wp2_with (first | (go_at_call 39; refine HS.out.mono ?_; rintro e w1 ⟨rfl, rfl⟩) | (go_at_call 40; refine HI.out.mono ?_; rintro e w1 ⟨rfl, rfl⟩))
      go_ret
      exact ⟨rfl, Below.refl _ _⟩
  · have hcases : 1048576 < (s.size : Int) ∨ ((s.size : Int) ≤ 1048576 ∧ 4000 < (s.size : Int)) ∨ ((s.size : Int) ≤ 4000 ∧ a < 0) ∨ ((s.size : Int) ≤ 4000 ∧ (s.size : Int) < a) := by omega
    clear hin
    rcases hcases with h | ⟨h1, h2⟩ | ⟨h1, h2⟩ | ⟨h1, h2⟩
    · go_enter Try.func13, Try.ntmps13
      go_wp2
      go_ret
      exact ⟨rfl, Below.refl _ _⟩
    all_goals
      go_enter Try.func13, Try.ntmps13
      go_wp2_with (first | (go_at_call 39; refine (specHexAt_out _ _ _ (by omega) (by omega)).mono ?_; rintro e w1 ⟨rfl, rfl⟩) | (go_at_call 40; refine (implHexAt_out _ _ _ (by omega) (by omega)).mono ?_; rintro e w1 ⟨rfl, rfl⟩))
      go_ret
      exact ⟨rfl, Below.refl _ _⟩
end Go.Proofs.Ytfddfhobkfkmiaa
