/-
  The functions below a token, the program's and the reference's, walked once each: signAt and tkSign, tkRun, wordKind and tkWord.
-/
import Derived.Test.YtopolfibledmnaaDoorTokPlain
import Derived.Lib.CountLaws
namespace Go.Proofs.YtopolfibledmnaaDoor
open Go.RowKit
theorem hasPrefix_any (s p : ByteArray) (w : World) :
    Calls Tryd.prog 83 #[.string s, .string p] w fun e w' => e = .returned (.bool (Lib.hasPrefix s.data.toList p.data.toList)) ∧ w = w' := by
  rw [← Lib.hasPrefix_raw]
  by_cases h : p.size ≤ s.size
  · have h' : (p.size : Int) ≤ (s.size : Int) := by omega
    rw [decide_eq_true h, Bool.true_and]
    go_enter Tryd.func83, Tryd.ntmps83
    go_wp2
    go_ret
    exact ⟨rfl, rfl⟩
  · have h' : decide ((p.size : Int) ≤ (s.size : Int)) = false := decide_eq_false (by omega)
    rw [decide_eq_false h, Bool.false_and]
    go_enter Tryd.func83, Tryd.ntmps83
    go_wp2
    go_ret
    exact ⟨rfl, rfl⟩
theorem sgn_at {s : ByteArray} {a k : Nat} (h : k < 6) (e : fstOf (fun k => preB s a (signNs.getD k [])) k (6 - k) = sgI s a) (hp : preB s a (signNs.getD k []) = true) : sgn s a = strAt signNs k := by
  rw [fstOf_yes h hp] at e
  rw [sgn, ← e]
theorem sgn_no {s : ByteArray} {a k : Nat} (h : ¬ k < 6) (hk : k ≤ 6) (e : fstOf (fun k => preB s a (signNs.getD k [])) k (6 - k) = sgI s a) : sgn s a = ⟨#[]⟩ := by
  obtain rfl : k = 6 := by omega
  exact sgn_none e.symm
set_option maxHeartbeats 1000000 in
theorem signAt_any (s : ByteArray) (a : Nat) (w : World) (_hs : s.size ≤ 1048576) (ha : a ≤ s.size) (hT : TabS w 1 signNs) :
    Calls Tryd.prog 71 #[.string s, .int .i64 a] w fun e w' => e = .returned (.string (sgn s a)) ∧ w = w' := by
  have HT := Lib.hid hT.cells
  have HH : Hid (∀ k W, Calls Tryd.prog 83 #[.string (s.extract a s.size), .string (strAt signNs k)] W fun e w' => e = .returned (.bool (preB s a (signNs.getD k []))) ∧ W = w') := fun k W => by
    refine (hasPrefix_any (s.extract a s.size) (strAt signNs k) W).mono ?_
    rintro e w' ⟨rfl, rfl⟩
    refine ⟨?_, rfl⟩
    rw [Lib.extract_to_end]
    rfl
  clear hT
  go_enter Tryd.func71, Tryd.ntmps71
  go_wp2_with (with_reducible refine wpList_load_list rfl 66 _ rfl 1 rfl (strVals signNs) _ HT.out Tryd.underlying66 rfl (by kernel_rfl) ?_)
  go_loop [8] (fun i => ∃ k : Nat, k ≤ 6 ∧ i = .int .i64 k ∧ fstOf (fun k => preB s a (signNs.getD k [])) k (6 - k) = sgI s a) (fun i => 6 - (intOf i).toNat)
  case atStart => exact ⟨0, Nat.zero_le _, rfl, rfl⟩
  case round =>
    obtain ⟨k, hk, rfl, hq⟩ := hrel
    have HQ := Lib.hid hq
    clear hq
    by_cases hlt : k < 6
    · have hix := fun w => run_index_strs (P := Tryd.prog) 66 9 6 signNs k hlt rfl Tryd.underlying66 Tryd.underlying9 (by kernel_rfl) w
      have HC := Lib.hid (HH.out k)
      cases hp : preB s a (signNs.getD k []) with
      | true =>
        have HR := Lib.hid (sgn_at hlt HQ.out hp)
        rw [hp] at HC
        clear hp
        go_wp2_with fail
        refine (HC.out _).mono ?_
        rintro e w1 ⟨rfl, rfl⟩
        go_wp2_with fail
        go_ret
        exact ⟨by rw [HR.out]; rfl, rfl⟩
      | false =>
        have HR := Lib.hid ((fstOf_no (p := fun k => preB s a (signNs.getD k [])) hlt hp).symm.trans HQ.out)
        rw [hp] at HC
        clear hp
        go_wp2_with fail
        refine (HC.out _).mono ?_
        rintro e w1 ⟨rfl, rfl⟩
        go_wp2_with fail
        go_round
        case rel => exact ⟨k + 1, by omega, by go_num, HR.out⟩
        case measure => simp [intOf]; omega
    · have HR := Lib.hid (sgn_no hlt hk HQ.out)
      go_wp2_with fail
      go_ret
      exact ⟨by rw [HR.out]; rfl, rfl⟩
set_option maxHeartbeats 1000000 in
theorem tkSign_any (s : ByteArray) (a : Nat) (w : World) (hs : s.size ≤ 1048576) (ha : a ≤ s.size) :
    Calls Tryd.prog 69 #[.string s, .int .i64 a] w fun e w' => e = .returned (.string (sgn s a)) ∧ Below w.heap.size w w' := by
  have HC : Hid (∀ k, k < 6 → (w.alloc (.cells (strVals signNs) 9)).cell? ⟨w.heap.size, k, none⟩ = some (.string (strAt signNs k))) := fun k hk => strVals_cell signNs w k hk
  go_enter Tryd.func69, Tryd.ntmps69
  go_wp2_with fail
  refine (tkSigns_any _).mono ?_
  rintro e w1 ⟨rfl, rfl⟩
  go_wp2_with fail
  go_loop [9] (fun i => ∃ k : Nat, k ≤ 6 ∧ i = .int .i64 k ∧ fstOf (fun k => preB s a (signNs.getD k [])) k (6 - k) = sgI s a) (fun i => 6 - (intOf i).toNat)
  case atStart => exact ⟨0, Nat.zero_le _, rfl, rfl⟩
  case round =>
    obtain ⟨k, hk, rfl, hq⟩ := hrel
    have HQ := Lib.hid hq
    clear hq
    by_cases hlt : k < 6
    · have hcell := HC.out k hlt
      have hsz := sign_len k
      obtain ⟨h1, h2⟩ := sign_size hlt
      by_cases hfit : a + (strAt signNs k).size ≤ s.size
      · have he := preB_ext (s := s) (a := a) (l := signNs.getD k []) (by omega)
        rw [← hsz] at he
        have hsi : (a : Int) + ((strAt signNs k).size : Int) ≤ (s.size : Int) := by omega
        cases hp : preB s a (signNs.getD k []) with
        | true =>
          have HR := Lib.hid (sgn_at hlt HQ.out hp)
          rw [hp] at he
          have he2 : ((s.extract a (a + (strAt signNs k).size)).toList == (strAt signNs k).toList) = true := by rw [ByteArray.toList_eq (strAt signNs k)]; exact he
          clear hp he hsz
          go_wp2_with fail
          go_ret
          exact ⟨by rw [HR.out]; rfl, belAlloc (Below.refl _ w) _⟩
        | false =>
          have HR := Lib.hid ((fstOf_no (p := fun k => preB s a (signNs.getD k [])) hlt hp).symm.trans HQ.out)
          rw [hp] at he
          have he2 : ((s.extract a (a + (strAt signNs k).size)).toList == (strAt signNs k).toList) = false := by rw [ByteArray.toList_eq (strAt signNs k)]; exact he
          clear hp he hsz
          go_wp2_with fail
          go_round
          case rel => exact ⟨k + 1, by omega, by go_num, HR.out⟩
          case measure => simp [intOf]; omega
      · have hp := preB_short (s := s) (a := a) (l := signNs.getD k []) (by omega) ha
        have HR := Lib.hid ((fstOf_no (p := fun k => preB s a (signNs.getD k [])) hlt hp).symm.trans HQ.out)
        have hsi : decide ((a : Int) + ((strAt signNs k).size : Int) ≤ (s.size : Int)) = false := decide_eq_false (by omega)
        clear hp hsz
        go_wp2_with fail
        go_round
        case rel => exact ⟨k + 1, by omega, by go_num, HR.out⟩
        case measure => simp [intOf]; omega
    · have HR := Lib.hid (sgn_no hlt hk HQ.out)
      go_wp2_with fail
      go_ret
      exact ⟨by rw [HR.out]; rfl, belAlloc (Below.refl _ w) _⟩
set_option maxHeartbeats 1000000 in
theorem tkRun_any (s : ByteArray) (a : Nat) (w : World) (hs : s.size ≤ 1048576) (ha : a ≤ s.size) :
    Calls Tryd.prog 63 #[.string s, .int .i64 a] w fun e w' => e = .returned (.string (run s a)) ∧ w = w' := by
  go_enter Tryd.func63, Tryd.ntmps63
  go_wp2_with fail
  go_loop [5] (fun i => ∃ k : Nat, a ≤ k ∧ k ≤ s.size ∧ i = .int .i64 k ∧ alEnd s a = alEnd s k) (fun i => s.size - (intOf i).toNat)
  case atStart => exact ⟨a, Nat.le_refl _, ha, rfl, rfl⟩
  case round =>
    obtain ⟨k, hak, hk, rfl, hq⟩ := hrel
    have HQ := Lib.hid hq
    clear hq
    by_cases hlt : k < s.size
    · have hbe := byt_eq hlt
      cases hb : alB (byt s k) with
      | true =>
        have HR := Lib.hid (HQ.out.trans (alEnd_one hlt hb))
        rw [hbe] at hb
        have HB := Lib.hid hb
        clear hb hbe
        go_wp2_with (go_at_call 76; refine (tkMark_yes _ _ HB.out).mono ?_; rintro e w1 ⟨rfl, rfl⟩)
        go_round
        case rel => exact ⟨k + 1, by omega, by omega, by go_num, HR.out⟩
        case measure => simp [intOf]; omega
      | false =>
        have HR : Hid (run s a = s.extract a k) := Lib.hid (by rw [run, HQ.out, alEnd_none hb])
        rw [hbe] at hb
        have HB := Lib.hid hb
        clear hb hbe
        go_wp2_with (go_at_call 76; refine (tkMark_no _ _ HB.out).mono ?_; rintro e w1 ⟨rfl, rfl⟩)
        go_ret
        exact ⟨by rw [HR.out]; rfl, rfl⟩
    · have HR : Hid (run s a = s.extract a k) := Lib.hid (by rw [run, HQ.out, alEnd, show s.size - k = 0 by omega]; rfl)
      have hd : decide (k < s.size) = false := decide_eq_false hlt
      go_wp2_with fail
      go_ret
      exact ⟨by rw [HR.out]; rfl, rfl⟩
def smEnd (s : ByteArray) (a : Nat) : Nat := stop (fun i => smB (byt s i)) a (s.size - a)
theorem smEnd_one {s : ByteArray} {a : Nat} (h : a < s.size) (hb : smB (byt s a) = true) : smEnd s a = smEnd s (a + 1) := stop_go (p := fun i => smB (byt s i)) h hb
theorem smEnd_none {s : ByteArray} {a : Nat} (hb : smB (byt s a) = false) : smEnd s a = a := stop_no _ hb
theorem allSm_no {s : ByteArray} {k : Nat} (h : k < s.size) (e : smEnd s 0 = smEnd s k) (hb : smB (byt s k) = false) : allSm s = false := by
  rw [smEnd_none hb] at e
  exact decide_eq_false (by show ¬ stop _ 0 s.size = s.size; have : stop (fun i => smB (byt s i)) 0 s.size = k := e; omega)
theorem allSm_yes {s : ByteArray} {k : Nat} (h : ¬ k < s.size) (hk : k ≤ s.size) (e : smEnd s 0 = smEnd s k) : allSm s = true := by
  have e2 : smEnd s k = k := by rw [smEnd, show s.size - k = 0 by omega]; rfl
  exact decide_eq_true (by show stop _ 0 s.size = s.size; have : stop (fun i => smB (byt s i)) 0 s.size = smEnd s 0 := rfl; omega)
set_option maxHeartbeats 1000000 in
theorem tkWord_any (s : ByteArray) (w : World) (hs : s.size ≤ 1048576) :
    Calls Tryd.prog 78 #[.string s] w fun e w' => e = .returned (.bool (wdB s)) ∧ w = w' := by
  go_enter Tryd.func78, Tryd.ntmps78
  go_wp2_with fail
  go_loop [3] (fun i => ∃ k : Nat, k ≤ s.size ∧ i = .int .i64 k ∧ smEnd s 0 = smEnd s k) (fun i => s.size - (intOf i).toNat)
  case atStart => exact ⟨0, Nat.zero_le _, rfl, rfl⟩
  case round =>
    obtain ⟨k, hk, rfl, hq⟩ := hrel
    have HQ := Lib.hid hq
    clear hq
    by_cases hlt : k < s.size
    · have hbe := byt_eq hlt
      cases hb : smB (byt s k) with
      | true =>
        have HR := Lib.hid (HQ.out.trans (smEnd_one hlt hb))
        rw [hbe] at hb
        have HB := Lib.hid hb
        clear hb hbe
        go_wp2_with (go_at_call 77; refine (tkLetter_yes _ _ HB.out).mono ?_; rintro e w1 ⟨rfl, rfl⟩)
        go_round
        case rel => exact ⟨k + 1, by omega, by go_num, HR.out⟩
        case measure => simp [intOf]; omega
      | false =>
        have HR : Hid (wdB s = false) := Lib.hid (by rw [wdB, allSm_no hlt HQ.out hb]; rfl)
        rw [hbe] at hb
        have HB := Lib.hid hb
        clear hb hbe
        go_wp2_with (go_at_call 77; refine (tkLetter_no _ _ HB.out).mono ?_; rintro e w1 ⟨rfl, rfl⟩)
        go_ret
        exact ⟨by rw [HR.out]; rfl, rfl⟩
    · by_cases h12 : 1 ≤ s.size ∧ s.size ≤ 12
      · have HR : Hid (wdB s = true) := Lib.hid (by rw [wdB, allSm_yes hlt hk HQ.out, decide_eq_true h12]; rfl)
        go_wp2_with (first | (go_at_call 61; refine (l1In_yes _ _ _ _ (by omega) (by omega)).mono ?_; rintro e w1 ⟨rfl, rfl⟩) | (go_at_call 61; refine (l1In_no _ _ _ _ (by omega)).mono ?_; rintro e w1 ⟨rfl, rfl⟩))
        go_ret
        exact ⟨by rw [HR.out]; rfl, rfl⟩
      · have HR : Hid (wdB s = false) := Lib.hid (by rw [wdB, decide_eq_false h12, Bool.and_false])
        go_wp2_with (first | (go_at_call 61; refine (l1In_yes _ _ _ _ (by omega) (by omega)).mono ?_; rintro e w1 ⟨rfl, rfl⟩) | (go_at_call 61; refine (l1In_no _ _ _ _ (by omega)).mono ?_; rintro e w1 ⟨rfl, rfl⟩))
        go_ret
        exact ⟨by rw [HR.out]; rfl, rfl⟩
/-- The kind of a word, 0 if it is none. -/
def wkD (t : ByteArray) : Int := if wdB t then (if hasS keyNs t then 1 else 2) else 0
set_option maxHeartbeats 1000000 in
theorem wordKind_any (s : ByteArray) (w : World) (hs : s.size ≤ 1048576) (hT : TabS w 0 keyNs) :
    Calls Tryd.prog 45 #[.string s] w fun e w' => e = .returned (.int .i64 (wkD s)) ∧ w = w' := by
  have HK := Lib.hid (implIsKey_any s w hT)
  clear hT
  rcases Nat.eq_zero_or_pos s.size with hz | hpos
  · have HR : Hid (wkD s = 0) := Lib.hid (by rw [wkD, wdB, decide_eq_false (by omega), Bool.and_false]; rfl)
    have he := empty_yes hz
    clear hz
    go_enter Tryd.func45, Tryd.ntmps45
    go_wp2_with fail
    go_ret
    exact ⟨by rw [HR.out]; rfl, rfl⟩
  have he := empty_no hpos
  by_cases hbig : 12 < s.size
  · have HR : Hid (wkD s = 0) := Lib.hid (by rw [wkD, wdB, decide_eq_false (by omega), Bool.and_false]; rfl)
    have hb' : 12 < (s.size : Int) := by omega
    go_enter Tryd.func45, Tryd.ntmps45
    go_wp2_with fail
    go_ret
    exact ⟨by rw [HR.out]; rfl, rfl⟩
  have hd : decide (12 < (s.size : Int)) = false := decide_eq_false (by omega)
  go_enter Tryd.func45, Tryd.ntmps45
  go_wp2_with fail
  go_loop [3] (fun i => ∃ k : Nat, k ≤ s.size ∧ i = .int .i64 k ∧ smEnd s 0 = smEnd s k) (fun i => s.size - (intOf i).toNat)
  case atStart => exact ⟨0, Nat.zero_le _, rfl, rfl⟩
  case round =>
    obtain ⟨k, hk, rfl, hq⟩ := hrel
    have HQ := Lib.hid hq
    clear hq
    by_cases hlt : k < s.size
    · have hbe := byt_eq hlt
      cases hb : smB (byt s k) with
      | true =>
        have HR := Lib.hid (HQ.out.trans (smEnd_one hlt hb))
        rw [hbe] at hb
        have HB := Lib.hid hb
        clear hb hbe
        go_wp2_with (go_at_call 65; refine (isSmall_yes _ _ HB.out).mono ?_; rintro e w1 ⟨rfl, rfl⟩)
        go_round
        case rel => exact ⟨k + 1, by omega, by go_num, HR.out⟩
        case measure => simp [intOf]; omega
      | false =>
        have HR : Hid (wkD s = 0) := Lib.hid (by rw [wkD, wdB, allSm_no hlt HQ.out hb]; rfl)
        rw [hbe] at hb
        have HB := Lib.hid hb
        clear hb hbe
        go_wp2_with (go_at_call 65; refine (isSmall_no _ _ HB.out).mono ?_; rintro e w1 ⟨rfl, rfl⟩)
        go_ret
        exact ⟨by rw [HR.out]; rfl, rfl⟩
    · have HW : Hid (wdB s = true) := Lib.hid (by rw [wdB, allSm_yes hlt hk HQ.out, decide_eq_true (by omega)]; rfl)
      cases hh : hasS keyNs s with
      | true =>
        have HR : Hid (wkD s = 1) := Lib.hid (by rw [wkD, HW.out, hh]; rfl)
        rw [hh] at HK
        clear hh
        go_wp2_with fail
        refine HK.out.mono ?_
        rintro e w1 ⟨rfl, rfl⟩
        go_wp2_with fail
        go_ret
        exact ⟨by rw [HR.out]; rfl, rfl⟩
      | false =>
        have HR : Hid (wkD s = 2) := Lib.hid (by rw [wkD, HW.out, hh]; rfl)
        rw [hh] at HK
        clear hh
        go_wp2_with fail
        refine HK.out.mono ?_
        rintro e w1 ⟨rfl, rfl⟩
        go_wp2_with fail
        go_ret
        exact ⟨by rw [HR.out]; rfl, rfl⟩
end Go.Proofs.YtopolfibledmnaaDoor
