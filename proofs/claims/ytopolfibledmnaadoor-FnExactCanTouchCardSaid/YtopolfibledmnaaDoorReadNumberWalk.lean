/-
  ReadNumber, the program's and the reference's: both return the plain rnD; the walk of FnExactReadNumber.
-/
import Derived.Test.YtopolfibledmnaaDoorNuRead
namespace Go.Proofs.YtopolfibledmnaaDoor
open Go.RowKit
/-- The value of the n digits of c, times a unit. -/
def rnU (c : Nat → Int) (n : Nat) (u : Int) : Int := if u = 1 then numD c n 10 1000000000 else scaleD (numD c n 10 (1000000000 / u)) u
theorem scaleD_no {x u : Int} (h : x ≤ 0) : scaleD x u < 0 := by rw [scaleD, if_pos h]; omega
theorem rnU_no {c : Nat → Int} {n : Nat} {u : Int} (h : numO c n 10 (1000000000 / u) = false) : rnU c n u < 0 := by
  unfold rnU
  split
  · rename_i e; subst e; rw [show (1000000000 : Int) = 1000000000 / 1 by decide, numD_no h]; omega
  · rw [numD_no h]; exact scaleD_no (by omega)
theorem big_iff {v u : Int} (hu : 0 < u) : 1000000000 < v * u → 1000000000 / u < v := fun h => (Int.ediv_lt_iff_lt_mul hu).2 h
theorem small_iff {v u : Int} (hu : 0 < u) : ¬ 1000000000 < v * u → v ≤ 1000000000 / u := fun h => (Int.le_ediv_iff_mul_le hu).2 (by omega)
theorem rnU_zero {c : Nat → Int} {n : Nat} {u : Int} (h : n = 0 ∨ (c 0 = 48 ∧ (u ≠ 1 ∨ 1 < n))) : rnU c n u < 0 := by
  by_cases h1 : 1 < n ∨ n = 0
  · exact rnU_no (numO_zero (by rcases h with h | ⟨h, _⟩ <;> omega))
  · have hn : n = 1 := by omega
    subst hn
    rcases h with h | ⟨h2, h3⟩
    · omega
    · have hu : u ≠ 1 := by omega
      rw [rnU, if_neg hu]
      refine scaleD_no ?_
      unfold numD
      split
      · rw [numV, numV, h2]; decide
      · omega
theorem rnU_yes {c : Nat → Int} {n : Nat} {u : Int} (h0 : 0 < n) (h1 : ¬ (c 0 = 48 ∧ (u ≠ 1 ∨ 1 < n))) (h2 : allV (dgB c 10) n = true) (h3 : allV (leB c 10 (1000000000 / u)) n = true) (h4 : c 0 ≠ 48 → 0 < numV c 10 n) :
    rnU c n u = numV c 10 n * u := by
  have hO : numO c n 10 (1000000000 / u) = true := numO_yes h0 (fun h => h1 ⟨h.1, .inr h.2⟩) h2 h3
  unfold rnU
  split
  · rename_i e; subst e
    rw [show (1000000000 : Int) = 1000000000 / 1 by decide, numD_yes hO, Int.mul_one]
  · rename_i e
    have hc : c 0 ≠ 48 := fun h => h1 ⟨h, .inl e⟩
    rw [numD_yes hO, scaleD, if_neg (by have := h4 hc; omega)]
theorem not_dig {x : Int} (h : digB x = false) : dgV x 10 < 0 := by
  by_cases h1 : 0 ≤ dgV x 10
  · rw [(digB_iff x).2 h1] at h; cases h
  · omega
theorem one_yes {s : ByteArray} (h : s.size = 1) (h0 : byt s 0 = 48) : (s.toList == [48]) = true := by
  have hl : s.data.toList.length = 1 := by simpa using h
  obtain ⟨x, e⟩ := List.length_eq_one_iff.1 hl
  have hx : byt s 0 = (x.toNat : Int) := by rw [byt, e]; rfl
  have : x = 48 := UInt8.toNat_inj.1 (by show x.toNat = 48; omega)
  rw [ByteArray.toList_eq, e, this]; rfl
theorem one_no {s : ByteArray} (h : 1 < s.size ∨ (s.size = 1 ∧ byt s 0 ≠ 48)) : (s.toList == [48]) = false := by
  have hl : s.data.toList.length = s.size := by simp
  rw [ByteArray.toList_eq]
  cases hb : (s.data.toList == [48]) with
  | false => rfl
  | true =>
    have e := eq_of_beq hb
    rw [e] at hl
    simp only [List.length_cons, List.length_nil] at hl
    rcases h with h | ⟨_, h⟩
    · omega
    · exact absurd (by rw [byt, e]; rfl) h

set_option maxHeartbeats 4000000 in
theorem implReadNumber_1 (s : ByteArray) (w : World) (hs : s.size ≤ 1048576) (hpos : 0 < s.size) (h1 : byt s (s.size - 1) ≠ 107) (h2 : byt s (s.size - 1) ≠ 109) :
    Calls Tryd.prog 67 #[.string s] w fun e w' => e = .returned (outT (rnU (byt s) s.size 1)) ∧ w = w' := by
  have hpos' : 0 < (s.size : Int) := by omega
  have hlt : s.size - 1 < s.size := by omega
  have hbl := byt_eq hlt
  have e1 : ((s[s.size - 1].toNat : Int) == 107) = false := by rw [← hbl]; simpa using h1
  have e2 : ((s[s.size - 1].toNat : Int) == 109) = false := by rw [← hbl]; simpa using h2
  have hb0 := byt_eq hpos
  have hemp := empty_no hpos
  clear h1 h2 hbl
  by_cases hz : byt s 0 = 48 ∧ 1 < s.size
  · rw [outT_no (rnU_zero (.inr ⟨hz.1, .inr hz.2⟩))]
    have e3 : ((s[0].toNat : Int) == 48) = true := by rw [← hb0, hz.1]; rfl
    have e4 := one_no (.inl hz.2)
    clear hz hb0
    go_enter Tryd.func67, Tryd.ntmps67
    go_wp2
    go_ret2
    exact ⟨rfl, rfl⟩
  have hlead : ((s[0].toNat : Int) == 48) = false ∨ (((s[0].toNat : Int) == 48) = true ∧ (s.toList == [48]) = true) := by
    by_cases h : byt s 0 = 48
    · exact .inr ⟨by rw [← hb0, h]; rfl, one_yes (by omega) h⟩
    · exact .inl (by rw [← hb0]; simpa using h)
  have HZ := Lib.hid hz
  clear hz hb0
  rcases hlead with e3 | ⟨e3, e4⟩
  all_goals
    go_enter Tryd.func67, Tryd.ntmps67
    go_wp2
    go_loop [6, 7] (fun x i => ∃ k : Nat, k ≤ s.size ∧ x = .int .i64 (numV (byt s) 10 k) ∧ i = .int .i64 k ∧ allV (dgB (byt s) 10) k = true ∧ allV (leB (byt s) 10 (1000000000 / 1)) k = true ∧ numV (byt s) 10 k * 1 ≤ 1000000000 ∧ (byt s 0 ≠ 48 → 0 < k → 0 < numV (byt s) 10 k)) (fun _ i => s.size - (intOf i).toNat)
    case atStart => exact ⟨0, by omega, rfl, rfl, rfl, rfl, by simp [numV], fun _ h => absurd h (by omega)⟩
    case round =>
      obtain ⟨k, hk, rfl, rfl, hdg, hle, hhi, hps⟩ := hrel
      have hlo := numV_lo (show (0 : Int) ≤ 10 by omega) hdg
      have HDG := Lib.hid hdg
      have HLE := Lib.hid hle
      have HPS := Lib.hid hps
      clear hdg hle hps
      by_cases hlt : k < s.size
      · have hby := byt_eq hlt
        have h255 := byt_hi s k
        rw [hby] at h255
        have HBY := Lib.hid hby
        by_cases hdk : digB (byt s k) = true
        · have hqk : digB (s[k].toNat : Int) = true := by rw [← hby]; exact hdk
          have HQK := Lib.hid hqk
          have hb48 : 48 ≤ (s[k].toNat : Int) ∧ (s[k].toNat : Int) ≤ 57 := by simpa [digB] using hqk
          obtain ⟨hb1, hb2⟩ := hb48
          have HST : Hid (numV (byt s) 10 (k + 1) = 10 * numV (byt s) 10 k + ((s[k].toNat : Int) - 48)) := by
            show _ = _
            rw [numV, dgV_ten hdk, hby]
          have HDG' : Hid (allV (dgB (byt s) 10) (k + 1) = true) := by
            show _ = true
            rw [allV, HDG.out]; exact decide_eq_true ((digB_iff _).1 hdk)
          have HP' : Hid (byt s 0 ≠ 48 → 0 < numV (byt s) 10 (k + 1)) := by
            intro h
            rw [HST.out]
            cases k with
            | zero => rw [← HBY.out, numV]; have := HBY.out; omega
            | succ j => have := HPS.out h (by omega); omega
          clear hby hdk hqk
          by_cases hov : 1000000000 < (10 * numV (byt s) 10 k + ((s[k].toNat : Int) - 48)) * 1
          · have HNO := Lib.hid (outT_no (rnU_no (c := byt s) (n := s.size) (u := 1) (numO_big (k := k) hlt (by rw [HST.out]; exact big_iff (by omega) hov))))
            go_wp2_with (go_at_call 81; refine (isDigit_yes _ _ HQK.out).mono ?_; rintro e w1 ⟨rfl, rfl⟩)
            go_ret2
            exact ⟨by rw [HNO.out]; rfl, rfl⟩
          · have HLE' : Hid (allV (leB (byt s) 10 (1000000000 / 1)) (k + 1) = true) := by
              show _ = true
              rw [allV, HLE.out]; exact decide_eq_true (by rw [HST.out]; exact small_iff (by omega) hov)
            go_wp2_with (go_at_call 81; refine (isDigit_yes _ _ HQK.out).mono ?_; rintro e w1 ⟨rfl, rfl⟩)
            go_round
            case rel => exact ⟨k + 1, by omega, by rw [HST.out], by go_num, HDG'.out, HLE'.out, by rw [HST.out]; omega, fun h _ => HP'.out h⟩
            case measure => simp [intOf]; omega
        · have hdk' : digB (byt s k) = false := by simpa using hdk
          have hqk : digB (s[k].toNat : Int) = false := by rw [← hby]; exact hdk'
          have HQK := Lib.hid hqk
          have HNO := Lib.hid (outT_no (rnU_no (c := byt s) (n := s.size) (u := 1) (numO_bad (k := k) hlt (not_dig hdk'))))
          clear hby hdk hdk' hqk
          go_wp2_with (go_at_call 81; refine (isDigit_no _ _ HQK.out).mono ?_; rintro e w1 ⟨rfl, rfl⟩)
          go_ret2
          exact ⟨by rw [HNO.out]; rfl, rfl⟩
      · have hd : decide (k < s.size) = false := decide_eq_false hlt
        have HYES : Hid (outT (rnU (byt s) s.size 1) = .tuple #[.int .i64 (numV (byt s) 10 k * 1), .bool true]) := by
          show _ = _
          have hk' : k = s.size := by omega
          subst hk'
          rw [rnU_yes hpos (fun h => HZ.out ⟨h.1, by have := h.2; omega⟩) HDG.out HLE.out (fun h => HPS.out h hpos)]
          exact outT_yes (by omega)
        go_wp2_with fail
        go_ret2
        exact ⟨by rw [HYES.out]; simp, rfl⟩

set_option maxHeartbeats 4000000 in
theorem implReadNumber_107 (s : ByteArray) (w : World) (hs : s.size ≤ 1048576) (hpos : 0 < s.size) (h1 : byt s (s.size - 1) = 107) :
    Calls Tryd.prog 67 #[.string s] w fun e w' => e = .returned (outT (rnU (byt s) (s.size - 1) 1000)) ∧ w = w' := by
  have hpos' : 0 < (s.size : Int) := by omega
  have hlt : s.size - 1 < s.size := by omega
  have hbl := byt_eq hlt
  have e1 : ((s[s.size - 1].toNat : Int) == 107) = true := by rw [← hbl]; simpa using h1
  clear h1 hbl
  obtain ⟨t, ht⟩ : ∃ t, s.extract 0 (s.size - 1) = t := ⟨_, rfl⟩
  have hts : t.size = s.size - 1 := by rw [← ht]; exact size_extract (by omega)
  have HC : Hid (∀ i, i < t.size → byt s i = byt t i) := fun i hi => by rw [← ht, byt_extract (by omega), Nat.zero_add]
  rw [← hts]
  have htb : t.size ≤ 1048576 := by omega
  have HTS := Lib.hid hts
  clear hts
  rcases Nat.eq_zero_or_pos t.size with hz | htp
  · rw [outT_no (rnU_zero (.inl hz))]
    have hemp := empty_yes hz
    clear hz
    go_enter Tryd.func67, Tryd.ntmps67
    go_wp2
    go_ret2
    exact ⟨rfl, rfl⟩
  have hemp := empty_no htp
  have hb0 := (HC.out 0 htp).trans (byt_eq htp)
  have e4 := one_no (s := s) (.inl (by have := HTS.out; omega))
  by_cases hz : byt s 0 = 48
  · rw [outT_no (rnU_zero (.inr ⟨hz, .inl (by omega)⟩))]
    have e3 : ((t[0].toNat : Int) == 48) = true := by rw [← hb0, hz]; rfl
    clear hz hb0
    go_enter Tryd.func67, Tryd.ntmps67
    go_wp2
    go_ret2
    exact ⟨rfl, rfl⟩
  have e3 : ((t[0].toNat : Int) == 48) = false := by rw [← hb0]; simpa using hz
  have HZ := Lib.hid hz
  clear hz hb0
  go_enter Tryd.func67, Tryd.ntmps67
  go_wp2
  go_loop [6, 7] (fun x i => ∃ k : Nat, k ≤ t.size ∧ x = .int .i64 (numV (byt s) 10 k) ∧ i = .int .i64 k ∧ allV (dgB (byt s) 10) k = true ∧ allV (leB (byt s) 10 (1000000000 / 1000)) k = true ∧ numV (byt s) 10 k * 1000 ≤ 1000000000 ∧ (byt s 0 ≠ 48 → 0 < k → 0 < numV (byt s) 10 k)) (fun _ i => t.size - (intOf i).toNat)
  case atStart => exact ⟨0, by omega, rfl, rfl, rfl, rfl, by simp [numV], fun _ h => absurd h (by omega)⟩
  case round =>
    obtain ⟨k, hk, rfl, rfl, hdg, hle, hhi, hps⟩ := hrel
    have hlo := numV_lo (show (0 : Int) ≤ 10 by omega) hdg
    have HDG := Lib.hid hdg
    have HLE := Lib.hid hle
    have HPS := Lib.hid hps
    clear hdg hle hps
    by_cases hlt : k < t.size
    · have hby := ((HC.out k hlt).trans (byt_eq hlt))
      have h255 := byt_hi s k
      rw [hby] at h255
      have HBY := Lib.hid hby
      by_cases hdk : digB (byt s k) = true
      · have hqk : digB (t[k].toNat : Int) = true := by rw [← hby]; exact hdk
        have HQK := Lib.hid hqk
        have hb48 : 48 ≤ (t[k].toNat : Int) ∧ (t[k].toNat : Int) ≤ 57 := by simpa [digB] using hqk
        obtain ⟨hb1, hb2⟩ := hb48
        have HST : Hid (numV (byt s) 10 (k + 1) = 10 * numV (byt s) 10 k + ((t[k].toNat : Int) - 48)) := by
          show _ = _
          rw [numV, dgV_ten hdk, hby]
        have HDG' : Hid (allV (dgB (byt s) 10) (k + 1) = true) := by
          show _ = true
          rw [allV, HDG.out]; exact decide_eq_true ((digB_iff _).1 hdk)
        have HP' : Hid (byt s 0 ≠ 48 → 0 < numV (byt s) 10 (k + 1)) := by
          intro h
          rw [HST.out]
          cases k with
          | zero => rw [← HBY.out, numV]; have := HBY.out; omega
          | succ j => have := HPS.out h (by omega); omega
        clear hby hdk hqk
        by_cases hov : 1000000000 < (10 * numV (byt s) 10 k + ((t[k].toNat : Int) - 48)) * 1000
        · have HNO := Lib.hid (outT_no (rnU_no (c := byt s) (n := t.size) (u := 1000) (numO_big (k := k) hlt (by rw [HST.out]; exact big_iff (by omega) hov))))
          go_wp2_with (go_at_call 81; refine (isDigit_yes _ _ HQK.out).mono ?_; rintro e w1 ⟨rfl, rfl⟩)
          go_ret2
          exact ⟨by rw [HNO.out]; rfl, rfl⟩
        · have HLE' : Hid (allV (leB (byt s) 10 (1000000000 / 1000)) (k + 1) = true) := by
            show _ = true
            rw [allV, HLE.out]; exact decide_eq_true (by rw [HST.out]; exact small_iff (by omega) hov)
          go_wp2_with (go_at_call 81; refine (isDigit_yes _ _ HQK.out).mono ?_; rintro e w1 ⟨rfl, rfl⟩)
          go_round
          case rel => exact ⟨k + 1, by omega, by rw [HST.out], by go_num, HDG'.out, HLE'.out, by rw [HST.out]; omega, fun h _ => HP'.out h⟩
          case measure => simp [intOf]; omega
      · have hdk' : digB (byt s k) = false := by simpa using hdk
        have hqk : digB (t[k].toNat : Int) = false := by rw [← hby]; exact hdk'
        have HQK := Lib.hid hqk
        have HNO := Lib.hid (outT_no (rnU_no (c := byt s) (n := t.size) (u := 1000) (numO_bad (k := k) hlt (not_dig hdk'))))
        clear hby hdk hdk' hqk
        go_wp2_with (go_at_call 81; refine (isDigit_no _ _ HQK.out).mono ?_; rintro e w1 ⟨rfl, rfl⟩)
        go_ret2
        exact ⟨by rw [HNO.out]; rfl, rfl⟩
    · have hd : decide (k < t.size) = false := decide_eq_false hlt
      have HYES : Hid (outT (rnU (byt s) t.size 1000) = .tuple #[.int .i64 (numV (byt s) 10 k * 1000), .bool true]) := by
        show _ = _
        have hk' : k = t.size := by omega
        subst hk'
        rw [rnU_yes htp (fun h => HZ.out h.1) HDG.out HLE.out (fun h => HPS.out h htp)]
        exact outT_yes (by omega)
      go_wp2_with fail
      go_ret2
      exact ⟨by rw [HYES.out]; rfl, rfl⟩
set_option maxHeartbeats 4000000 in
theorem implReadNumber_109 (s : ByteArray) (w : World) (hs : s.size ≤ 1048576) (hpos : 0 < s.size) (h1 : byt s (s.size - 1) = 109) :
    Calls Tryd.prog 67 #[.string s] w fun e w' => e = .returned (outT (rnU (byt s) (s.size - 1) 1000000)) ∧ w = w' := by
  have hpos' : 0 < (s.size : Int) := by omega
  have hlt : s.size - 1 < s.size := by omega
  have hbl := byt_eq hlt
  have e1 : ((s[s.size - 1].toNat : Int) == 107) = false := by rw [← hbl, h1]; rfl
  have e2 : ((s[s.size - 1].toNat : Int) == 109) = true := by rw [← hbl, h1]; rfl
  clear h1 hbl
  obtain ⟨t, ht⟩ : ∃ t, s.extract 0 (s.size - 1) = t := ⟨_, rfl⟩
  have hts : t.size = s.size - 1 := by rw [← ht]; exact size_extract (by omega)
  have HC : Hid (∀ i, i < t.size → byt s i = byt t i) := fun i hi => by rw [← ht, byt_extract (by omega), Nat.zero_add]
  rw [← hts]
  have htb : t.size ≤ 1048576 := by omega
  have HTS := Lib.hid hts
  clear hts
  rcases Nat.eq_zero_or_pos t.size with hz | htp
  · rw [outT_no (rnU_zero (.inl hz))]
    have hemp := empty_yes hz
    clear hz
    go_enter Tryd.func67, Tryd.ntmps67
    go_wp2
    go_ret2
    exact ⟨rfl, rfl⟩
  have hemp := empty_no htp
  have hb0 := (HC.out 0 htp).trans (byt_eq htp)
  have e4 := one_no (s := s) (.inl (by have := HTS.out; omega))
  by_cases hz : byt s 0 = 48
  · rw [outT_no (rnU_zero (.inr ⟨hz, .inl (by omega)⟩))]
    have e3 : ((t[0].toNat : Int) == 48) = true := by rw [← hb0, hz]; rfl
    clear hz hb0
    go_enter Tryd.func67, Tryd.ntmps67
    go_wp2
    go_ret2
    exact ⟨rfl, rfl⟩
  have e3 : ((t[0].toNat : Int) == 48) = false := by rw [← hb0]; simpa using hz
  have HZ := Lib.hid hz
  clear hz hb0
  go_enter Tryd.func67, Tryd.ntmps67
  go_wp2
  go_loop [6, 7] (fun x i => ∃ k : Nat, k ≤ t.size ∧ x = .int .i64 (numV (byt s) 10 k) ∧ i = .int .i64 k ∧ allV (dgB (byt s) 10) k = true ∧ allV (leB (byt s) 10 (1000000000 / 1000000)) k = true ∧ numV (byt s) 10 k * 1000000 ≤ 1000000000 ∧ (byt s 0 ≠ 48 → 0 < k → 0 < numV (byt s) 10 k)) (fun _ i => t.size - (intOf i).toNat)
  case atStart => exact ⟨0, by omega, rfl, rfl, rfl, rfl, by simp [numV], fun _ h => absurd h (by omega)⟩
  case round =>
    obtain ⟨k, hk, rfl, rfl, hdg, hle, hhi, hps⟩ := hrel
    have hlo := numV_lo (show (0 : Int) ≤ 10 by omega) hdg
    have HDG := Lib.hid hdg
    have HLE := Lib.hid hle
    have HPS := Lib.hid hps
    clear hdg hle hps
    by_cases hlt : k < t.size
    · have hby := ((HC.out k hlt).trans (byt_eq hlt))
      have h255 := byt_hi s k
      rw [hby] at h255
      have HBY := Lib.hid hby
      by_cases hdk : digB (byt s k) = true
      · have hqk : digB (t[k].toNat : Int) = true := by rw [← hby]; exact hdk
        have HQK := Lib.hid hqk
        have hb48 : 48 ≤ (t[k].toNat : Int) ∧ (t[k].toNat : Int) ≤ 57 := by simpa [digB] using hqk
        obtain ⟨hb1, hb2⟩ := hb48
        have HST : Hid (numV (byt s) 10 (k + 1) = 10 * numV (byt s) 10 k + ((t[k].toNat : Int) - 48)) := by
          show _ = _
          rw [numV, dgV_ten hdk, hby]
        have HDG' : Hid (allV (dgB (byt s) 10) (k + 1) = true) := by
          show _ = true
          rw [allV, HDG.out]; exact decide_eq_true ((digB_iff _).1 hdk)
        have HP' : Hid (byt s 0 ≠ 48 → 0 < numV (byt s) 10 (k + 1)) := by
          intro h
          rw [HST.out]
          cases k with
          | zero => rw [← HBY.out, numV]; have := HBY.out; omega
          | succ j => have := HPS.out h (by omega); omega
        clear hby hdk hqk
        by_cases hov : 1000000000 < (10 * numV (byt s) 10 k + ((t[k].toNat : Int) - 48)) * 1000000
        · have HNO := Lib.hid (outT_no (rnU_no (c := byt s) (n := t.size) (u := 1000000) (numO_big (k := k) hlt (by rw [HST.out]; exact big_iff (by omega) hov))))
          go_wp2_with (go_at_call 81; refine (isDigit_yes _ _ HQK.out).mono ?_; rintro e w1 ⟨rfl, rfl⟩)
          go_ret2
          exact ⟨by rw [HNO.out]; rfl, rfl⟩
        · have HLE' : Hid (allV (leB (byt s) 10 (1000000000 / 1000000)) (k + 1) = true) := by
            show _ = true
            rw [allV, HLE.out]; exact decide_eq_true (by rw [HST.out]; exact small_iff (by omega) hov)
          go_wp2_with (go_at_call 81; refine (isDigit_yes _ _ HQK.out).mono ?_; rintro e w1 ⟨rfl, rfl⟩)
          go_round
          case rel => exact ⟨k + 1, by omega, by rw [HST.out], by go_num, HDG'.out, HLE'.out, by rw [HST.out]; omega, fun h _ => HP'.out h⟩
          case measure => simp [intOf]; omega
      · have hdk' : digB (byt s k) = false := by simpa using hdk
        have hqk : digB (t[k].toNat : Int) = false := by rw [← hby]; exact hdk'
        have HQK := Lib.hid hqk
        have HNO := Lib.hid (outT_no (rnU_no (c := byt s) (n := t.size) (u := 1000000) (numO_bad (k := k) hlt (not_dig hdk'))))
        clear hby hdk hdk' hqk
        go_wp2_with (go_at_call 81; refine (isDigit_no _ _ HQK.out).mono ?_; rintro e w1 ⟨rfl, rfl⟩)
        go_ret2
        exact ⟨by rw [HNO.out]; rfl, rfl⟩
    · have hd : decide (k < t.size) = false := decide_eq_false hlt
      have HYES : Hid (outT (rnU (byt s) t.size 1000000) = .tuple #[.int .i64 (numV (byt s) 10 k * 1000000), .bool true]) := by
        show _ = _
        have hk' : k = t.size := by omega
        subst hk'
        rw [rnU_yes htp (fun h => HZ.out h.1) HDG.out HLE.out (fun h => HPS.out h htp)]
        exact outT_yes (by omega)
      go_wp2_with fail
      go_ret2
      exact ⟨by rw [HYES.out]; rfl, rfl⟩

theorem implReadNumber_0 (s : ByteArray) (w : World) (hs : s.size = 0) :
    Calls Tryd.prog 67 #[.string s] w fun e w' => e = .returned (outT (rnU (byt s) s.size 1)) ∧ w = w' := by
  rw [outT_no (rnU_zero (.inl hs))]
  have hd : decide (0 < s.size) = false := decide_eq_false (by omega)
  have hemp := empty_yes hs
  clear hs
  go_enter Tryd.func67, Tryd.ntmps67
  go_wp2
  go_ret2
  exact ⟨rfl, rfl⟩
theorem implReadNumber_any (s : ByteArray) (w : World) (hs : s.size ≤ 1048576) :
    Calls Tryd.prog 67 #[.string s] w fun e w' => e = .returned (outT (rnD s)) ∧ w = w' := by
  unfold rnD
  split
  · rename_i h
    exact implReadNumber_109 s w hs h.1 h.2
  · rename_i h
    split
    · rename_i h2
      exact implReadNumber_107 s w hs h2.1 h2.2
    · rename_i h2
      rcases Nat.eq_zero_or_pos s.size with hz | hpos
      · exact implReadNumber_0 s w hz
      · exact implReadNumber_1 s w hs hpos (fun e => h2 ⟨hpos, e⟩) (fun e => h ⟨hpos, e⟩)
end Go.Proofs.YtopolfibledmnaaDoor
