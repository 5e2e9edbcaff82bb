/-
  ReadHex, the program's and the reference's: both return the number of the digits behind 0x; the walk of FnExactReadHex.
-/
import Derived.Test.YtopolfibledmnaaDoorNum
import Derived.Test.YtopolfibledmnaaDoorBits
import Derived.Test.YtopolfibledmnaaDoorHexDigit
namespace Go.Proofs.YtopolfibledmnaaDoor
open Go.RowKit
/-- Whether a text begins with 0x. -/
def isHexB (s : ByteArray) : Bool := decide (2 ≤ s.size ∧ byt s 0 = 48 ∧ byt s 1 = 120)
/-- The value of a hexadecimal text, or -1. -/
def rhD (s : ByteArray) : Int := if isHexB s then numD (fun i => byt s (i + 2)) (s.size - 2) 16 65535 else -1
/-- A value and whether it is one. -/
def outT (x : Int) : Value := .tuple #[.int .i64 (if x < 0 then 0 else x), .bool (decide (0 ≤ x))]
theorem outT_no {x : Int} (h : x < 0) : outT x = .tuple #[.int .i64 0, .bool false] := by rw [outT, if_pos h, decide_eq_false (by omega)]
theorem outT_yes {x : Int} (h : 0 ≤ x) : outT x = .tuple #[.int .i64 x, .bool true] := by rw [outT, if_neg (by omega), decide_eq_true h]
theorem byt_extract {s : ByteArray} {a b i : Nat} (h : a + i < b) : byt (s.extract a b) i = byt s (a + i) := by
  unfold byt
  rw [Lib.extract_data, List.getElem?_take, if_pos (by omega), List.getElem?_drop]
theorem size_extract {s : ByteArray} {a b : Nat} (hb : b ≤ s.size) : (s.extract a b).size = b - a := by
  rw [ByteArray.size_extract, Nat.min_eq_left hb]
theorem nuIsHex_any (s : ByteArray) (w : World) (hs : s.size ≤ 1048576) :
    Calls Tryd.prog 90 #[.string s] w fun e w' => e = .returned (.bool (isHexB s)) ∧ w = w' := by
  by_cases h2 : 2 ≤ s.size
  · have h2' : 2 ≤ (s.size : Int) := by omega
    by_cases h : byt s 0 = 48 ∧ byt s 1 = 120
    · rw [show isHexB s = true from decide_eq_true ⟨h2, h⟩]
      have hp := pre0x_yes (a := 0) h2 h.1 h.2
      clear h
      go_enter Tryd.func90, Tryd.ntmps90
      go_wp2
      go_ret
      exact ⟨rfl, rfl⟩
    · rw [show isHexB s = false from decide_eq_false fun hh => h hh.2]
      have hp := pre0x_no (a := 0) h2 h
      clear h
      go_enter Tryd.func90, Tryd.ntmps90
      go_wp2
      go_ret
      exact ⟨rfl, rfl⟩
  · rw [show isHexB s = false from decide_eq_false fun hh => h2 hh.1]
    have h2' : decide (2 ≤ (s.size : Int)) = false := decide_eq_false (by omega)
    go_enter Tryd.func90, Tryd.ntmps90
    go_wp2
    go_ret
    exact ⟨rfl, rfl⟩
theorem nuReadHex_any (s : ByteArray) (w : World) (hs : s.size ≤ 1048576) :
    Calls Tryd.prog 91 #[.string s] w fun e w' => e = .returned (.int .i64 (rhD s)) ∧ w = w' := by
  have H1 := Lib.hid (nuIsHex_any s w hs)
  by_cases h : isHexB s = true
  · have h2 : 2 ≤ s.size := (of_decide_eq_true h).1
    have h2' : 2 ≤ (s.size : Int) := by omega
    have H2 := Lib.hid (nuDigits_any (s.extract 2 s.size) (fun i => byt s (i + 2)) 16 65535 w (by rw [size_extract (Nat.le_refl _)]; omega) (fun i hi => by rw [size_extract (Nat.le_refl _)] at hi; rw [byt_extract (by omega), Nat.add_comm]) (by omega) (by omega) (by omega) (by omega))
    rw [size_extract (Nat.le_refl _)] at H2
    rw [h] at H1
    rw [rhD, if_pos h]
    clear h
    go_enter Tryd.func91, Tryd.ntmps91
    go_wp2_with (first | (go_at_call 90; refine H1.out.mono ?_; rintro e w1 ⟨rfl, rfl⟩) | (go_at_call 93; refine H2.out.mono ?_; rintro e w1 ⟨rfl, rfl⟩))
    go_ret
    exact ⟨rfl, rfl⟩
  · have h' : isHexB s = false := by simpa using h
    rw [h'] at H1
    rw [rhD, if_neg h]
    clear h h'
    go_enter Tryd.func91, Tryd.ntmps91
    go_wp2_with (go_at_call 90; refine H1.out.mono ?_; rintro e w1 ⟨rfl, rfl⟩)
    go_ret
    exact ⟨rfl, rfl⟩
set_option maxHeartbeats 1000000 in
theorem implReadHex_any (s : ByteArray) (w : World) (hs : s.size ≤ 1048576) :
    Calls Tryd.prog 66 #[.string s] w fun e w' => e = .returned (outT (rhD s)) ∧ w = w' := by
  by_cases h3 : s.size < 3
  · have hno : rhD s < 0 := by
      unfold rhD
      split
      · rename_i h
        have := (of_decide_eq_true h).1
        rw [show s.size - 2 = 0 by omega, numD_no (numO_zero (.inl rfl))]; omega
      · omega
    rw [outT_no hno]
    have h3' : (s.size : Int) < 3 := by omega
    clear hno
    go_enter Tryd.func66, Tryd.ntmps66
    go_wp2
    go_ret2
    exact ⟨rfl, rfl⟩
  have d3 : decide ((s.size : Int) < 3) = false := decide_eq_false (by omega)
  have hl0 : 0 < s.size := by omega
  have hl1 : 1 < s.size := by omega
  have hl2 : 2 < s.size := by omega
  have b0 := byt_eq hl0
  have b1 := byt_eq hl1
  have b2 := byt_eq hl2
  by_cases h0 : byt s 0 = 48
  rotate_left
  · rw [outT_no (by rw [rhD, if_neg (by simp [isHexB, h0])]; omega)]
    have e0 : ((s[0].toNat : Int) != 48) = true := by rw [← b0]; simpa using h0
    clear b0 b1 b2 h0
    go_enter Tryd.func66, Tryd.ntmps66
    go_wp2
    go_ret2
    exact ⟨rfl, rfl⟩
  have e0 : ((s[0].toNat : Int) != 48) = false := by rw [← b0]; simpa using h0
  by_cases h1 : byt s 1 = 120
  rotate_left
  · rw [outT_no (by rw [rhD, if_neg (by simp [isHexB, h1])]; omega)]
    have e1 : ((s[1].toNat : Int) != 120) = true := by rw [← b1]; simpa using h1
    clear b0 b1 b2 h0 h1
    go_enter Tryd.func66, Tryd.ntmps66
    go_wp2
    go_ret2
    exact ⟨rfl, rfl⟩
  have e1 : ((s[1].toNat : Int) != 120) = false := by rw [← b1]; simpa using h1
  have hhex : isHexB s = true := decide_eq_true ⟨by omega, h0, h1⟩
  rw [rhD, if_pos hhex]
  clear hhex h0 h1 b0 b1
  by_cases hz : byt s 2 = 48 ∧ 1 < s.size - 2
  · rw [outT_no (by rw [numD_no (numO_zero (.inr hz))]; omega)]
    have e2 : ((s[2].toNat : Int) == 48) = true := by rw [← b2]; simpa using hz.1
    have e3 : 3 < (s.size : Int) := by omega
    clear b2 hz
    go_enter Tryd.func66, Tryd.ntmps66
    go_wp2
    go_ret2
    exact ⟨rfl, rfl⟩
  have hlead' : ((s[2].toNat : Int) == 48) = false ∨ (((s[2].toNat : Int) == 48) = true ∧ decide (3 < (s.size : Int)) = false) := by
    by_cases h : byt s 2 = 48
    · exact .inr ⟨by rw [← b2, h]; rfl, decide_eq_false (by omega)⟩
    · exact .inl (by rw [← b2]; simpa using h)
  have HZ := Lib.hid hz
  clear hz b2
  rcases hlead' with e2 | ⟨e2, e3⟩
  all_goals
    go_enter Tryd.func66, Tryd.ntmps66
    go_wp2
    go_loop [4, 5, 6] (fun x i _ => ∃ k : Nat, k + 2 ≤ s.size ∧ x = .int .i64 (numV (fun i => byt s (i + 2)) 16 k) ∧ i = .int .i64 ((k + 2 : Nat) : Int) ∧ allV (dgB (fun i => byt s (i + 2)) 16) k = true ∧ allV (leB (fun i => byt s (i + 2)) 16 65535) k = true ∧ numV (fun i => byt s (i + 2)) 16 k ≤ 65535) (fun _ i _ => s.size - (intOf i).toNat)
    case atStart => exact ⟨0, by omega, rfl, rfl, rfl, rfl, by simp [numV]⟩
    case round =>
      obtain ⟨k, hk, rfl, rfl, hdg, hle, hhi⟩ := hrel
      have hlo := numV_lo (show (0 : Int) ≤ 16 by omega) hdg
      have HDG := Lib.hid hdg
      have HLE := Lib.hid hle
      clear hdg hle
      by_cases hlt : k + 2 < s.size
      · have hby := byt_eq hlt
        have hv0 := hexV_bd (s[k + 2].toNat : Int)
        have h255 := byt_hi s (k + 2)
        rw [hby] at h255
        have HBY := Lib.hid (show dgV (byt s (k + 2)) 16 = hexV (s[k + 2].toNat : Int) by rw [dgV_hex, hby])
        clear hby
        obtain ⟨hvl, hvh⟩ := hv0
        by_cases hbad : hexV (s[k + 2].toNat : Int) < 0
        · have HNO := Lib.hid (outT_no (x := numD (fun i => byt s (i + 2)) (s.size - 2) 16 65535) (by rw [numD_no (numO_bad (k := k) (by omega) (by show dgV (byt s (k + 2)) 16 < 0; rw [HBY.out]; exact hbad))]; omega))
          go_wp2_with (go_at_call 80; refine (hexDigit_any _ _ (by omega) (by omega)).mono ?_; rintro e w1 ⟨rfl, rfl⟩)
          go_ret2
          exact ⟨by rw [HNO.out]; rfl, rfl⟩
        · have hor := or_nibble (numV (fun i => byt s (i + 2)) 16 k) (hexV (s[k + 2].toNat : Int)) hlo (by omega) (by omega) hvh
          have HST : Hid (numV (fun i => byt s (i + 2)) 16 (k + 1) = numV (fun i => byt s (i + 2)) 16 k * 16 + hexV (s[k + 2].toNat : Int)) := by
            show _ = _
            rw [numV]
            show 16 * _ + dgV (byt s (k + 2)) 16 = _
            rw [HBY.out, Int.mul_comm]
          by_cases hov : 65535 < numV (fun i => byt s (i + 2)) 16 k * 16 + hexV (s[k + 2].toNat : Int)
          · have HNO := Lib.hid (outT_no (x := numD (fun i => byt s (i + 2)) (s.size - 2) 16 65535) (by rw [numD_no (numO_big (k := k) (by omega) (by rw [HST.out]; exact hov))]; omega))
            go_wp2_with (go_at_call 80; refine (hexDigit_any _ _ (by omega) (by omega)).mono ?_; rintro e w1 ⟨rfl, rfl⟩)
            go_ret2
            exact ⟨by rw [HNO.out]; rfl, rfl⟩
          · go_wp2_with (go_at_call 80; refine (hexDigit_any _ _ (by omega) (by omega)).mono ?_; rintro e w1 ⟨rfl, rfl⟩)
            go_round
            case rel => exact ⟨k + 1, by omega, by rw [HST.out], by go_num, by rw [allV, HDG.out]; exact decide_eq_true (by show 0 ≤ dgV (byt s (k + 2)) 16; rw [HBY.out]; omega), by rw [allV, HLE.out]; exact decide_eq_true (by rw [HST.out]; omega), by rw [HST.out]; omega⟩
            case measure => simp [intOf]; omega
      · have hd : decide (k + 2 < s.size) = false := decide_eq_false hlt
        have hd' : decide ((k : Int) + 2 < (s.size : Int)) = false := decide_eq_false (by omega)
        have HYES : Hid (outT (numD (fun i => byt s (i + 2)) (s.size - 2) 16 65535) = .tuple #[.int .i64 (numV (fun i => byt s (i + 2)) 16 k), .bool true]) := by
          show _ = _
          have hk' : k = s.size - 2 := by omega
          subst hk'
          rw [numD_yes (numO_yes (by omega) HZ.out HDG.out HLE.out)]
          exact outT_yes hlo
        go_wp2
        go_ret2
        exact ⟨by rw [HYES.out]; rfl, rfl⟩
end Go.Proofs.YtopolfibledmnaaDoor
