/-
  IsCanonical, the program's and the reference's: both compare the canonical text of what is read; the walk of FnExactIsCanonical.
-/
import Derived.Test.YtkcigdcjpnojnaaDoorNumText
import Derived.Test.YtkcigdcjpnojnaaDoorReadNumberWalk
namespace Go.Proofs.YtkcigdcjpnojnaaDoor
open Go.RowKit
theorem rnD_le (s : ByteArray) : rnD s ≤ 1000000000 := by
  unfold rnD
  split
  · have := numD_le (byt s) (s.size - 1) 10 1000 (by omega)
    unfold scaleD
    split <;> omega
  · split
    · have := numD_le (byt s) (s.size - 1) 10 1000000 (by omega)
      unfold scaleD
      split <;> omega
    · exact numD_le _ _ _ _ (by omega)
def canB (s : ByteArray) : Bool := decide (0 ≤ rnD s) && ((txt (rnD s).toNat).toList == s.toList)
set_option maxHeartbeats 1000000 in
theorem specIsCanonical_any (s : ByteArray) (w : World) (hs : s.size ≤ 1048576) : Calls Tryd.prog 13 #[.string s] w fun e w' => e = .returned (.bool (canB s)) ∧ Below w.heap.size w w' := by
  have HR := Lib.hid (fun W => nuRead_any s W hs)
  have hle := rnD_le s
  have HC : Hid (canB s = (decide (0 ≤ rnD s) && ((txt (rnD s).toNat).toList == s.toList))) := rfl
  generalize rnD s = x at *
  by_cases hx : 0 ≤ x
  · obtain ⟨n, rfl⟩ : ∃ n : Nat, x = n := ⟨x.toNat, by omega⟩
    have HN := Lib.hid (fun W => nuText_any n W (by omega))
    rw [Int.toNat_natCast, decide_eq_true hx, Bool.true_and] at HC
    go_enter Tryd.func13, Tryd.ntmps13
    go_wp2_with fail
    refine (HR.out _).mono ?_
    rintro e w1 ⟨rfl, hb1⟩
    have B1 := Lib.hid hb1
    clear hb1
    go_wp2_with fail
    refine (HR.out _).mono ?_
    rintro e w2 ⟨rfl, hb2⟩
    have B2 := Lib.hid (belNext B1.out hb2)
    clear hb2
    go_wp2_with fail
    refine (HN.out _).mono ?_
    rintro e w3 ⟨rfl, hb3⟩
    have B3 := Lib.hid (belNext B2.out hb3)
    clear hb3
    go_wp2_with fail
    go_ret
    exact ⟨by rw [HC.out]; rfl, B3.out⟩
  · have hd : decide (0 ≤ x) = false := decide_eq_false hx
    rw [hd, Bool.false_and] at HC
    go_enter Tryd.func13, Tryd.ntmps13
    go_wp2_with fail
    refine (HR.out _).mono ?_
    rintro e w1 ⟨rfl, hb1⟩
    have B1 := Lib.hid hb1
    clear hb1
    go_wp2_with fail
    go_ret
    exact ⟨by rw [HC.out]; rfl, B1.out⟩
set_option maxHeartbeats 1000000 in
theorem implIsCanonical_any (s : ByteArray) (w : World) (hs : s.size ≤ 1048576) (hT : Pow10 w) : Calls Tryd.prog 14 #[.string s] w fun e w' => e = .returned (.bool (canB s)) ∧ Below w.heap.size w w' := by
  have HR := Lib.hid (implReadNumber_any s w hs)
  have HTT := Lib.hid hT
  have hle := rnD_le s
  have HC : Hid (canB s = (decide (0 ≤ rnD s) && ((txt (rnD s).toNat).toList == s.toList))) := rfl
  clear hT
  generalize rnD s = x at *
  by_cases hx : 0 ≤ x
  · rw [outT_yes hx] at HR
    obtain ⟨n, rfl⟩ : ∃ n : Nat, x = n := ⟨x.toNat, by omega⟩
    have HN := Lib.hid (fun W => numberText_any n W (by omega))
    rw [Int.toNat_natCast, decide_eq_true hx, Bool.true_and] at HC
    go_enter Tryd.func14, Tryd.ntmps14
    go_wp2_with fail
    refine HR.out.mono ?_
    rintro e w1 ⟨rfl, rfl⟩
    go_wp2_with fail
    refine (HN.out _ HTT.out).mono ?_
    rintro e w3 ⟨rfl, hb3⟩
    have B3 := Lib.hid hb3
    clear hb3
    go_wp2_with fail
    go_ret
    exact ⟨by rw [HC.out]; rfl, B3.out⟩
  · rw [outT_no (by omega)] at HR
    rw [decide_eq_false hx, Bool.false_and] at HC
    go_enter Tryd.func14, Tryd.ntmps14
    go_wp2_with fail
    refine HR.out.mono ?_
    rintro e w1 ⟨rfl, rfl⟩
    go_wp2_with fail
    go_ret
    exact ⟨by rw [HC.out]; rfl, Below.refl _ _⟩
set_option maxHeartbeats 1000000 in
theorem fnExactIsCanonical_walk (s : ByteArray) (_ : s.size ≤ maxLen) (w : World) (hL : laidMetH Tryd.prog Rows.fnExactIsCanonicalRow.laid w) :
    Calls Tryd.prog 5 #[.string s] w fun e w' => e = .returned (.bool true) ∧ Below w.heap.size w w' := by
  have HT := Lib.hid (pow10_of hL (by simp [Rows.fnExactIsCanonicalRow]))
  clear hL
  by_cases hbig : 1048576 < (s.size : Int)
  · go_enter Tryd.func5, Tryd.ntmps5
    go_wp2_with fail
    go_ret
    exact ⟨rfl, Below.refl _ _⟩
  · have HS := Lib.hid (fun W => specIsCanonical_any s W (by omega))
    have HI := Lib.hid (fun W => implIsCanonical_any s W (by omega))
    go_enter Tryd.func5, Tryd.ntmps5
    go_wp2_with fail
    refine (HS.out _).mono ?_
    rintro e w1 ⟨rfl, hb1⟩
    have B1 := Lib.hid hb1
    have HT1 := Lib.hid (HT.out.later hb1)
    clear hb1
    go_wp2_with fail
    refine (HI.out _ HT1.out).mono ?_
    rintro e w2 ⟨rfl, hb2⟩
    have B2 := Lib.hid (belNext B1.out hb2)
    clear hb2
    go_wp2_with fail
    go_ret
    exact ⟨rfl, B2.out⟩
end Go.Proofs.YtkcigdcjpnojnaaDoor
