/-
  HexText, the program's and the reference's: both return 0x and the digits of hexL; the walk of FnExactHexText.
-/
import Derived.Test.YtkcigdcjpnojnaaHexOfWalk
namespace Go.Proofs.Ytkcigdcjpnojnaa
open Go.RowKit
set_option maxHeartbeats 400000 in
theorem nuHex_any (n : Nat) (w : World) (h : n < 4294967296) :
    Calls Try.prog 32 #[.int .i64 n] w fun e w' => e = .returned (.string ⟨(48 :: 120 :: hexL n).toArray⟩) ∧ w = w' := by
  go_enter Try.func32, Try.ntmps32
  go_wp2
  go_loop [0, 3, 4] (fun m ds ok => ∃ (k : Nat) (l : List UInt8) (b : Bool), k < 4294967296 ∧ m = .int .i64 k ∧ ds = .string ⟨l.toArray⟩ ∧ ok = .bool b ∧ (b = true ↔ (0 < k ∨ l = [])) ∧ HexSt n k l) (fun m ds _ => 2 * (intOf m).toNat + emptyBit ds)
  case atStart => exact ⟨n, [], true, h, rfl, rfl, rfl, by simp, .inl ⟨rfl, rfl⟩⟩
  case round =>
    obtain ⟨k, l, b, hk, rfl, rfl, rfl, hb, hst⟩ := hrel
    have hs := slice_hex ((k : Int) % 16) (by omega) (by omega)
    have hl := hst.len h
    have HS := Lib.hid hst
    cases b with
    | true =>
      have hb' := hb.1 rfl
      have HB := Lib.hid hb'
      have hm : 2 * (k / 16) < 2 * k + emptyBit (.string ⟨l.toArray⟩) := by
        rcases hb' with h1 | h1
        · omega
        · rw [h1, emptyBit_nil]; omega
      have HM := Lib.hid hm
      clear hst hb hb' hm
      by_cases hq : 0 < (k : Int) / 16
      · go_wp2
        go_round
        case rel => exact ⟨k / 16, hexB (k % 16) :: l, true, by omega, by go_num, str_cat _ _, rfl, by simp; omega, HS.out.step HB.out⟩
        case measure => have := HM.out; simp only [intOf, emptyBit_cat] at this ⊢; omega
      · go_wp2
        go_round
        case rel => exact ⟨k / 16, hexB (k % 16) :: l, false, by omega, by go_num, str_cat _ _, rfl, by simp; omega, HS.out.step HB.out⟩
        case measure => have := HM.out; simp only [intOf, emptyBit_cat] at this ⊢; omega
    | false =>
      have hb' : ¬ (0 < k ∨ l = []) := fun h => by have := hb.2 h; cases this
      have HB := Lib.hid hb'
      clear hst hb hb'
      go_wp2
      go_ret
      refine ⟨?_, rfl⟩
      have h1 := HB.out
      have := HS.out.done (by omega) (fun h => h1 (.inr h))
      subst this
      exact congrArg (fun x => Ending.returned (.string x)) (cat_lists [48, 120] _)
theorem fnExactHexText_walk (n : Int) (_ : -9223372036854775808 ≤ n) (_ : n ≤ 9223372036854775807) (w : World) :
    Calls Try.prog 4 #[.int .i64 n] w fun e w' => e = .returned (.bool true) ∧ Below w.heap.size w w' := by
  by_cases h : n < 0 ∨ 65535 < n
  · rcases (show n < 0 ∨ (0 ≤ n ∧ 65535 < n) by omega) with h1 | ⟨h1, h2⟩
    all_goals
      clear h
      go_enter Try.func4, Try.ntmps4
      go_wp2_with (first | (go_at_call 31; refine (l1In_yes _ _ _ _ (by omega) (by omega)).mono ?_; rintro e w1 ⟨rfl, rfl⟩) | (go_at_call 31; refine (l1In_no _ _ _ _ (by omega)).mono ?_; rintro e w1 ⟨rfl, rfl⟩) | go_in)
      go_ret
      exact ⟨rfl, Below.refl _ _⟩
  · obtain ⟨m, rfl⟩ := Int.eq_ofNat_of_zero_le (show 0 ≤ n by omega)
    go_enter Try.func4, Try.ntmps4
    go_wp2_with (first | (go_at_call 31; refine (l1In_yes _ _ _ _ (by omega) (by omega)).mono ?_; rintro e w1 ⟨rfl, rfl⟩) | (go_at_call 31; refine (l1In_no _ _ _ _ (by omega)).mono ?_; rintro e w1 ⟨rfl, rfl⟩) | (go_at_call 33; refine (implHexOf_yes _ _ (by omega)).mono ?_; rintro e w1 ⟨rfl, rfl⟩) | (go_at_call 32; refine (nuHex_any _ _ (by omega)).mono ?_; rintro e w1 ⟨rfl, rfl⟩) | go_in)
    go_ret
    exact ⟨rfl, Below.refl _ _⟩
end Go.Proofs.Ytkcigdcjpnojnaa
