/-
  HexOf, the program's and the reference's: both return 0x and the digits of hexL; the walk of FnExactHexOf.
-/
import Derived.Test.YtkcigdcjpnojnaaIn
import Derived.Test.YtkcigdcjpnojnaaHexLaws
namespace Go.Proofs.Ytkcigdcjpnojnaa
open Go.RowKit
/-- What the program's loop has done when k is still to be written and l stands: nothing yet, or l is the tail of the digits. -/
def HexSt (n k : Nat) (l : List UInt8) : Prop := (l = [] ∧ k = n) ∨ (l ≠ [] ∧ hexL n = (if k = 0 then [] else hexL k) ++ l)
theorem HexSt.len {n k : Nat} {l : List UInt8} (h : HexSt n k l) (hn : n < 4294967296) : l.length ≤ 8 := by
  rcases h with ⟨rfl, _⟩ | ⟨_, h⟩
  · simp
  · have := hexL_length 7 n (by omega)
    rw [h] at this
    simp at this; omega
theorem HexSt.step {n k : Nat} {l : List UInt8} (h : HexSt n k l) (hk : 0 < k ∨ l = []) : HexSt n (k / 16) (hexB (k % 16) :: l) := by
  right
  refine ⟨by simp, ?_⟩
  have key : hexL k = (if k / 16 = 0 then [] else hexL (k / 16)) ++ [hexB (k % 16)] := by
    by_cases h1 : k < 16
    · rw [hexL_small h1, if_pos (by omega), show k % 16 = k by omega, List.nil_append]
    · rw [hexL_big (by omega), if_neg (by omega)]
  rcases h with ⟨rfl, rfl⟩ | ⟨h1, h2⟩
  · exact key
  · have hk0 : 0 < k := hk.resolve_right h1
    rw [if_neg (by omega)] at h2
    rw [h2, key]; simp
theorem HexSt.done {n k : Nat} {l : List UInt8} (h : HexSt n k l) (hk : k = 0) (hl : l ≠ []) : l = hexL n := by
  rcases h with ⟨h, _⟩ | ⟨_, h⟩
  · exact absurd h hl
  · rw [h, if_pos hk]; rfl
def emptyBit : Value → Nat
  | .string s => if s.data.toList.isEmpty then 1 else 0
  | _ => 0
theorem emptyBit_cat (x : UInt8) (b : List UInt8) : emptyBit (.string (⟨#[x]⟩ ++ ⟨b.toArray⟩)) = 0 := by rw [str_cat]; simp [emptyBit]
theorem emptyBit_nil : emptyBit (.string ⟨([] : List UInt8).toArray⟩) = 1 := rfl
set_option maxHeartbeats 400000 in
theorem implHexOf_yes (n : Nat) (w : World) (h : n < 4294967296) :
    Calls Try.prog 33 #[.int .i64 n] w fun e w' => e = .returned (.tuple #[.string ⟨(48 :: 120 :: hexL n).toArray⟩, .bool true]) ∧ w = w' := by
  have hd0 : decide ((n : Int) < 0) = false := decide_eq_false (by omega)
  have hd1 : decide (4294967295 < (n : Int)) = false := decide_eq_false (by omega)
  go_enter Try.func33, Try.ntmps33
  go_wp2
  go_loop [0, 4] (fun m ds => ∃ (k : Nat) (l : List UInt8), k < 4294967296 ∧ m = .int .i64 k ∧ ds = .string ⟨l.toArray⟩ ∧ HexSt n k l) (fun m ds => 2 * (intOf m).toNat + emptyBit ds)
  case atStart => exact ⟨n, [], h, rfl, rfl, .inl ⟨rfl, rfl⟩⟩
  case round =>
    obtain ⟨k, l, hk, rfl, rfl, hst⟩ := hrel
    have ha := and15 k hk
    have hs := slice_hex ((k : Int) % 16) (by omega) (by omega)
    have hl := hst.len h
    have HS := Lib.hid hst
    clear hst
    by_cases h0 : 0 < k
    · go_wp2
      go_round
      case rel => exact ⟨k / 16, hexB (k % 16) :: l, by omega, by go_num, str_cat _ _, HS.out.step (.inl h0)⟩
      case measure => simp only [intOf, emptyBit_cat]; omega
    · have hd : decide ((0 : Int) < (k : Int)) = false := by simp; omega
      by_cases hle : l = []
      · have hem : l.isEmpty = true := by simp [hle]
        have HL := Lib.hid hle
        clear hle
        go_wp2
        go_round
        case rel => exact ⟨k / 16, hexB (k % 16) :: l, by omega, by go_num, str_cat _ _, HS.out.step (.inr HL.out)⟩
        case measure => rw [HL.out]; simp only [intOf, emptyBit_nil, emptyBit_cat]; omega
      · have hem : l.isEmpty = false := by simp [hle]
        have HL := Lib.hid hle
        clear hle
        go_wp2
        go_ret2
        refine ⟨?_, rfl⟩
        have := HS.out.done (by omega) HL.out
        subst this
        exact congrArg (fun x => Ending.returned (.tuple #[.string x, .bool true])) (cat_lists [48, 120] _)
theorem implHexOf_no (n : Int) (w : World) (h : n < 0 ∨ 4294967295 < n) :
    Calls Try.prog 33 #[.int .i64 n] w fun e w' => e = .returned (.tuple #[.string ⟨#[]⟩, .bool false]) ∧ w = w' := by
  by_cases h0 : n < 0
  · go_enter Try.func33, Try.ntmps33
    go_wp2
    go_ret2
    exact ⟨rfl, rfl⟩
  · have h1 : 4294967295 < n := h.resolve_left h0
    go_enter Try.func33, Try.ntmps33
    go_wp2
    go_ret2
    exact ⟨rfl, rfl⟩
end Go.Proofs.Ytkcigdcjpnojnaa
