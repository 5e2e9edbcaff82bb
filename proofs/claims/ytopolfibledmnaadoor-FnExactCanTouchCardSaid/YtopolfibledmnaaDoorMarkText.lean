/-
  The law files' markText: m and the decimal digits.
-/
import Derived.Test.YtopolfibledmnaaDoorDec
namespace Go.Proofs.YtopolfibledmnaaDoor
open Go.RowKit
def mtx (k : Nat) : ByteArray := ⟨#[109]⟩ ++ decB k
/-- The digits of k, none for 0. -/
def dgs (k : Nat) : ByteArray := if k = 0 then ⟨#[]⟩ else decB k
theorem nil_cat (a : ByteArray) : (⟨#[]⟩ : ByteArray) ++ a = a := by
  apply ByteArray.ext
  simp [ByteArray.data_append]
theorem cat_as (a b c : ByteArray) : a ++ b ++ c = a ++ (b ++ c) := by
  apply ByteArray.ext
  simp [ByteArray.data_append, Array.append_assoc]
theorem dgs_step {k : Nat} (h : 0 < k) : dgs k = dgs (k / 10) ++ dgtB (k % 10) := by
  unfold dgs
  rw [if_neg (by omega)]
  by_cases h10 : k < 10
  · rw [if_pos (by omega), nil_cat, decB_small h10, Nat.mod_eq_of_lt h10]
  · rw [if_neg (by omega), decB_big h10]
theorem dgs_size (k : Nat) : (dgs k).size ≤ (decB k).size := by
  unfold dgs
  split
  · exact Nat.zero_le _
  · exact Nat.le_refl _
set_option maxHeartbeats 1000000 in
theorem markText_any (n : Nat) (w : World) (h1 : 1 ≤ n) (hn : n ≤ 1000000000) :
    Calls Tryd.prog 54 #[.int .i64 n] w fun e w' => e = .returned (.string (mtx n)) ∧ Below w.heap.size w w' := by
  have hdl := decB_len n hn
  go_enter Tryd.func54, Tryd.ntmps54
  go_wp2_with fail
  go_loopw [0, 3] (fun a t wr => ∃ (k : Nat) (o : ByteArray), k ≤ n ∧ a = .int .i64 k ∧ t = .string o ∧ dgs k ++ o = decB n ∧ Below w.heap.size w wr) (fun a _ _ => (intOf a).toNat)
  case atStart => exact ⟨n, ⟨#[]⟩, Nat.le_refl _, rfl, rfl, by rw [dgs, if_neg (by omega)]; exact (by apply ByteArray.ext; simp [ByteArray.data_append]), Below.refl _ _⟩
  case round =>
    obtain ⟨k, o, hk, rfl, rfl, hq, hb⟩ := hrel
    have HQ := Lib.hid hq
    have HB := Lib.hid hb
    have hos : o.size ≤ 10 := by have := congrArg ByteArray.size hq; rw [ByteArray.size_append] at this; omega
    clear hq hb
    by_cases hlt : 0 < k
    · obtain ⟨q, hqq⟩ : ∃ q, k / 10 = q := ⟨_, rfl⟩
      obtain ⟨r, hrr⟩ : ∃ r, k % 10 = r := ⟨_, rfl⟩
      have HS := Lib.hid (dgs_step hlt)
      rw [hqq, hrr] at HS
      have hcv := conv_digit r (by omega)
      have hcat := fun W => cat_ok (dgtB r) o W (by have : (dgtB r).size = 1 := rfl; omega)
      have e1 : (k : Int) / 10 = (q : Int) := by omega
      have e2 : (k : Int) % 10 = (r : Int) := by omega
      have hr10 : r < 10 := by omega
      have hqk : q < k := by omega
      clear hqq hrr
      go_wp2_with fail
      go_roundw
      case rel => exact ⟨q, dgtB r ++ o, by omega, by go_num, rfl, by rw [← cat_as, ← HS.out]; exact HQ.out, belAlloc HB.out _⟩
      case measure => simp [intOf]; omega
    · obtain rfl : k = 0 := by omega
      have HO : Hid (o = decB n) := by
        have h := HQ.out
        rw [dgs, if_pos rfl, nil_cat] at h
        exact h
      have hcat := fun W => cat_ok ⟨#[109]⟩ o W (by have : (⟨#[109]⟩ : ByteArray).size = 1 := rfl; omega)
      go_wp2_with fail
      go_ret
      exact ⟨by rw [mtx, ← HO.out]; rfl, HB.out⟩
end Go.Proofs.YtopolfibledmnaaDoor
