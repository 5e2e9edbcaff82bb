/-
  Tests of all elements: the plain function allV; the reference's l1All over integers, walked once.
-/
import Derived.Test.YtkcigdcjpnojnaaIn
import Derived.Test.YtkcigdcjpnojnaaBase
import Derived.Lib.Hide
namespace Go.Proofs.Ytkcigdcjpnojnaa
open Go.RowKit
/-- Whether p holds of each number below n. -/
def allV (p : Nat → Bool) : Nat → Bool
  | 0 => true
  | k + 1 => allV p k && p k
theorem allV_no {p : Nat → Bool} {k : Nat} (h : p k = false) : ∀ {n : Nat}, k < n → allV p n = false
  | 0, hn => absurd hn (by omega)
  | n + 1, hn => by
    by_cases e : k = n
    · subst e; simp [allV, h]
    · simp [allV, allV_no h (show k < n by omega)]
theorem allV_at {p : Nat → Bool} : ∀ {n : Nat}, allV p n = true → ∀ i, i < n → p i = true
  | 0, _, i, hi => absurd hi (by omega)
  | n + 1, h, i, hi => by
    simp only [allV, Bool.and_eq_true] at h
    by_cases e : i = n
    · subst e; exact h.2
    · exact allV_at h.1 i (by omega)
theorem allV_of {p : Nat → Bool} : ∀ {n : Nat}, (∀ i, i < n → p i = true) → allV p n = true
  | 0, _ => rfl
  | n + 1, h => by rw [allV, allV_of fun i hi => h i (by omega), h n (by omega)]; rfl
/-- Whether f's element lies within the bounds. -/
def inB (f : Nat → Int) (lo hi : Int) (i : Nat) : Bool := decide (lo ≤ f i ∧ f i ≤ hi)
theorem inB_iff {f : Nat → Int} {lo hi : Int} {i : Nat} : inB f lo hi i = true ↔ lo ≤ f i ∧ f i ≤ hi := by simp [inB]
set_option maxHeartbeats 400000 in
theorem l1All_any (g c n : Nat) (f : Nat → Int) (lo hi : Int) (w : World) (hf : ∀ i, -9223372036854775808 ≤ f i ∧ f i ≤ 9223372036854775807) (hn : n ≤ 1048576) (hown : Own w g n fun i => .int .i64 (f i)) :
    Calls Try.prog 35 #[.slice (some ⟨g, 0, none⟩) n c, .int .i64 lo, .int .i64 hi] w fun e w' => e = .returned (.bool (allV (inB f lo hi) n)) ∧ w = w' := by
  have HC := Lib.hid hown
  have HF := Lib.hid hf
  clear hown hf
  go_enter Try.func35, Try.ntmps35
  go_wp2
  go_loop [8, 11] (fun _ i => ∃ k : Nat, k ≤ n ∧ i = .int .i64 k ∧ allV (inB f lo hi) k = true) (fun _ i => n - (intOf i).toNat)
  case atStart => exact ⟨0, Nat.zero_le _, rfl, rfl⟩
  case round =>
    obtain ⟨k, hk, rfl, hal⟩ := hrel
    have HA := Lib.hid hal
    clear hal
    by_cases hlt : k < n
    · have hc := HC.out.cell hlt
      obtain ⟨hf0, hf9⟩ := HF.out k
      by_cases hin : lo ≤ f k ∧ f k ≤ hi
      · obtain ⟨h1, h2⟩ := hin
        go_wp2_with (first | (go_at_call 31; refine (l1In_yes _ _ _ _ (by omega) (by omega)).mono ?_; rintro e w1 ⟨rfl, rfl⟩) | (go_at_call 31; refine (l1In_no _ _ _ _ (by omega)).mono ?_; rintro e w1 ⟨rfl, rfl⟩))
        go_round
        case rel => exact ⟨k + 1, by omega, by go_num, by rw [allV, HA.out]; exact decide_eq_true ⟨h1, h2⟩⟩
        case measure => simp [intOf]; omega
      · have h1 : f k < lo ∨ hi < f k := by omega
        clear hin
        go_wp2_with (first | (go_at_call 31; refine (l1In_yes _ _ _ _ (by omega) (by omega)).mono ?_; rintro e w1 ⟨rfl, rfl⟩) | (go_at_call 31; refine (l1In_no _ _ _ _ (by omega)).mono ?_; rintro e w1 ⟨rfl, rfl⟩))
        go_ret
        exact ⟨by rw [allV_no (p := inB f lo hi) (k := k) (decide_eq_false (by omega)) hlt]; rfl, rfl⟩
    · have HK := Lib.hid (show n = k by omega)
      go_wp2
      go_ret
      obtain rfl := HK.out
      exact ⟨by rw [HA.out]; rfl, rfl⟩
end Go.Proofs.Ytkcigdcjpnojnaa
