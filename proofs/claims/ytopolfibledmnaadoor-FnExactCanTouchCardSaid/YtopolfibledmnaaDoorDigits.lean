/-
  Digits: what a byte stands for, the program's tests and the reference's; numbers read with a bound.
-/
import Derived.Test.YtopolfibledmnaaDoorProg
import Derived.WalkKit
import Derived.Outline
import Derived.WalkLawsBesides
import Derived.Test.YtopolfibledmnaaDoorScan
namespace Go.Proofs.YtopolfibledmnaaDoor
open Go.RowKit
def digB (c : Int) : Bool := decide (48 ≤ c ∧ c ≤ 57)
/-- The value of a hexadecimal digit, or -1. -/
def hexV (c : Int) : Int := if 48 ≤ c ∧ c ≤ 57 then c - 48 else if 97 ≤ c ∧ c ≤ 102 then c - 97 + 10 else -1
/-- The value of a digit to a base, or -1. -/
def dgV (c base : Int) : Int := if base ≤ hexV c then -1 else hexV c
theorem hexV_bd (c : Int) : -1 ≤ hexV c ∧ hexV c ≤ 15 := by
  unfold hexV
  split
  · omega
  · split <;> omega
theorem digB_iff (c : Int) : digB c = true ↔ 0 ≤ dgV c 10 := by
  unfold digB dgV hexV
  simp only [decide_eq_true_eq]
  split
  · rename_i h; rw [if_neg (by omega)]; omega
  · rename_i h
    split
    · rw [if_pos (by omega)]; omega
    · rw [if_neg (by omega)]; omega
theorem dgV_ten {c : Int} (h : digB c = true) : dgV c 10 = c - 48 := by
  have h' : 48 ≤ c ∧ c ≤ 57 := by simpa [digB] using h
  unfold dgV hexV
  rw [if_pos h', if_neg (by omega)]
theorem dgV_hex (c : Int) : dgV c 16 = hexV c := by
  have := hexV_bd c
  unfold dgV
  rw [if_neg (by omega)]
/-- The number of the first j digits from a on; it stops to grow above the bound B. -/
def capN (d : Nat → Int) (base B : Int) (a : Nat) : Nat → Int
  | 0 => 0
  | j + 1 => if capN d base B a j ≤ B then base * capN d base B a j + d (a + j) else capN d base B a j
theorem capN_lo (d : Nat → Int) (base B : Int) (a : Nat) (hb : 0 ≤ base) : ∀ j, (∀ i, i < j → 0 ≤ d (a + i)) → 0 ≤ capN d base B a j
  | 0, _ => by simp [capN]
  | j + 1, h => by
    have h1 := capN_lo d base B a hb j fun i hi => h i (by omega)
    have h2 := h j (by omega)
    unfold capN
    split
    · have := Int.mul_nonneg hb h1; omega
    · exact h1
theorem capN_hi (d : Nat → Int) (base B : Int) (a : Nat) (hB : 0 ≤ B) (hb : 0 ≤ base) (hd : ∀ i, d i ≤ base - 1) : ∀ j, capN d base B a j ≤ base * B + base
  | 0 => by have := Int.mul_nonneg hb hB; simp only [capN]; omega
  | j + 1 => by
    have h1 := capN_hi d base B a hB hb hd j
    have h2 := hd (a + j)
    unfold capN
    split
    · rename_i h
      have := Int.mul_le_mul_of_nonneg_left h hb
      omega
    · exact h1
theorem capN_over (d : Nat → Int) (base B : Int) (a : Nat) {j : Nat} (h : B < capN d base B a j) : ∀ m, capN d base B a (j + m) = capN d base B a j
  | 0 => rfl
  | m + 1 => by
    have h1 := capN_over d base B a h m
    rw [← Nat.add_assoc, capN, h1, if_neg (by omega)]
theorem capN_step (d : Nat → Int) (base B : Int) (a : Nat) {j : Nat} (h : capN d base B a j ≤ B) : capN d base B a (j + 1) = base * capN d base B a j + d (a + j) := by rw [capN, if_pos h]
theorem isDigit_yes (c : Int) (w : World) (h : digB c = true) : Calls Tryd.prog 81 #[.int .u8 c] w fun e w' => e = .returned (.bool true) ∧ w = w' := by
  have h' : 48 ≤ c ∧ c ≤ 57 := by simpa [digB] using h
  obtain ⟨h1, h2⟩ := h'
  clear h
  go_enter Tryd.func81, Tryd.ntmps81
  go_wp2
  go_ret
  exact ⟨rfl, rfl⟩
theorem isDigit_no (c : Int) (w : World) (h : digB c = false) : Calls Tryd.prog 81 #[.int .u8 c] w fun e w' => e = .returned (.bool false) ∧ w = w' := by
  have h' : ¬ (48 ≤ c ∧ c ≤ 57) := by simpa [digB] using h
  clear h
  by_cases h1 : 48 ≤ c
  · have h2 : decide (c ≤ 57) = false := decide_eq_false (by omega)
    clear h'
    go_enter Tryd.func81, Tryd.ntmps81
    go_wp2
    go_ret
    exact ⟨rfl, rfl⟩
  · have h2 : decide (48 ≤ c) = false := decide_eq_false h1
    clear h'
    go_enter Tryd.func81, Tryd.ntmps81
    go_wp2
    go_ret
    exact ⟨rfl, rfl⟩
end Go.Proofs.YtopolfibledmnaaDoor
