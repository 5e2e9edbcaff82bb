/-
  Tests of all elements: the plain function allV; the reference's l1All over integers, walked once.
-/
import Derived.Test.YtopolfibledmnaaDoorIn
import Derived.Test.YtopolfibledmnaaDoorBase
import Derived.Lib.Hide
namespace Go.Proofs.YtopolfibledmnaaDoor
open Go.RowKit
/-- Whether p holds of each number below n. -/
def allV (p : Nat → Bool) : Nat → Bool
  | 0 => true
  | k + 1 => allV p k && p k
theorem allV_no {p : Nat → Bool} {k : Nat} (h : p k = false) : ∀ {n : Nat}, k < n → allV p n = false
  | 0, hn => absurd hn (by omega)
  | n + 1, hn => by
    by_cases e : k = n
    · subst e; simp [allV, h]
    · simp [allV, allV_no h (show k < n by omega)]
theorem allV_at {p : Nat → Bool} : ∀ {n : Nat}, allV p n = true → ∀ i, i < n → p i = true
  | 0, _, i, hi => absurd hi (by omega)
  | n + 1, h, i, hi => by
    simp only [allV, Bool.and_eq_true] at h
    by_cases e : i = n
    · subst e; exact h.2
    · exact allV_at h.1 i (by omega)
theorem allV_of {p : Nat → Bool} : ∀ {n : Nat}, (∀ i, i < n → p i = true) → allV p n = true
  | 0, _ => rfl
  | n + 1, h => by rw [allV, allV_of fun i hi => h i (by omega), h n (by omega)]; rfl
/-- Whether f's element lies within the bounds. -/
def inB (f : Nat → Int) (lo hi : Int) (i : Nat) : Bool := decide (lo ≤ f i ∧ f i ≤ hi)
theorem inB_iff {f : Nat → Int} {lo hi : Int} {i : Nat} : inB f lo hi i = true ↔ lo ≤ f i ∧ f i ≤ hi := by simp [inB]
end Go.Proofs.YtopolfibledmnaaDoor
