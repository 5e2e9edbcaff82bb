/-
  Plain words for scans of a text: its bytes by index, and where a scan stops.
-/
import Derived.WalkKit
import Derived.Lib.Hide
namespace Go.Proofs.YtopolfibledmnaaDoor
open Go.RowKit
/-- Byte i of a text; 0 beyond its end. -/
def byt (s : ByteArray) (i : Nat) : Int := ((s.data.toList[i]?.getD 0).toNat : Int)
theorem byt_eq {s : ByteArray} {i : Nat} (h : i < s.size) : byt s i = (s[i].toNat : Int) := by
  have h' : i < s.data.toList.length := by simpa using h
  rw [byt, List.getElem?_eq_getElem h']
  rfl
theorem byt_lo (s : ByteArray) (i : Nat) : 0 ≤ byt s i := by unfold byt; omega
theorem byt_hi (s : ByteArray) (i : Nat) : byt s i ≤ 255 := by
  unfold byt
  have := (s.data.toList[i]?.getD 0).toNat_lt
  omega
/-- The first index from k on, at most k + d, at which p does not hold. -/
def stop (p : Nat → Bool) (k : Nat) : Nat → Nat
  | 0 => k
  | d + 1 => if p k then stop p (k + 1) d else k
theorem stop_end (p : Nat → Bool) (k : Nat) : stop p k 0 = k := rfl
theorem stop_no {p : Nat → Bool} {k : Nat} (d : Nat) (h : p k = false) : stop p k d = k := by cases d <;> simp [stop, h]
theorem stop_go {p : Nat → Bool} {k n : Nat} (hk : k < n) (h : p k = true) : stop p k (n - k) = stop p (k + 1) (n - (k + 1)) := by
  have e : n - k = (n - (k + 1)) + 1 := by omega
  rw [e, stop, if_pos h]
theorem stop_ge (p : Nat → Bool) : ∀ (d k : Nat), k ≤ stop p k d
  | 0, k => Nat.le_refl _
  | d + 1, k => by
    unfold stop
    split
    · have := stop_ge p d (k + 1); omega
    · exact Nat.le_refl _
theorem stop_le (p : Nat → Bool) : ∀ (d k : Nat), stop p k d ≤ k + d
  | 0, k => Nat.le_refl _
  | d + 1, k => by
    unfold stop
    split
    · have := stop_le p d (k + 1); omega
    · omega
theorem stop_le' (p : Nat → Bool) {k n : Nat} (h : k ≤ n) : stop p k (n - k) ≤ n := by have := stop_le p (n - k) k; omega
theorem stop_all (p : Nat → Bool) : ∀ (d k i : Nat), k ≤ i → i < stop p k d → p i = true
  | 0, k, i, h1, h2 => by simp [stop] at h2; omega
  | d + 1, k, i, h1, h2 => by
    unfold stop at h2
    split at h2
    · rcases Nat.eq_or_lt_of_le h1 with rfl | h3
      · assumption
      · exact stop_all p d (k + 1) i h3 h2
    · omega
theorem stop_at (p : Nat → Bool) : ∀ (d k : Nat), stop p k d < k + d → p (stop p k d) = false
  | 0, k, h => by simp [stop] at h
  | d + 1, k, h => by
    unfold stop at h ⊢
    split
    · rename_i hp
      rw [if_pos hp] at h
      exact stop_at p d (k + 1) (by omega)
    · rename_i hp
      simpa using hp
theorem stop_congr {p q : Nat → Bool} : ∀ (d k : Nat), (∀ i, k ≤ i → i < k + d → p i = q i) → stop p k d = stop q k d
  | 0, k, _ => rfl
  | d + 1, k, h => by
    unfold stop
    rw [h k (Nat.le_refl _) (by omega), stop_congr d (k + 1) (fun i h1 h2 => h i (by omega) (by omega))]
end Go.Proofs.YtopolfibledmnaaDoor
