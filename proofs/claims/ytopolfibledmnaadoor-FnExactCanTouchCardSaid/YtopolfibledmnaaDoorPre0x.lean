/-
  How a text begins: its first two bytes against 0x.
-/
import Derived.Test.YtopolfibledmnaaDoorProg
import Derived.WalkKit
import Derived.Outline
import Derived.WalkLawsBesides
import Derived.Test.YtopolfibledmnaaDoorScan
import Derived.WalkSpells
import Derived.Lib.Strings
namespace Go.Proofs.YtopolfibledmnaaDoor
open Go.RowKit
theorem empty_yes {t : ByteArray} (h : t.size = 0) : t.toList.isEmpty = true := by
  have hl : t.data.toList.length = t.size := by simp
  rw [ByteArray.toList_eq, List.isEmpty_iff_length_eq_zero]; omega
theorem empty_no {t : ByteArray} (h : 0 < t.size) : t.toList.isEmpty = false := by
  have hl : t.data.toList.length = t.size := by simp
  rw [ByteArray.toList_eq]
  cases h' : t.data.toList.isEmpty with
  | false => rfl
  | true => rw [List.isEmpty_iff_length_eq_zero] at h'; omega
theorem two_bytes (s : ByteArray) (a : Nat) (h : a + 2 ≤ s.size) : ∃ x y : UInt8, (s.extract a (a + 2)).toList = [x, y] ∧ byt s a = (x.toNat : Int) ∧ byt s (a + 1) = (y.toNat : Int) := by
  have hl : s.data.toList.length = s.size := by simp
  refine ⟨s.data.toList[a]'(by omega), s.data.toList[a + 1]'(by omega), ?_, ?_, ?_⟩
  · rw [ByteArray.toList_eq, Lib.extract_data, show a + 2 - a = 2 by omega, List.drop_eq_getElem_cons (by omega), List.drop_eq_getElem_cons (by omega)]
    rfl
  · rw [byt, List.getElem?_eq_getElem (by omega)]; rfl
  · rw [byt, List.getElem?_eq_getElem (by omega)]; rfl
theorem pre0x_yes {s : ByteArray} {a : Nat} (h : a + 2 ≤ s.size) (h1 : byt s a = 48) (h2 : byt s (a + 1) = 120) : ((s.extract a (a + 2)).toList == [48, 120]) = true := by
  obtain ⟨x, y, e, e1, e2⟩ := two_bytes s a h
  have hx : x = 48 := UInt8.toNat_inj.1 (by rw [e1] at h1; show x.toNat = 48; omega)
  have hy : y = 120 := UInt8.toNat_inj.1 (by rw [e2] at h2; show y.toNat = 120; omega)
  rw [e, hx, hy]; rfl
theorem pre0x_no {s : ByteArray} {a : Nat} (h : a + 2 ≤ s.size) (h1 : ¬ (byt s a = 48 ∧ byt s (a + 1) = 120)) : ((s.extract a (a + 2)).toList == [48, 120]) = false := by
  obtain ⟨x, y, e, e1, e2⟩ := two_bytes s a h
  rw [e]
  cases hb : ([x, y] == [48, 120]) with
  | false => rfl
  | true =>
    have := eq_of_beq hb
    simp only [List.cons.injEq, and_true] at this
    exact absurd ⟨by rw [e1, this.1]; rfl, by rw [e2, this.2]; rfl⟩ h1
end Go.Proofs.YtopolfibledmnaaDoor
