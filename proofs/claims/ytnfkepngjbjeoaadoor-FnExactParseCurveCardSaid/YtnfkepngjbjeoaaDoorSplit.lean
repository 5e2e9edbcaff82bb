/-
  A text cut at each occurrence of a byte: the plain pieces; they are what strings.Split and the reference's l1Split make.
-/
import Derived.Test.YtnfkepngjbjeoaaDoorScan
import Derived.Lib.Split
import Derived.Lib.CountLaws
import Derived.Lib.Index
import Derived.Lib.IndexBytes
namespace Go.Proofs.YtnfkepngjbjeoaaDoor
/-- The first place of b from a on, the end if there is none. -/
def nxt (s : ByteArray) (b : Int) (a : Nat) : Nat := stop (fun i => !decide (byt s i = b)) a (s.size - a)
theorem nxt_ge (s : ByteArray) (b : Int) (a : Nat) : a ≤ nxt s b a := stop_ge _ _ _
theorem nxt_le (s : ByteArray) (b : Int) {a : Nat} (h : a ≤ s.size) : nxt s b a ≤ s.size := stop_le' _ h
theorem nxt_no {s : ByteArray} {b : Int} {a i : Nat} (h0 : a ≤ i) (h : i < nxt s b a) : byt s i ≠ b := by
  have := stop_all (fun i => !decide (byt s i = b)) (s.size - a) a i h0 h
  simpa using this
theorem nxt_yes {s : ByteArray} {b : Int} {a : Nat} (ha : a ≤ s.size) (h : nxt s b a < s.size) : byt s (nxt s b a) = b := by
  have := stop_at (fun i => !decide (byt s i = b)) (s.size - a) a (by unfold nxt at h; omega)
  simpa [nxt] using this
/-- The pieces from a on. -/
def pcs (s : ByteArray) (b : Int) (a : Nat) : List ByteArray := if nxt s b a < s.size then s.extract a (nxt s b a) :: pcs s b (nxt s b a + 1) else [s.extract a s.size]
termination_by s.size - a
decreasing_by have := nxt_ge s b a; omega
theorem pcs_hit {s : ByteArray} {b : Int} {a i : Nat} (ha : a ≤ i) (hi : i < s.size) (hb : byt s i = b) (hn : ∀ j, a ≤ j → j < i → byt s j ≠ b) : pcs s b a = s.extract a i :: pcs s b (i + 1) := by
  have e : nxt s b a = i := by
    rcases Nat.lt_trichotomy (nxt s b a) i with h | h | h
    · exact absurd (nxt_yes (by omega) (by omega)) (hn _ (nxt_ge s b a) h)
    · exact h
    · exact absurd hb (nxt_no ha h)
  rw [pcs, e, if_pos hi]
theorem pcs_end {s : ByteArray} {b : Int} {a : Nat} (ha : a ≤ s.size) (hn : ∀ j, a ≤ j → j < s.size → byt s j ≠ b) : pcs s b a = [s.extract a s.size] := by
  rw [pcs, if_neg]
  intro h
  exact hn _ (nxt_ge s b a) h (nxt_yes ha h)
theorem pcs_ne (s : ByteArray) (b : Int) (a : Nat) : 1 ≤ (pcs s b a).length := by
  rw [pcs]
  split <;> simp
theorem pcs_len (s : ByteArray) (b : Int) (a : Nat) : (pcs s b a).length ≤ s.size - a + 1 := by
  rw [pcs]
  split
  · have := nxt_ge s b a
    have := pcs_len s b (nxt s b a + 1)
    simp
    omega
  · simp
termination_by s.size - a
theorem ext_list {a b : ByteArray} (h : a.data.toList = b.data.toList) : a = b := by
  apply ByteArray.ext
  apply Array.ext'
  exact h
theorem occ_one (l : List UInt8) (c : UInt8) (j : Nat) : Lib.occAt l [c] j = (l[j]? == some c) := by
  unfold Lib.occAt
  rw [← List.head?_drop]
  cases l.drop j with
  | nil => simp
  | cons x r =>
    rw [Bool.eq_iff_iff]
    simp [List.isPrefixOf]
    exact eq_comm
theorem byt_some {s : ByteArray} {i : Nat} {c : UInt8} (hi : i < s.size) : (s.data.toList[i]? == some c) = decide (byt s i = (c.toNat : Int)) := by
  have hl : i < s.data.toList.length := by simpa using hi
  rw [byt, List.getElem?_eq_getElem hl]
  rw [Bool.eq_iff_iff]
  simp only [beq_iff_eq, Option.some.injEq, Option.getD_some, decide_eq_true_eq]
  constructor
  · intro h; rw [h]
  · intro h; exact UInt8.toNat_inj.1 (by omega)
theorem sz_list (s : ByteArray) : s.data.toList.length = s.size := by simp
theorem pcs_split (s : ByteArray) (c : UInt8) (a : Nat) (ha : a ≤ s.size) :
    Lib.splitB ⟨#[c]⟩ 0 (Lib.countB (s.extract a s.size) ⟨#[c]⟩) (s.extract a s.size) = pcs s (c.toNat : Int) a := by
  have hge := nxt_ge s (c.toNat : Int) a
  have hle := nxt_le s (c.toNat : Int) ha
  have hdrop : (s.extract a s.size).data.toList = s.data.toList.drop a := Lib.extract_to_end s a
  have hsz : (s.extract a s.size).size = s.size - a := by rw [← sz_list, hdrop, List.length_drop, sz_list]
  by_cases h : nxt s (c.toNat : Int) a < s.size
  · have hi : Lib.indexB (s.extract a s.size) ⟨#[c]⟩ = ((nxt s (c.toNat : Int) a - a : Nat) : Int) := by
      show Lib.index _ [c] = _
      refine Lib.index_first (by rw [sz_list, hsz]; omega) ?_ (fun j hj => ?_)
      · rw [occ_one, hdrop, List.getElem?_drop, show a + (nxt s (c.toNat : Int) a - a) = nxt s (c.toNat : Int) a by omega, byt_some h]
        exact decide_eq_true (nxt_yes ha h)
      · rw [occ_one, hdrop, List.getElem?_drop, byt_some (by omega)]
        exact decide_eq_false (nxt_no (a := a) (by omega) (by omega))
    rw [Lib.countB_hit _ _ _ (show 1 ≤ (⟨#[c]⟩ : ByteArray).size from Nat.le_refl 1) hi, Nat.add_comm 1, Lib.splitB_hit _ _ _ _ _ hi, pcs, if_pos h]
    have e1 : (s.extract a s.size).extract 0 (nxt s (c.toNat : Int) a - a + 0) = s.extract a (nxt s (c.toNat : Int) a) := ext_list (by
      rw [Lib.extract_data, hdrop, Lib.extract_data]
      simp)
    have e2 : (s.extract a s.size).extract (nxt s (c.toNat : Int) a - a + (⟨#[c]⟩ : ByteArray).size) (s.extract a s.size).size = s.extract (nxt s (c.toNat : Int) a + 1) s.size := ext_list (by
      rw [Lib.extract_to_end, hdrop, Lib.extract_to_end, List.drop_drop]
      congr 1
      show a + (nxt s (c.toNat : Int) a - a + 1) = _
      omega)
    rw [e1, e2, pcs_split s c (nxt s (c.toNat : Int) a + 1) (by omega)]
  · have hm : Lib.indexB (s.extract a s.size) ⟨#[c]⟩ = -1 := by
      show Lib.index _ [c] = _
      refine Lib.index_none (fun j hj => ?_)
      rw [occ_one, hdrop, List.getElem?_drop]
      rcases Nat.lt_or_ge (a + j) s.size with h1 | h1
      · rw [byt_some h1]
        exact decide_eq_false (nxt_no (a := a) (by omega) (by omega))
      · rw [List.getElem?_eq_none (by rw [sz_list]; exact h1)]
        rfl
    rw [Lib.splitB_miss _ _ _ _ hm, pcs, if_neg h]
termination_by s.size - a
theorem pcs_count (s : ByteArray) (c : UInt8) : Lib.splitB ⟨#[c]⟩ 0 (Lib.countB s ⟨#[c]⟩) s = pcs s (c.toNat : Int) 0 := by
  have := pcs_split s c 0 (Nat.zero_le _)
  have e : s.extract 0 s.size = s := ext_list (by rw [Lib.extract_to_end]; rfl)
  rwa [e] at this
theorem splitB_len (s sep : ByteArray) (h : 1 ≤ sep.size) : (Lib.splitB sep 0 (Lib.countB s sep) s).length = Lib.countB s sep + 1 := by
  rcases Lib.indexB_cases s sep with hm | ⟨i, hi, hle⟩
  · rw [Lib.countB_miss _ _ hm, Lib.splitB_zero]; rfl
  · rw [Lib.countB_hit _ _ i h hi, Nat.add_comm 1, Lib.splitB_hit _ _ _ _ i hi, List.length_cons, splitB_len _ sep h]
termination_by s.size
decreasing_by simp; omega
end Go.Proofs.YtnfkepngjbjeoaaDoor
