/-
  Plain laws: the times at which pieces begin and end, sorted and made single, are the times put one by one; curves between two neighbouring times. No program in sight.
-/
import Derived.Lib.SlicesCompact
namespace Go.Proofs.Ytnfkepngjbjeoaa
open Go
/-- A list that rises. -/
def Rises (l : List Int) : Prop := l.Pairwise (· < ·)
theorem rises_ext : ∀ {l m : List Int}, Rises l → Rises m → (∀ x, x ∈ l ↔ x ∈ m) → l = m
  | [], [], _, _, _ => rfl
  | [], b :: m, _, _, h => absurd ((h b).2 (by simp)) (by simp)
  | a :: l, [], _, _, h => absurd ((h a).1 (by simp)) (by simp)
  | a :: l, b :: m, hl, hm, h => by
    have hl' := List.pairwise_cons.1 hl
    have hm' := List.pairwise_cons.1 hm
    have hab : a = b := by
      rcases List.mem_cons.1 ((h a).1 (by simp)) with e | e
      · exact e
      · rcases List.mem_cons.1 ((h b).2 (by simp)) with e' | e'
        · exact e'.symm
        · have h1 := hm'.1 a e
          have h2 := hl'.1 b e'
          omega
    subst hab
    rw [rises_ext hl'.2 hm'.2 fun x => ⟨fun hx => ?_, fun hx => ?_⟩]
    · rcases List.mem_cons.1 ((h x).1 (by simp [hx])) with e | e
      · have := hl'.1 x hx; omega
      · exact e
    · rcases List.mem_cons.1 ((h x).2 (by simp [hx])) with e | e
      · have := hm'.1 x hx; omega
      · exact e
/-- What slices.Sort and slices.Compact make of a list. -/
def times (zs : List Int) : List Int := Lib.compact (zs.mergeSort fun x y => decide (x ≤ y))
theorem compact_mem (zs : List Int) (x : Int) : x ∈ Lib.compact zs ↔ x ∈ zs := by
  unfold Lib.compact Lib.compactUpTo
  simp only [List.mem_map, List.mem_filter, List.mem_range]
  constructor
  · rintro ⟨i, ⟨hi, _⟩, rfl⟩
    rw [getElem!_pos zs.toArray i (by simpa using hi)]
    simp
  · intro hx
    obtain ⟨i, hi, rfl⟩ := List.getElem_of_mem hx
    have key : ∀ i, (hi : i < zs.length) → ∃ j, (j < zs.length ∧ Lib.keeps zs.toArray j = true) ∧ zs.toArray[j]! = zs[i] := by
      intro i
      induction i with
      | zero => exact fun h => ⟨0, ⟨h, by simp [Lib.keeps]⟩, by rw [getElem!_pos zs.toArray 0 (by simpa using h)]; simp⟩
      | succ i ih =>
        intro h
        by_cases hk : Lib.keeps zs.toArray (i + 1) = true
        · exact ⟨i + 1, ⟨h, hk⟩, by rw [getElem!_pos zs.toArray (i + 1) (by simpa using h)]; simp⟩
        · obtain ⟨j, hj, e⟩ := ih (by omega)
          refine ⟨j, hj, e.trans ?_⟩
          have hk' : zs.toArray[i + 1]! = zs.toArray[i]! := by simpa [Lib.keeps] using hk
          rw [getElem!_pos zs.toArray (i + 1) (by simpa using h), getElem!_pos zs.toArray i (by simp; omega)] at hk'
          simpa using hk'.symm
    obtain ⟨j, hj, e⟩ := key i hi
    exact ⟨j, hj, e⟩
theorem compact_rises (zs : List Int) (h : zs.Pairwise (· ≤ ·)) : Rises (Lib.compact zs) := by
  unfold Lib.compact Lib.compactUpTo Rises
  rw [List.pairwise_map]
  have hp : ((List.range zs.length).filter (Lib.keeps zs.toArray)).Pairwise (· < ·) := List.pairwise_lt_range.filter _
  refine List.Pairwise.imp_of_mem ?_ hp
  intro i j hi hj hij
  simp only [List.mem_filter, List.mem_range] at hi hj
  have hj0 : zs.toArray[j]! ≠ zs.toArray[j - 1]! := by
    have := hj.2
    simp only [Lib.keeps, decide_eq_true_eq] at this
    exact this.resolve_left (by omega)
  rw [getElem!_pos zs.toArray j (by simpa using hj.1), getElem!_pos zs.toArray (j - 1) (by simp; omega)] at hj0
  rw [getElem!_pos zs.toArray i (by simpa using hi.1), getElem!_pos zs.toArray j (by simpa using hj.1)]
  simp only [List.getElem_toArray] at hj0 ⊢
  rw [List.pairwise_iff_getElem] at h
  have h1 : zs[j - 1]'(by omega) ≤ zs[j] := h (j - 1) j (by omega) hj.1 (by omega)
  have h2 : zs[i] ≤ zs[j - 1]'(by omega) := by
    rcases Nat.eq_or_lt_of_le (show i ≤ j - 1 by omega) with e | e
    · simp [e]
    · exact h i (j - 1) hi.1 (by omega) e
  omega
theorem times_mem (zs : List Int) (x : Int) : x ∈ times zs ↔ x ∈ zs := by
  rw [times, compact_mem, (List.mergeSort_perm zs _).mem_iff]
theorem times_rises (zs : List Int) : Rises (times zs) := by
  refine compact_rises _ ?_
  have := List.pairwise_mergeSort (le := fun x y : Int => decide (x ≤ y)) (fun a b c h1 h2 => by simp at h1 h2 ⊢; omega) (fun a b => by simp; omega) zs
  exact this.imp fun h => by simpa using h
/-- How many elements at the head lie below n. -/
def below (n : Int) : List Int → Nat
  | [] => 0
  | a :: l => if a < n then below n l + 1 else 0
theorem below_le (n : Int) : ∀ l : List Int, below n l ≤ l.length
  | [] => by simp [below]
  | a :: l => by have := below_le n l; unfold below; split <;> simp <;> omega
theorem below_lt (n : Int) : ∀ (l : List Int) (k : Nat), k < below n l → l.getD k 0 < n
  | [], k, h => by simp [below] at h
  | a :: l, k, h => by
    unfold below at h
    split at h
    · cases k with
      | zero => simpa
      | succ k => simpa using below_lt n l k (by omega)
    · omega
theorem below_at (n : Int) : ∀ l : List Int, below n l < l.length → ¬ l.getD (below n l) 0 < n
  | [], h => by simp at h
  | a :: l, h => by
    unfold below at h ⊢
    split
    · rename_i ha
      rw [if_pos ha] at h
      simpa using below_at n l (by simpa using h)
    · rename_i ha
      simpa using ha
theorem below_mem (n y : Int) : ∀ l : List Int, y ∈ l → n ≤ y → below n l < l.length
  | [], h, _ => by simp at h
  | a :: l, h, hy => by
    unfold below
    split
    · rcases List.mem_cons.1 h with rfl | h
      · omega
      · have := below_mem n y l h hy
        simpa using this
    · simp
/-- n put into a list that rises, unless it is there. -/
def put (l : List Int) (n : Int) : List Int := if l[below n l]? = some n then l else l.take (below n l) ++ n :: l.drop (below n l)
theorem put_same {l : List Int} {n : Int} (h : below n l < l.length) (e : l.getD (below n l) 0 = n) : put l n = l := by
  unfold put
  rw [if_pos]
  rw [List.getElem?_eq_getElem h]
  rw [List.getD_eq_getElem?_getD, List.getElem?_eq_getElem h] at e
  simpa using e
theorem put_new {l : List Int} {n : Int} (e : l.getD (below n l) 0 ≠ n) : put l n = l.take (below n l) ++ [n] ++ l.drop (below n l) := by
  unfold put
  rw [if_neg]
  · simp
  · intro e'
    apply e
    rw [List.getD_eq_getElem?_getD, e']
    rfl
theorem put_cons_lt {a n : Int} {l : List Int} (h : a < n) : put (a :: l) n = a :: put l n := by
  unfold put
  rw [below, if_pos h, List.getElem?_cons_succ]
  split <;> simp
theorem put_spec (n : Int) : ∀ l : List Int, Rises l → Rises (put l n) ∧ ∀ x, x ∈ put l n ↔ x = n ∨ x ∈ l
  | [], _ => by simp [put, below, Rises]
  | a :: l, h => by
    have h' := List.pairwise_cons.1 h
    by_cases ha : a < n
    · rw [put_cons_lt ha]
      obtain ⟨h1, h2⟩ := put_spec n l h'.2
      refine ⟨List.pairwise_cons.2 ⟨fun x hx => ?_, h1⟩, fun x => ?_⟩
      · rcases (h2 x).1 hx with rfl | e
        · exact ha
        · exact h'.1 x e
      · rw [List.mem_cons, h2, List.mem_cons]
        constructor
        · rintro (e | e | e) <;> simp [e]
        · rintro (e | e | e) <;> simp [e]
    · unfold put
      rw [below, if_neg ha]
      by_cases e : a = n
      · subst e
        simp only [List.getElem?_cons_zero, if_true]
        exact ⟨h, fun x => by simp⟩
      · rw [if_neg (by simpa using e)]
        simp only [List.take_zero, List.drop_zero, List.nil_append]
        refine ⟨List.pairwise_cons.2 ⟨fun x hx => ?_, h⟩, fun x => by simp⟩
        rcases List.mem_cons.1 hx with rfl | hx
        · omega
        · have := h'.1 x hx; omega
theorem put_length (l : List Int) (n : Int) : (put l n).length ≤ l.length + 1 := by
  have := below_le n l
  unfold put
  split
  · omega
  · simp; omega
/-- The times put one by one. -/
def puts : List Int → List Int → List Int
  | l, [] => l
  | l, n :: r => puts (put l n) r
theorem puts_spec : ∀ (r l : List Int), Rises l → Rises (puts l r) ∧ ∀ x, x ∈ puts l r ↔ x ∈ l ∨ x ∈ r
  | [], l, h => ⟨h, fun x => by simp [puts]⟩
  | n :: r, l, h => by
    obtain ⟨h1, h2⟩ := put_spec n l h
    obtain ⟨h3, h4⟩ := puts_spec r (put l n) h1
    refine ⟨h3, fun x => ?_⟩
    rw [puts, h4, h2, List.mem_cons]
    constructor
    · rintro ((e | e) | e) <;> simp [e]
    · rintro (e | e | e) <;> simp [e]
theorem puts_snoc : ∀ (r l : List Int) (n : Int), puts l (r ++ [n]) = put (puts l r) n
  | [], l, n => rfl
  | a :: r, l, n => by rw [List.cons_append, puts, puts, puts_snoc r]
theorem base_rises : Rises [0, 100000] := by simp [Rises]
theorem puts_times (r r' : List Int) (h : ∀ x, x ∈ r ↔ x ∈ r') : puts [0, 100000] r = times ([0, 100000] ++ r') := by
  obtain ⟨h1, h2⟩ := puts_spec r _ base_rises
  refine rises_ext h1 (times_rises _) fun x => ?_
  rw [h2, times_mem, List.mem_append, h x]
end Go.Proofs.Ytnfkepngjbjeoaa
