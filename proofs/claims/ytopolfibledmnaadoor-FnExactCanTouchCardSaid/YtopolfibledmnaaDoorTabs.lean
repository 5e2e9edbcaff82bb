/-
  Loops over a table of strings: the first place of a text in it; a whole array loaded out of a variable; an array's element.
-/
import Derived.Test.YtopolfibledmnaaDoorProg
import Derived.WalkKit
import Derived.Laws.Rows
namespace Go.Proofs.YtopolfibledmnaaDoor
open Go.RowKit
/-- The first k' of k, k + 1, .. at which p holds, within m steps; k + m where there is none. -/
def fstOf (p : Nat → Bool) : Nat → Nat → Nat
  | k, 0 => k
  | k, m + 1 => if p k then k else fstOf p (k + 1) m
theorem fstOf_yes {p : Nat → Bool} {k n : Nat} (h : k < n) (hp : p k = true) : fstOf p k (n - k) = k := by
  obtain ⟨m, e⟩ : ∃ m, n - k = m + 1 := ⟨n - k - 1, by omega⟩
  rw [e, fstOf, if_pos hp]
theorem fstOf_no {p : Nat → Bool} {k n : Nat} (h : k < n) (hp : p k = false) : fstOf p k (n - k) = fstOf p (k + 1) (n - (k + 1)) := by
  obtain ⟨m, e⟩ : ∃ m, n - k = m + 1 := ⟨n - k - 1, by omega⟩
  have e2 : n - (k + 1) = m := by omega
  rw [e, fstOf, if_neg (by simp [hp]), e2]
theorem fstOf_le (p : Nat → Bool) (m k : Nat) : k ≤ fstOf p k m ∧ fstOf p k m ≤ k + m := by
  induction m generalizing k with
  | zero => simp [fstOf]
  | succ m ih =>
    have := ih (k + 1)
    rw [fstOf]
    split <;> omega
theorem fstOf_holds (p : Nat → Bool) (m k : Nat) (h : fstOf p k m < k + m) : p (fstOf p k m) = true := by
  induction m generalizing k with
  | zero => simp [fstOf] at h
  | succ m ih =>
    rw [fstOf] at h ⊢
    split
    · assumption
    · rename_i hp
      rw [if_neg hp] at h
      exact ih (k + 1) (by omega)
theorem fstOf_before (p : Nat → Bool) (m k j : Nat) (h0 : k ≤ j) (h : j < fstOf p k m) : p j = false := by
  induction m generalizing k with
  | zero => simp [fstOf] at h; omega
  | succ m ih =>
    rw [fstOf] at h
    split at h
    · omega
    · rename_i hp
      rcases Nat.eq_or_lt_of_le h0 with rfl | h1
      · simpa using hp
      · exact ih (k + 1) h1 h
def strVals (ls : List (List UInt8)) : Array Value := (ls.map fun l => Value.string ⟨l.toArray⟩).toArray
def strAt (ls : List (List UInt8)) (k : Nat) : ByteArray := ⟨(ls.getD k []).toArray⟩
theorem strVals_get (ls : List (List UInt8)) (k : Nat) (h : k < ls.length) : (strVals ls)[k]? = some (.string (strAt ls k)) := by
  simp [strVals, strAt, h, List.getD_eq_getElem?_getD]
section
variable {P : Program}
theorem run_loadVar_list (w : World) (g : Nat) (ty : TypeId) (cs : Array Value) (d : TypeDesc) (hg : ∀ (j : Nat) v, cs[j]? = some v → w.cell? ⟨g, j, none⟩ = some v)
    (hu : P.underlying ty = some d) (hd : (match d with | .struct _ | .array _ _ => true | _ => false) = true) (hi : (P.info? ty).map (·.size) = some cs.size) :
    (loadVar ty ⟨g, 0, none⟩).run P w = .ok (.agg cs) w := by
  have hl : (loadCells ⟨g, 0, none⟩ cs.toList.length).run P w = .ok cs.toList.toArray w :=
    run_loadCells_list (P := P) w ⟨g, 0, none⟩ cs.toList (fun j v hv => by
      have hadd : (⟨g, 0, none⟩ : Addr).add j = ⟨g, j, none⟩ := by unfold Addr.add; split <;> simp_all
      rw [hadd]
      exact hg j v (by simpa using hv))
  cases hq : P.info? ty with
  | none => simp [hq] at hi
  | some i =>
    have hs : i.size = cs.size := by simpa [hq] using hi
    have hagg : (isAgg ty).run P w = .ok true w := by
      unfold isAgg
      rw [Sem.run_bind, run_underlying hu w]
      cases d <;> simp_all
    simp only [Array.length_toList, Array.toArray_toList] at hl
    simp [loadVar, Sem.run_bind, hagg, sizeOf, typeInfo, hq, hs, hl]
theorem wp_load_list {o : Oper} {a : Act} {w : World} {K : Act → World → Prop} {Q : Exit → Act → World → Prop} (ty : TypeId) (x : Operand) (ho : o.op = .load ty x)
    (g : Nat) (hx : a.eval x = .pointer (some ⟨g, 0, none⟩)) (cs : Array Value) (d : TypeDesc) (hg : ∀ (j : Nat) v, cs[j]? = some v → w.cell? ⟨g, j, none⟩ = some v)
    (hu : P.underlying ty = some d) (hd : (match d with | .struct _ | .array _ _ => true | _ => false) = true) (hi : (P.info? ty).map (·.size) = some cs.size)
    (h : K (a.put o.dst (.agg cs)) w) : o.wp P a w K Q := by
  unfold Oper.wp execOp
  simp only [ho, hx, Instr.loadAt, Instr.sureAddr, Sem.run_bind, Sem.run_pure, Result.andThen_ok, run_loadVar_list w g ty cs d hg hu hd hi]
  exact h
theorem wpList_load_list {ops : Array Oper} {rest : List Oper} {o : Oper} {a : Act} {w : World} {Q : Exit → Act → World → Prop} (hgd : o.guard = none) (ty : TypeId) (x : Operand) (ho : o.op = .load ty x)
    (g : Nat) (hx : a.eval x = .pointer (some ⟨g, 0, none⟩)) (cs : Array Value) (d : TypeDesc) (hg : ∀ (j : Nat) v, cs[j]? = some v → w.cell? ⟨g, j, none⟩ = some v)
    (hu : P.underlying ty = some d) (hd : (match d with | .struct _ | .array _ _ => true | _ => false) = true) (hi : (P.info? ty).map (·.size) = some cs.size)
    (h : wpList P ops Q rest (a.put o.dst (.agg cs)) w) : wpList P ops Q (o :: rest) a w :=
  wpList_plain hgd fun _ hK => wp_load_list ty x ho g hx cs d hg hu hd hi (hK _ _ h)
theorem run_index_strs (t e : TypeId) (n : Nat) (ls : List (List UInt8)) (k : Nat) (hk : k < n) (hl : ls.length = n) (h : P.underlying t = some (.array n e)) (he : P.underlying e = some .string) (hc : (P.info? e).map (·.size) = some 1) (w : World) :
    (Instr.index t (.agg (strVals ls)) (.int .i64 k)).run P w = .ok (.string (strAt ls k)) w := by
  have hg := strVals_get ls k (by omega)
  cases hq : P.info? e with
  | none => simp [hq] at hc
  | some i =>
    have hs : i.size = 1 := by simpa [hq] using hc
    have hagg : (isAgg e).run P w = .ok false w := by
      unfold isAgg
      rw [Sem.run_bind, run_underlying he w]
      rfl
    simp [Instr.index, run_underlying h, asIntOf, go_sem, part, sizeOf, typeInfo, hq, hs, hagg, hg]
    omega
end
end Go.Proofs.YtopolfibledmnaaDoor
