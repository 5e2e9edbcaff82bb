/-
  'append(row, make([]T, m)...)' onto a row of the call's own, elements of one cell: the new value owns the old cells and m zeros.
-/
import Derived.Test.YtfddfhobkfkmiaaProg
import Derived.WalkKit
import Derived.Outline
import Derived.WalkLawsBesides
import Derived.Test.YtfddfhobkfkmiaaSliceOut
import Derived.Lib.AppendZeros
import Derived.Laws.CopyRow
namespace Go.Proofs.Ytfddfhobkfkmiaa
open Go.RowKit
section
variable {P : Program}
theorem zeros_list (z : Value) (m : Nat) : (Builtin.zeroCells #[z] m).toList = List.replicate m z := by
  apply List.ext_getElem
  · simp [Builtin.zeroCells]
  · intro i h1 h2
    simp [Builtin.zeroCells, Nat.mod_one]
theorem run_append_zeros (w : World) (base : Nat) (t tn ty e : TypeId) (i : TypeInfo) (z : Value) (bytes : Nat) (kn : IntKind) (ht : P.underlying t = some (.slice e)) (htn : P.underlying tn = some (.int kn)) (hi : P.info? e = some i) (hz : i.zero = some z)
    (hsize : i.size = 1) (hby : i.bytes = bytes) (hzs : z.cells = #[z]) (hz1 : z.oneCell' = true) (g n cap : Nat) (xs : List Value) (hown : w.ownsRow base e 1 (.slice (some ⟨g, 0, none⟩) n cap) n xs) (m : Nat)
    (h63 : n + m ≤ maxLen) (hbytes : (n + m) * bytes ≤ 140737488355328) (hbase : base ≤ w.heap.size) :
    ∃ v' w', (Builtin.append_ #[t, tn] ty #[.slice (some ⟨g, 0, none⟩) n cap, .int .i64 m]).run P w = .ok v' w' ∧ w'.ownsRow base e 1 v' (n + m) (xs ++ List.replicate m z) ∧ w.grownBy w' (some g) := by
  have hx := hown.1
  rcases hown.2 with ⟨h, _⟩ | ⟨g', cap', cur, hv, hbg, hg, hnc, hcm, hcs, htake⟩
  · cases h
  · cases hv
    have hmw : IntKind.i64.wrap (m : Int) = m := by rw [IntKind.wrap_i64]; simp only [maxLen] at h63; omega
    have hneg : ¬ ((m : Int) < 0) := by omega
    have hmb : ¬ (281474976710656 < (m : Int) * (i.bytes : Int)) := by
      have h1 : m * i.bytes ≤ 140737488355328 := Nat.le_trans (Nat.mul_le_mul_right i.bytes (show m ≤ n + m by omega)) (by rw [hby]; exact hbytes)
      have : (m : Int) * (i.bytes : Int) = ((m * i.bytes : Nat) : Int) := by simp
      omega
    by_cases hroom : n + m ≤ cap
    · have hst := run_storeCells_at P g n e (List.replicate m z) 0 cur w hg (by rw [hcs, List.length_replicate]; omega) (fun v hv => by rw [List.eq_of_mem_replicate hv]; exact hz1)
      simp only [Nat.add_zero, List.length_replicate] at hst
      refine ⟨.slice (some ⟨g, 0, none⟩) (n + m) cap, w.setRow g (cur.toList.take n ++ List.replicate m z ++ cur.toList.drop (n + m)).toArray, ?_, ⟨by simp; omega, .inr ⟨g, cap, _, rfl, hbg, setRow_heap w g cur _ e _ hg, hroom, hcm, ?_, ?_⟩⟩, ⟨rfl, rfl, rfl, by simp, fun k _ hk => setRow_other w g k _ (fun e => hk (by simp [e]))⟩⟩
      · rcases Nat.eq_zero_or_pos m with rfl | hm
        · have hw0 : IntKind.i64.wrap 0 = 0 := by decide
          simp [Builtin.append_, run_underlying ht, run_underlying htn, sizeOf, typeInfo, hi, asInt, asIntOf, hnc, storeCells, hw0]
          exact (setRow_self w g cur e (0, 0) hg).symm
        · have hm0 : m ≠ 0 := by omega
          have hadd : (⟨g, 0, none⟩ : Addr).add n = ⟨g, n, none⟩ := by unfold Addr.add; split <;> simp_all
          simp [Builtin.append_, run_underlying ht, run_underlying htn, sizeOf, typeInfo, zeroValue, hi, hz, asInt, asIntOf, hsize, hmw, hneg, hmb, hm0, hroom, hzs, zeros_list, hadd, hst]
      · simp only [List.size_toArray, List.length_append, List.length_take, List.length_drop, Array.length_toList, List.length_replicate]
        omega
      · have hx' : xs = cur.toList.take n := by rw [← htake]; simp
        have hl : (xs ++ List.replicate m z).length = (n + m) * 1 := by simp; omega
        rw [← hl, ← hx']
        exact List.take_left
    · have hcap : cap < n + m := by omega
      have hm0 : m ≠ 0 := by omega
      have h63' : ¬ (9223372036854775807 < ((n : Int) + (m : Int))) := by simp only [maxLen] at h63; omega
      have h48 := growslice_fits (need := n + m) (old := cap) (bytes := bytes) (by omega) hbytes
      have h48' : ¬ (281474976710656 < Builtin.nextslicecap (n + m) cap * i.bytes) := by rw [hby]; omega
      have hfo := run_firstCells_some (P := P) w.drew 1 n ⟨g, 0, none⟩ n cap xs hx (by simpa using hown.cells (g := g) rfl)
      have hge := grownCap_ge w (n + m) cap e
      have hcm2 : grownCap w (n + m) cap e ≤ maxLen := grownCap_le_maxLen w (n + m) cap e h63
      refine ⟨.slice (some ⟨w.heap.size, 0, none⟩) (n + m) (grownCap w (n + m) cap e), w.drew.alloc (.cells (xs.toArray ++ (List.replicate m z).toArray ++ Builtin.zeroCells #[z] (grownCap w (n + m) cap e - (n + m))) e), ?_, ⟨by simp; omega, .inr ⟨w.heap.size, _, _, rfl, hbase, heap_alloc_new w.drew _, hge, hcm2, ?_, ?_⟩⟩, ⟨rfl, rfl, rfl, by simp, fun k hk _ => Below.heap_alloc w.drew _ k hk⟩⟩
      · simp [Builtin.append_, run_underlying ht, run_underlying htn, sizeOf, typeInfo, zeroValue, hi, hz, asInt, asIntOf, hsize, hmw, hneg, hmb, hm0, hroom, h63', h48', hzs, Question.forced, hfo, newRow, grownCap]
        congr 2
        apply Array.ext'
        simp [zeros_list]
      · simp [size_zeroCells]
        omega
      · simp only [Array.toList_append, Nat.mul_one]
        rw [show n + m = (xs ++ List.replicate m z).length by simp; omega]
        exact List.take_left
theorem wpList_append_zeros (w : World) {ops : Array Oper} {rest : List Oper} {o : Oper} {a : Act} {Q : Exit → Act → World → Prop} (hgd : o.guard = none) (s x : Operand) (t tn : TypeId)
    (ho : o.op = .call { callee := .builtin .append, args := #[s, x], argTypes := #[t, tn] })
    (base : Nat) (e : TypeId) (i : TypeInfo) (z : Value) (bytes : Nat) (kn : IntKind) (ht : P.underlying t = some (.slice e)) (htn : P.underlying tn = some (.int kn)) (hi : P.info? e = some i) (hz : i.zero = some z)
    (hsize : i.size = 1) (hby : i.bytes = bytes) (hzs : z.cells = #[z]) (hz1 : z.oneCell' = true) (g n cap : Nat) (xs : List Value) (hown : w.ownsRow base e 1 (.slice (some ⟨g, 0, none⟩) n cap) n xs) (m : Nat)
    (h63 : n + m ≤ maxLen) (hbytes : (n + m) * bytes ≤ 140737488355328) (hbase : base ≤ w.heap.size) (hs : a.eval s = .slice (some ⟨g, 0, none⟩) n cap) (hx : a.eval x = .int .i64 m)
    (h : ∀ v' w', w'.ownsRow base e 1 v' (n + m) (xs ++ List.replicate m z) → w.grownBy w' (some g) → wpList P ops Q rest (a.put o.dst v') w') : wpList P ops Q (o :: rest) a w := by
  obtain ⟨v', w', hr, h2, h3⟩ := run_append_zeros (P := P) w base t tn o.type e i z bytes kn ht htn hi hz hsize hby hzs hz1 g n cap xs hown m h63 hbytes hbase
  exact Lib.wpList_append_run w hgd s x t tn ho _ _ hs hx v' w' hr (h v' w' h2 h3)
end
end Go.Proofs.Ytfddfhobkfkmiaa
