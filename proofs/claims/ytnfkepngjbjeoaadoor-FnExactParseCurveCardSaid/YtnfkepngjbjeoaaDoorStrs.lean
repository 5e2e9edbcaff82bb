/-
  Rows of texts that a call has made.
-/
import Derived.Test.YtnfkepngjbjeoaaDoorSliceOut
import Derived.Test.YtnfkepngjbjeoaaDoorBel
namespace Go.Proofs.YtnfkepngjbjeoaaDoor
open Go.RowKit
theorem info_str : (Tryd.prog.info? 9).map (fun i => (i.zero, i.size, i.bytes)) = some (some (.string ⟨#[]⟩), 1, 16) := by kernel_rfl
/-- A row of texts, of the call's own making. -/
def StrsOut (w : World) (ss : List ByteArray) (v : Value) (w' : World) : Prop :=
  ∃ g c, v = .slice (some ⟨g, 0, none⟩) ss.length c ∧ ss.length ≤ c ∧ w.heap.size ≤ g ∧ Own w' g ss.length (fun i => .string (ss.getD i ⟨#[]⟩)) ∧ Below w.heap.size w w'
def strVs (l : List ByteArray) : List Value := l.map Value.string
theorem strsOut_of {w w' : World} {base : Nat} {v : Value} {ss : List ByteArray} (h : w'.ownsRow base 9 1 v ss.length (strVs ss)) (h0 : 0 < ss.length) (hb : Below w.heap.size w w') (hB : w.heap.size ≤ base) : StrsOut w ss v w' := by
  have h' := h
  rcases h.2 with ⟨_, e⟩ | ⟨g, cap, cur, rfl, hbg, _, hcap, _⟩
  · omega
  · refine ⟨g, cap, rfl, hcap, by omega, (Own.of_owns (z := .string ⟨#[]⟩) h').congr fun i hi => ?_, hb⟩
    simp [strVs, List.getD_eq_getElem?_getD, hi]
theorem ownsRow_later {w w' : World} {base size n : Nat} {e : TypeId} {v : Value} {xs : List Value} (h : w.ownsRow base e size v n xs) (hb : Below w.heap.size w w') : w'.ownsRow base e size v n xs := by
  refine ⟨h.1, ?_⟩
  rcases h.2 with h0 | ⟨g, cap, cur, rfl, hbg, hg, hr⟩
  · exact .inl h0
  · refine .inr ⟨g, cap, cur, rfl, hbg, ?_, hr⟩
    have hlt : g < w.heap.size := by
      rcases Nat.lt_or_ge g w.heap.size with h' | h'
      · exact h'
      · rw [Array.getElem?_eq_none h'] at hg; cases hg
    rw [hb.block g hlt, hg]
end Go.Proofs.YtnfkepngjbjeoaaDoor
