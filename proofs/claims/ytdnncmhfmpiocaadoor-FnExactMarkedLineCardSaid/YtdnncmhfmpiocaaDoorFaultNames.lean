/-
  The program's table of fault names, as the row's list lays it: what its cells hold.
-/
import Derived.Test.YtdnncmhfmpiocaaDoorRows
import Derived.Test.YtdnncmhfmpiocaaDoorStrTab
import Derived.Test.YtdnncmhfmpiocaaDoorBase
namespace Go.Proofs.YtdnncmhfmpiocaaDoor
open Go.RowKit Go.Lib
def faultNs : List (List UInt8) := [[110, 111, 110, 101], [98, 121, 116, 101], [116, 111, 107, 101, 110], [110, 117, 109, 98, 101, 114], [100, 101, 112, 116, 104], [99, 111, 117, 110, 116], [101, 110, 100], [110, 97, 109, 101]]
theorem gFault : Tryd.prog.globalNamed "loop.example/g00838/impl.faultNames" = some 0 := by kernel_rfl
theorem gFaultType : (Tryd.prog.globals[0]?).map (·.type) = some 43 := by kernel_rfl
theorem cellsStr : Tryd.prog.cellsOf 9 = 1 := by kernel_rfl
/-- The table's cells. -/
def FaultTab (w : World) : Prop := 0 < w.heap.size ∧ ∀ i l, faultNs[i]? = some l → w.cell? ⟨0, i, none⟩ = some (.string ⟨l.toArray⟩)
theorem faultTab_of {l : List (String × DataW Unit)} {w : World} (h : laidMet Tryd.prog l w) (hm : ("loop.example/g00838/impl.faultNames", Rows.laid_loop_example_g00838_impl_faultNames) ∈ l) : FaultTab w := by
  have hr := laidMet.reads h hm
  have hc : ∀ i l, faultNs[i]? = some l → w.cell? ⟨0, i, none⟩ = some (.string ⟨l.toArray⟩) := fun i l hl =>
    strTab_cell (ls := faultNs) hr gFault gFaultType Tryd.underlying43 Tryd.underlying9 cellsStr i (by have := (List.getElem?_eq_some_iff.1 hl).1; simpa [faultNs] using this) l hl
  exact ⟨cell_lt_size (hc 0 _ rfl), hc⟩
theorem FaultTab.later {w w' : World} (h : FaultTab w) (hb : Below w.heap.size w w') : FaultTab w' :=
  ⟨Nat.lt_of_lt_of_le h.1 hb.size, fun i l hl => (hb.cell (p := ⟨0, i, none⟩) h.1).trans (h.2 i l hl)⟩
end Go.Proofs.YtdnncmhfmpiocaaDoor
