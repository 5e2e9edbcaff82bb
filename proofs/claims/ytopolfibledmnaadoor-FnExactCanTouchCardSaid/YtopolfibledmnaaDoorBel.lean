/-
  Steps of 'Below': one call behind another, a new block.
-/
import Derived.WalkKit
import Derived.Below
namespace Go.Proofs.YtopolfibledmnaaDoor
open Go.RowKit
theorem belNext {w w1 w2 : World} (h : Below w.heap.size w w1) (k : Below w1.heap.size w1 w2) : Below w.heap.size w w2 := h.trans (k.mono h.size)
theorem belAlloc {w w1 : World} (h : Below w.heap.size w w1) (o : Obj) : Below w.heap.size w (w1.alloc o) := h.alloc h.size o
end Go.Proofs.YtopolfibledmnaaDoor
