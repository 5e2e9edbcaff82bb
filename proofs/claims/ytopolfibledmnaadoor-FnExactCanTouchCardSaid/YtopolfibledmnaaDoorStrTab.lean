/-
  A package's array of strings that reads as a list of texts: what its cells hold.
-/
import Derived.Test.YtopolfibledmnaaDoorProg
import Derived.WalkKit
import Derived.Lib.LaidU8
namespace Go.Proofs.YtopolfibledmnaaDoor
open Go.RowKit Go.Lib
theorem strTab_cell {P : Program} {W : World} {name : String} {g n : Nat} {t e : TypeId} {ls : List (List UInt8)} (hr : VarReads P W name (.agg (ls.map fun l => .lit (.string l)))) (hg : P.globalNamed name = some g) (hty : (P.globals[g]?).map (·.type) = some t)
    (ht : P.underlying t = some (.array n e)) (he : P.underlying e = some .string) (hce : P.cellsOf e = 1) (i : Nat) (hi : i < n) (l : List UInt8) (hl : ls[i]? = some l) : W.cell? ⟨g, i, none⟩ = some (.string ⟨l.toArray⟩) := by
  obtain ⟨g', t', cs, fuel, p, hg', ht', hvar, hd⟩ := hr
  obtain rfl := Option.some.inj (hg.symm.trans hg')
  obtain rfl := Option.some.inj (hty.symm.trans ht')
  obtain ⟨fuel', d, q, hds, hx⟩ := array_elem ht hd i hi
  obtain ⟨s, hcs, hdx, _⟩ := DataW.trod_string he hx
  rw [hce, Nat.mul_one] at hcs
  have h1 : cs[i]? = some (.string s) := by
    have := congrArg (·[0]?) hcs
    simpa [List.getElem?_take, List.getElem?_drop] using this
  have h2 : l = s.data.toList := by
    have e1 : d = .lit (.string s.data.toList) := congrArg Prod.fst hdx
    rw [List.getElem?_map, hl, e1] at hds
    simpa using hds
  rw [World.var?_cell hg hvar i, h1, h2]
end Go.Proofs.YtopolfibledmnaaDoor
