/-
  The tests of a value, the program's and the reference's, walked once: one contract for yes, one for no.
-/
import Derived.Test.YtnfkepngjbjeoaaDoorIn
namespace Go.Proofs.YtnfkepngjbjeoaaDoor
open Go.RowKit
end Go.Proofs.YtnfkepngjbjeoaaDoor
