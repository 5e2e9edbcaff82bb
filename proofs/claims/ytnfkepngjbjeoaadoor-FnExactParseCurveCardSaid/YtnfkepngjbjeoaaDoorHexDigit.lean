/-
  The program's hexDigit, walked once.
-/
import Derived.Test.YtnfkepngjbjeoaaDoorDigits
namespace Go.Proofs.YtnfkepngjbjeoaaDoor
open Go.RowKit
end Go.Proofs.YtnfkepngjbjeoaaDoor
