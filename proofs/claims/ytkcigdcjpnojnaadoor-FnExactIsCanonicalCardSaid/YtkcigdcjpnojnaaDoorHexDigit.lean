/-
  The program's hexDigit, walked once.
-/
import Derived.Test.YtkcigdcjpnojnaaDoorDigits
namespace Go.Proofs.YtkcigdcjpnojnaaDoor
open Go.RowKit
end Go.Proofs.YtkcigdcjpnojnaaDoor
