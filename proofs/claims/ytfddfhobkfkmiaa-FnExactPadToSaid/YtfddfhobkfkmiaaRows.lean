/-
  No cell of these rows narrows 'for every input' (looked for: loops, veiled, ifaces, maps, wideKeys, modest, calm, conditions, laid).
  DERIVED. THE GIVEN ROWS OF THIS SEAT. 12 by the template 'for every input the law returns true; each argument reads behind the call as it read before'; 0 by the template 'total and deterministic' (their statements: YtfddfhobkfkmiaaTotals.lean).
  GIVEN WITH THE SEED: the statements are not yours to turn. If you find one false, say at which input.
  Laid BY PROGRAM, IN A SANDBOX (cutbox-rows.mjs): the forced cells as the released guide's own fill.sh prints them over the translation dcc081a0adb3b728… (all of the seat's roots in one cut). By AI agents, Wed Nov 11 2026. No macro, syntax, notation, axiom, sorry.
-/
import Derived.Test.YtfddfhobkfkmiaaChecked
import GoSem.Claim
import GoSem.ClaimJoined
import GoSem.ClaimMapViews
import Derived.JoinedTies
import Derived.KernelRfl
namespace Go.Proofs.Ytfddfhobkfkmiaa
/- THE CELL 'sum', in the pinned program and in every row, IS THE sha256 OF THE DUMP (.gsa) THAT YtfddfhobkfkmiaaProg.lean LOADS. Nothing in Lean hashes anything: it is a label: what it is worth is what the hold of that sum in a sandbox is worth. -/
noncomputable def Try.pinned : Pinned := { name := "ytfddfhobkfkmiaa", sum := "dcc081a0adb3b7281e08e333ddac81549e241bbafef39c19e1d36a57bd87a04e", checked := Try.checked }
namespace Rows
def none {H : Type} : Left H := { results := [], args := [] }

/-- 'laws.FnExactAlignUp': WHATEVER THE INPUT: true; the input reads as it did. -/
def fnExactAlignUpSpec : ChangeSpec := { name := "fnExactAlignUp", fn := fun _ => fun
  | [d1, d2] => { results := [.lit (.bool true)], args := [d1, d2] }
  | _ => none }
def fnExactAlignUpRow : OpenClaim := { program := "ytfddfhobkfkmiaa", sum := "dcc081a0adb3b7281e08e333ddac81549e241bbafef39c19e1d36a57bd87a04e", func := "loop.example/g00838/laws.FnExactAlignUp", spec := "fnExactAlignUp", apart := false }
def FnExactAlignUpSaid : Prop := fnExactAlignUpRow.holds Try.pinned (OpenSpec.ofChange fnExactAlignUpSpec)

/-- ITS FALSE NEIGHBOUR: 'it returns false'. Refute it at one input. -/
def fnExactAlignUpWrong : ChangeSpec := { name := "fnExactAlignUp", fn := fun _ => fun
  | [d1, d2] => { results := [.lit (.bool false)], args := [d1, d2] }
  | _ => none }
def FnExactAlignUpWrongFalsely : Prop := fnExactAlignUpRow.holds Try.pinned (OpenSpec.ofChange fnExactAlignUpWrong)

/-- 'laws.FnExactHexOf': WHATEVER THE INPUT: true; the input reads as it did. -/
def fnExactHexOfSpec : ChangeSpec := { name := "fnExactHexOf", fn := fun _ => fun
  | [d] => { results := [.lit (.bool true)], args := [d] }
  | _ => none }
def fnExactHexOfRow : OpenClaim := { program := "ytfddfhobkfkmiaa", sum := "dcc081a0adb3b7281e08e333ddac81549e241bbafef39c19e1d36a57bd87a04e", func := "loop.example/g00838/laws.FnExactHexOf", spec := "fnExactHexOf", apart := false }
def FnExactHexOfSaid : Prop := fnExactHexOfRow.holds Try.pinned (OpenSpec.ofChange fnExactHexOfSpec)

/-- ITS FALSE NEIGHBOUR: 'it returns false'. Refute it at one input. -/
def fnExactHexOfWrong : ChangeSpec := { name := "fnExactHexOf", fn := fun _ => fun
  | [d] => { results := [.lit (.bool false)], args := [d] }
  | _ => none }
def FnExactHexOfWrongFalsely : Prop := fnExactHexOfRow.holds Try.pinned (OpenSpec.ofChange fnExactHexOfWrong)

/-- 'laws.FnExactFirstBad': WHATEVER THE INPUT: true; the input reads as it did. -/
def fnExactFirstBadSpec : ChangeSpec := { name := "fnExactFirstBad", fn := fun _ => fun
  | [d] => { results := [.lit (.bool true)], args := [d] }
  | _ => none }
def fnExactFirstBadRow : OpenClaim := { program := "ytfddfhobkfkmiaa", sum := "dcc081a0adb3b7281e08e333ddac81549e241bbafef39c19e1d36a57bd87a04e", func := "loop.example/g00838/laws.FnExactFirstBad", spec := "fnExactFirstBad", apart := false }
def FnExactFirstBadSaid : Prop := fnExactFirstBadRow.holds Try.pinned (OpenSpec.ofChange fnExactFirstBadSpec)

/-- ITS FALSE NEIGHBOUR: 'it returns false'. Refute it at one input. -/
def fnExactFirstBadWrong : ChangeSpec := { name := "fnExactFirstBad", fn := fun _ => fun
  | [d] => { results := [.lit (.bool false)], args := [d] }
  | _ => none }
def FnExactFirstBadWrongFalsely : Prop := fnExactFirstBadRow.holds Try.pinned (OpenSpec.ofChange fnExactFirstBadWrong)

/-- 'laws.FnExactBytesText': WHATEVER THE INPUT: true; the input reads as it did. -/
def fnExactBytesTextSpec : ChangeSpec := { name := "fnExactBytesText", fn := fun _ => fun
  | [d] => { results := [.lit (.bool true)], args := [d] }
  | _ => none }
def fnExactBytesTextRow : OpenClaim := { program := "ytfddfhobkfkmiaa", sum := "dcc081a0adb3b7281e08e333ddac81549e241bbafef39c19e1d36a57bd87a04e", func := "loop.example/g00838/laws.FnExactBytesText", spec := "fnExactBytesText", apart := false }
def FnExactBytesTextSaid : Prop := fnExactBytesTextRow.holds Try.pinned (OpenSpec.ofChange fnExactBytesTextSpec)

/-- ITS FALSE NEIGHBOUR: 'it returns false'. Refute it at one input. -/
def fnExactBytesTextWrong : ChangeSpec := { name := "fnExactBytesText", fn := fun _ => fun
  | [d] => { results := [.lit (.bool false)], args := [d] }
  | _ => none }
def FnExactBytesTextWrongFalsely : Prop := fnExactBytesTextRow.holds Try.pinned (OpenSpec.ofChange fnExactBytesTextWrong)

/-- 'laws.FnExactIsPadded': WHATEVER THE INPUT: true; the input reads as it did. -/
def fnExactIsPaddedSpec : ChangeSpec := { name := "fnExactIsPadded", fn := fun _ => fun
  | [d1, d2, d3] => { results := [.lit (.bool true)], args := [d1, d2, d3] }
  | _ => none }
def fnExactIsPaddedRow : OpenClaim := { program := "ytfddfhobkfkmiaa", sum := "dcc081a0adb3b7281e08e333ddac81549e241bbafef39c19e1d36a57bd87a04e", func := "loop.example/g00838/laws.FnExactIsPadded", spec := "fnExactIsPadded", apart := false }
def FnExactIsPaddedSaid : Prop := fnExactIsPaddedRow.holds Try.pinned (OpenSpec.ofChange fnExactIsPaddedSpec)

/-- ITS FALSE NEIGHBOUR: 'it returns false'. Refute it at one input. -/
def fnExactIsPaddedWrong : ChangeSpec := { name := "fnExactIsPadded", fn := fun _ => fun
  | [d1, d2, d3] => { results := [.lit (.bool false)], args := [d1, d2, d3] }
  | _ => none }
def FnExactIsPaddedWrongFalsely : Prop := fnExactIsPaddedRow.holds Try.pinned (OpenSpec.ofChange fnExactIsPaddedWrong)

/-- 'laws.FnExactReadLittle': WHATEVER THE INPUT: true; the input reads as it did. -/
def fnExactReadLittleSpec : ChangeSpec := { name := "fnExactReadLittle", fn := fun _ => fun
  | [d1, d2, d3] => { results := [.lit (.bool true)], args := [d1, d2, d3] }
  | _ => none }
def fnExactReadLittleRow : OpenClaim := { program := "ytfddfhobkfkmiaa", sum := "dcc081a0adb3b7281e08e333ddac81549e241bbafef39c19e1d36a57bd87a04e", func := "loop.example/g00838/laws.FnExactReadLittle", spec := "fnExactReadLittle", apart := false }
def FnExactReadLittleSaid : Prop := fnExactReadLittleRow.holds Try.pinned (OpenSpec.ofChange fnExactReadLittleSpec)

/-- ITS FALSE NEIGHBOUR: 'it returns false'. Refute it at one input. -/
def fnExactReadLittleWrong : ChangeSpec := { name := "fnExactReadLittle", fn := fun _ => fun
  | [d1, d2, d3] => { results := [.lit (.bool false)], args := [d1, d2, d3] }
  | _ => none }
def FnExactReadLittleWrongFalsely : Prop := fnExactReadLittleRow.holds Try.pinned (OpenSpec.ofChange fnExactReadLittleWrong)

/-- 'laws.FnExactChecksumOf': WHATEVER THE INPUT: true; the input reads as it did. -/
def fnExactChecksumOfSpec : ChangeSpec := { name := "fnExactChecksumOf", fn := fun _ => fun
  | [d] => { results := [.lit (.bool true)], args := [d] }
  | _ => none }
def fnExactChecksumOfRow : OpenClaim := { program := "ytfddfhobkfkmiaa", sum := "dcc081a0adb3b7281e08e333ddac81549e241bbafef39c19e1d36a57bd87a04e", func := "loop.example/g00838/laws.FnExactChecksumOf", spec := "fnExactChecksumOf", apart := false }
def FnExactChecksumOfSaid : Prop := fnExactChecksumOfRow.holds Try.pinned (OpenSpec.ofChange fnExactChecksumOfSpec)

/-- ITS FALSE NEIGHBOUR: 'it returns false'. Refute it at one input. -/
def fnExactChecksumOfWrong : ChangeSpec := { name := "fnExactChecksumOf", fn := fun _ => fun
  | [d] => { results := [.lit (.bool false)], args := [d] }
  | _ => none }
def FnExactChecksumOfWrongFalsely : Prop := fnExactChecksumOfRow.holds Try.pinned (OpenSpec.ofChange fnExactChecksumOfWrong)

/-- 'laws.FnExactWriteLittle': WHATEVER THE INPUT: true; the input reads as it did. -/
def fnExactWriteLittleSpec : ChangeSpec := { name := "fnExactWriteLittle", fn := fun _ => fun
  | [d1, d2] => { results := [.lit (.bool true)], args := [d1, d2] }
  | _ => none }
def fnExactWriteLittleRow : OpenClaim := { program := "ytfddfhobkfkmiaa", sum := "dcc081a0adb3b7281e08e333ddac81549e241bbafef39c19e1d36a57bd87a04e", func := "loop.example/g00838/laws.FnExactWriteLittle", spec := "fnExactWriteLittle", apart := false }
def FnExactWriteLittleSaid : Prop := fnExactWriteLittleRow.holds Try.pinned (OpenSpec.ofChange fnExactWriteLittleSpec)

/-- ITS FALSE NEIGHBOUR: 'it returns false'. Refute it at one input. -/
def fnExactWriteLittleWrong : ChangeSpec := { name := "fnExactWriteLittle", fn := fun _ => fun
  | [d1, d2] => { results := [.lit (.bool false)], args := [d1, d2] }
  | _ => none }
def FnExactWriteLittleWrongFalsely : Prop := fnExactWriteLittleRow.holds Try.pinned (OpenSpec.ofChange fnExactWriteLittleWrong)

/-- 'laws.FnExactDecimalAt': WHATEVER THE INPUT: true; the input reads as it did. -/
def fnExactDecimalAtSpec : ChangeSpec := { name := "fnExactDecimalAt", fn := fun _ => fun
  | [d1, d2] => { results := [.lit (.bool true)], args := [d1, d2] }
  | _ => none }
def fnExactDecimalAtRow : OpenClaim := { program := "ytfddfhobkfkmiaa", sum := "dcc081a0adb3b7281e08e333ddac81549e241bbafef39c19e1d36a57bd87a04e", func := "loop.example/g00838/laws.FnExactDecimalAt", spec := "fnExactDecimalAt", apart := false }
def FnExactDecimalAtSaid : Prop := fnExactDecimalAtRow.holds Try.pinned (OpenSpec.ofChange fnExactDecimalAtSpec)

/-- ITS FALSE NEIGHBOUR: 'it returns false'. Refute it at one input. -/
def fnExactDecimalAtWrong : ChangeSpec := { name := "fnExactDecimalAt", fn := fun _ => fun
  | [d1, d2] => { results := [.lit (.bool false)], args := [d1, d2] }
  | _ => none }
def FnExactDecimalAtWrongFalsely : Prop := fnExactDecimalAtRow.holds Try.pinned (OpenSpec.ofChange fnExactDecimalAtWrong)

/-- 'laws.FnExactPadTo': WHATEVER THE INPUT: true; the input reads as it did. -/
def fnExactPadToSpec : ChangeSpec := { name := "fnExactPadTo", fn := fun _ => fun
  | [d1, d2] => { results := [.lit (.bool true)], args := [d1, d2] }
  | _ => none }
def fnExactPadToRow : OpenClaim := { program := "ytfddfhobkfkmiaa", sum := "dcc081a0adb3b7281e08e333ddac81549e241bbafef39c19e1d36a57bd87a04e", func := "loop.example/g00838/laws.FnExactPadTo", spec := "fnExactPadTo", apart := false }
def FnExactPadToSaid : Prop := fnExactPadToRow.holds Try.pinned (OpenSpec.ofChange fnExactPadToSpec)

/-- ITS FALSE NEIGHBOUR: 'it returns false'. Refute it at one input. -/
def fnExactPadToWrong : ChangeSpec := { name := "fnExactPadTo", fn := fun _ => fun
  | [d1, d2] => { results := [.lit (.bool false)], args := [d1, d2] }
  | _ => none }
def FnExactPadToWrongFalsely : Prop := fnExactPadToRow.holds Try.pinned (OpenSpec.ofChange fnExactPadToWrong)

/-- 'laws.FnExactHexAt': WHATEVER THE INPUT: true; the input reads as it did. -/
def fnExactHexAtSpec : ChangeSpec := { name := "fnExactHexAt", fn := fun _ => fun
  | [d1, d2] => { results := [.lit (.bool true)], args := [d1, d2] }
  | _ => none }
def fnExactHexAtRow : OpenClaim := { program := "ytfddfhobkfkmiaa", sum := "dcc081a0adb3b7281e08e333ddac81549e241bbafef39c19e1d36a57bd87a04e", func := "loop.example/g00838/laws.FnExactHexAt", spec := "fnExactHexAt", apart := false }
def FnExactHexAtSaid : Prop := fnExactHexAtRow.holds Try.pinned (OpenSpec.ofChange fnExactHexAtSpec)

/-- ITS FALSE NEIGHBOUR: 'it returns false'. Refute it at one input. -/
def fnExactHexAtWrong : ChangeSpec := { name := "fnExactHexAt", fn := fun _ => fun
  | [d1, d2] => { results := [.lit (.bool false)], args := [d1, d2] }
  | _ => none }
def FnExactHexAtWrongFalsely : Prop := fnExactHexAtRow.holds Try.pinned (OpenSpec.ofChange fnExactHexAtWrong)

/-- 'laws.FnExactParseBytes': WHATEVER THE INPUT: true; the input reads as it did. -/
def fnExactParseBytesSpec : ChangeSpec := { name := "fnExactParseBytes", fn := fun _ => fun
  | [d] => { results := [.lit (.bool true)], args := [d] }
  | _ => none }
def fnExactParseBytesRow : OpenClaim := { program := "ytfddfhobkfkmiaa", sum := "dcc081a0adb3b7281e08e333ddac81549e241bbafef39c19e1d36a57bd87a04e", func := "loop.example/g00838/laws.FnExactParseBytes", spec := "fnExactParseBytes", apart := false }
def FnExactParseBytesSaid : Prop := fnExactParseBytesRow.holds Try.pinned (OpenSpec.ofChange fnExactParseBytesSpec)

/-- ITS FALSE NEIGHBOUR: 'it returns false'. Refute it at one input. -/
def fnExactParseBytesWrong : ChangeSpec := { name := "fnExactParseBytes", fn := fun _ => fun
  | [d] => { results := [.lit (.bool false)], args := [d] }
  | _ => none }
def FnExactParseBytesWrongFalsely : Prop := fnExactParseBytesRow.holds Try.pinned (OpenSpec.ofChange fnExactParseBytesWrong)

/- THE SECOND FORM. 'bulk': how many values and letters a reading holds, each counted each time it is reached (what is shared counts as often as it is met; a slice's spare places count too). A statement '..UptoSaid' is the law's where the arguments, and the package variables that the reading takes, are together of bulk at most 1048576: NARROWER than '..Said'. Prove '..Said' where nothing that the law and all that it calls make is longer than what came in: it says more and counts as full. Else prove '..UptoSaid'. A law counts once. -/
mutual
def uptoBulk {H : Type} : DataW H → Nat
  | .lit (.string bytes) => bytes.length + 1
  | .lit _ => 1
  | .nil => 1
  | .ptr d => uptoBulk d + 1
  | .slice elems spare => uptoBulkAll elems + uptoBulkAll spare + 1
  | .agg parts => uptoBulkAll parts + 1
  | .iface _ d => uptoBulk d + 1
  | .map entries => uptoBulkEntries entries + 1
  | .held _ => 1
def uptoBulkAll {H : Type} : List (DataW H) → Nat
  | [] => 0
  | d :: r => uptoBulk d + uptoBulkAll r
def uptoBulkEntries {H : Type} : List (Lit × DataW H) → Nat
  | [] => 0
  | x :: r => uptoBulkEntry x + uptoBulkEntries r
def uptoBulkEntry {H : Type} : Lit × DataW H → Nat
  | (.string bytes, d) => bytes.length + uptoBulk d + 1
  | (_, d) => uptoBulk d + 1
 end
def uptoSmall : (H : Type) → List (DataW H) → Bool := fun _ ds => decide (uptoBulkAll ds ≤ 1048576)
def OpenSpec.upto (s : _root_.Go.ChangeSpec) : _root_.Go.OpenSpec := { _root_.Go.OpenSpec.ofChange s with cond := some uptoSmall }

/-- 'laws.FnExactAlignUp', WHERE WHAT IT READS IS OF BULK AT MOST 1048576: true; the input reads as it did. -/
def fnExactAlignUpUptoRow : OpenClaim := { program := "ytfddfhobkfkmiaa", sum := "dcc081a0adb3b7281e08e333ddac81549e241bbafef39c19e1d36a57bd87a04e", func := "loop.example/g00838/laws.FnExactAlignUp", spec := "fnExactAlignUp", apart := false, narrowed := true }
def FnExactAlignUpUptoSaid : Prop := fnExactAlignUpUptoRow.holds Try.pinned (OpenSpec.upto fnExactAlignUpSpec)

/-- 'laws.FnExactHexOf', WHERE WHAT IT READS IS OF BULK AT MOST 1048576: true; the input reads as it did. -/
def fnExactHexOfUptoRow : OpenClaim := { program := "ytfddfhobkfkmiaa", sum := "dcc081a0adb3b7281e08e333ddac81549e241bbafef39c19e1d36a57bd87a04e", func := "loop.example/g00838/laws.FnExactHexOf", spec := "fnExactHexOf", apart := false, narrowed := true }
def FnExactHexOfUptoSaid : Prop := fnExactHexOfUptoRow.holds Try.pinned (OpenSpec.upto fnExactHexOfSpec)

/-- 'laws.FnExactFirstBad', WHERE WHAT IT READS IS OF BULK AT MOST 1048576: true; the input reads as it did. -/
def fnExactFirstBadUptoRow : OpenClaim := { program := "ytfddfhobkfkmiaa", sum := "dcc081a0adb3b7281e08e333ddac81549e241bbafef39c19e1d36a57bd87a04e", func := "loop.example/g00838/laws.FnExactFirstBad", spec := "fnExactFirstBad", apart := false, narrowed := true }
def FnExactFirstBadUptoSaid : Prop := fnExactFirstBadUptoRow.holds Try.pinned (OpenSpec.upto fnExactFirstBadSpec)

/-- 'laws.FnExactBytesText', WHERE WHAT IT READS IS OF BULK AT MOST 1048576: true; the input reads as it did. -/
def fnExactBytesTextUptoRow : OpenClaim := { program := "ytfddfhobkfkmiaa", sum := "dcc081a0adb3b7281e08e333ddac81549e241bbafef39c19e1d36a57bd87a04e", func := "loop.example/g00838/laws.FnExactBytesText", spec := "fnExactBytesText", apart := false, narrowed := true }
def FnExactBytesTextUptoSaid : Prop := fnExactBytesTextUptoRow.holds Try.pinned (OpenSpec.upto fnExactBytesTextSpec)

/-- 'laws.FnExactIsPadded', WHERE WHAT IT READS IS OF BULK AT MOST 1048576: true; the input reads as it did. -/
def fnExactIsPaddedUptoRow : OpenClaim := { program := "ytfddfhobkfkmiaa", sum := "dcc081a0adb3b7281e08e333ddac81549e241bbafef39c19e1d36a57bd87a04e", func := "loop.example/g00838/laws.FnExactIsPadded", spec := "fnExactIsPadded", apart := false, narrowed := true }
def FnExactIsPaddedUptoSaid : Prop := fnExactIsPaddedUptoRow.holds Try.pinned (OpenSpec.upto fnExactIsPaddedSpec)

/-- 'laws.FnExactReadLittle', WHERE WHAT IT READS IS OF BULK AT MOST 1048576: true; the input reads as it did. -/
def fnExactReadLittleUptoRow : OpenClaim := { program := "ytfddfhobkfkmiaa", sum := "dcc081a0adb3b7281e08e333ddac81549e241bbafef39c19e1d36a57bd87a04e", func := "loop.example/g00838/laws.FnExactReadLittle", spec := "fnExactReadLittle", apart := false, narrowed := true }
def FnExactReadLittleUptoSaid : Prop := fnExactReadLittleUptoRow.holds Try.pinned (OpenSpec.upto fnExactReadLittleSpec)

/-- 'laws.FnExactChecksumOf', WHERE WHAT IT READS IS OF BULK AT MOST 1048576: true; the input reads as it did. -/
def fnExactChecksumOfUptoRow : OpenClaim := { program := "ytfddfhobkfkmiaa", sum := "dcc081a0adb3b7281e08e333ddac81549e241bbafef39c19e1d36a57bd87a04e", func := "loop.example/g00838/laws.FnExactChecksumOf", spec := "fnExactChecksumOf", apart := false, narrowed := true }
def FnExactChecksumOfUptoSaid : Prop := fnExactChecksumOfUptoRow.holds Try.pinned (OpenSpec.upto fnExactChecksumOfSpec)

/-- 'laws.FnExactWriteLittle', WHERE WHAT IT READS IS OF BULK AT MOST 1048576: true; the input reads as it did. -/
def fnExactWriteLittleUptoRow : OpenClaim := { program := "ytfddfhobkfkmiaa", sum := "dcc081a0adb3b7281e08e333ddac81549e241bbafef39c19e1d36a57bd87a04e", func := "loop.example/g00838/laws.FnExactWriteLittle", spec := "fnExactWriteLittle", apart := false, narrowed := true }
def FnExactWriteLittleUptoSaid : Prop := fnExactWriteLittleUptoRow.holds Try.pinned (OpenSpec.upto fnExactWriteLittleSpec)

/-- 'laws.FnExactDecimalAt', WHERE WHAT IT READS IS OF BULK AT MOST 1048576: true; the input reads as it did. -/
def fnExactDecimalAtUptoRow : OpenClaim := { program := "ytfddfhobkfkmiaa", sum := "dcc081a0adb3b7281e08e333ddac81549e241bbafef39c19e1d36a57bd87a04e", func := "loop.example/g00838/laws.FnExactDecimalAt", spec := "fnExactDecimalAt", apart := false, narrowed := true }
def FnExactDecimalAtUptoSaid : Prop := fnExactDecimalAtUptoRow.holds Try.pinned (OpenSpec.upto fnExactDecimalAtSpec)

/-- 'laws.FnExactPadTo', WHERE WHAT IT READS IS OF BULK AT MOST 1048576: true; the input reads as it did. -/
def fnExactPadToUptoRow : OpenClaim := { program := "ytfddfhobkfkmiaa", sum := "dcc081a0adb3b7281e08e333ddac81549e241bbafef39c19e1d36a57bd87a04e", func := "loop.example/g00838/laws.FnExactPadTo", spec := "fnExactPadTo", apart := false, narrowed := true }
def FnExactPadToUptoSaid : Prop := fnExactPadToUptoRow.holds Try.pinned (OpenSpec.upto fnExactPadToSpec)

/-- 'laws.FnExactHexAt', WHERE WHAT IT READS IS OF BULK AT MOST 1048576: true; the input reads as it did. -/
def fnExactHexAtUptoRow : OpenClaim := { program := "ytfddfhobkfkmiaa", sum := "dcc081a0adb3b7281e08e333ddac81549e241bbafef39c19e1d36a57bd87a04e", func := "loop.example/g00838/laws.FnExactHexAt", spec := "fnExactHexAt", apart := false, narrowed := true }
def FnExactHexAtUptoSaid : Prop := fnExactHexAtUptoRow.holds Try.pinned (OpenSpec.upto fnExactHexAtSpec)

/-- 'laws.FnExactParseBytes', WHERE WHAT IT READS IS OF BULK AT MOST 1048576: true; the input reads as it did. -/
def fnExactParseBytesUptoRow : OpenClaim := { program := "ytfddfhobkfkmiaa", sum := "dcc081a0adb3b7281e08e333ddac81549e241bbafef39c19e1d36a57bd87a04e", func := "loop.example/g00838/laws.FnExactParseBytes", spec := "fnExactParseBytes", apart := false, narrowed := true }
def FnExactParseBytesUptoSaid : Prop := fnExactParseBytesUptoRow.holds Try.pinned (OpenSpec.upto fnExactParseBytesSpec)

end Rows
end Go.Proofs.Ytfddfhobkfkmiaa
