/-
  No cell of these rows narrows 'for every input' (looked for: loops, veiled, ifaces, maps, wideKeys, modest, calm, conditions, laid).
  DERIVED. THE GIVEN ROWS OF THIS SEAT. 8 by the template 'for every input the law returns true; each argument reads behind the call as it read before'; 0 by the template 'total and deterministic' (their statements: YtkcigdcjpnojnaaTotals.lean).
  GIVEN WITH THE SEED: the statements are not yours to turn. If you find one false, say at which input.
  Laid BY PROGRAM, IN A SANDBOX (cutbox-rows.mjs): the forced cells as the released guide's own fill.sh prints them over the translation 31f43f48af69ec03… (all of the seat's roots in one cut). By AI agents, Wed Nov 11 2026. No macro, syntax, notation, axiom, sorry.
-/
import Derived.Test.YtkcigdcjpnojnaaChecked
import GoSem.Claim
import GoSem.ClaimJoined
import GoSem.ClaimMapViews
import Derived.JoinedTies
import Derived.KernelRfl
namespace Go.Proofs.Ytkcigdcjpnojnaa
/- THE CELL 'sum', in the pinned program and in every row, IS THE sha256 OF THE DUMP (.gsa) THAT YtkcigdcjpnojnaaProg.lean LOADS. Nothing in Lean hashes anything: it is a label: what it is worth is what the hold of that sum in a sandbox is worth. -/
noncomputable def Try.pinned : Pinned := { name := "ytkcigdcjpnojnaa", sum := "31f43f48af69ec0367db8ebd84f1081a31bc28a43e895775680e0083e1a2a8cb", checked := Try.checked }
namespace Rows
def none {H : Type} : Left H := { results := [], args := [] }

/-- 'laws.FnExactMultiplyValues': WHATEVER THE INPUT: true; the input reads as it did. -/
def fnExactMultiplyValuesSpec : ChangeSpec := { name := "fnExactMultiplyValues", fn := fun _ => fun
  | [d1, d2] => { results := [.lit (.bool true)], args := [d1, d2] }
  | _ => none }
def fnExactMultiplyValuesRow : OpenClaim := { program := "ytkcigdcjpnojnaa", sum := "31f43f48af69ec0367db8ebd84f1081a31bc28a43e895775680e0083e1a2a8cb", func := "loop.example/g00838/laws.FnExactMultiplyValues", spec := "fnExactMultiplyValues", apart := false }
def FnExactMultiplyValuesSaid : Prop := fnExactMultiplyValuesRow.holds Try.pinned (OpenSpec.ofChange fnExactMultiplyValuesSpec)

/-- ITS FALSE NEIGHBOUR: 'it returns false'. Refute it at one input. -/
def fnExactMultiplyValuesWrong : ChangeSpec := { name := "fnExactMultiplyValues", fn := fun _ => fun
  | [d1, d2] => { results := [.lit (.bool false)], args := [d1, d2] }
  | _ => none }
def FnExactMultiplyValuesWrongFalsely : Prop := fnExactMultiplyValuesRow.holds Try.pinned (OpenSpec.ofChange fnExactMultiplyValuesWrong)

/-- 'laws.FnExactHexText': WHATEVER THE INPUT: true; the input reads as it did. -/
def fnExactHexTextSpec : ChangeSpec := { name := "fnExactHexText", fn := fun _ => fun
  | [d] => { results := [.lit (.bool true)], args := [d] }
  | _ => none }
def fnExactHexTextRow : OpenClaim := { program := "ytkcigdcjpnojnaa", sum := "31f43f48af69ec0367db8ebd84f1081a31bc28a43e895775680e0083e1a2a8cb", func := "loop.example/g00838/laws.FnExactHexText", spec := "fnExactHexText", apart := false }
def FnExactHexTextSaid : Prop := fnExactHexTextRow.holds Try.pinned (OpenSpec.ofChange fnExactHexTextSpec)

/-- ITS FALSE NEIGHBOUR: 'it returns false'. Refute it at one input. -/
def fnExactHexTextWrong : ChangeSpec := { name := "fnExactHexText", fn := fun _ => fun
  | [d] => { results := [.lit (.bool false)], args := [d] }
  | _ => none }
def FnExactHexTextWrongFalsely : Prop := fnExactHexTextRow.holds Try.pinned (OpenSpec.ofChange fnExactHexTextWrong)

/-- 'laws.FnExactScaleValue': WHATEVER THE INPUT: true; the input reads as it did. -/
def fnExactScaleValueSpec : ChangeSpec := { name := "fnExactScaleValue", fn := fun _ => fun
  | [d1, d2, d3, d4] => { results := [.lit (.bool true)], args := [d1, d2, d3, d4] }
  | _ => none }
def fnExactScaleValueRow : OpenClaim := { program := "ytkcigdcjpnojnaa", sum := "31f43f48af69ec0367db8ebd84f1081a31bc28a43e895775680e0083e1a2a8cb", func := "loop.example/g00838/laws.FnExactScaleValue", spec := "fnExactScaleValue", apart := false }
def FnExactScaleValueSaid : Prop := fnExactScaleValueRow.holds Try.pinned (OpenSpec.ofChange fnExactScaleValueSpec)

/-- ITS FALSE NEIGHBOUR: 'it returns false'. Refute it at one input. -/
def fnExactScaleValueWrong : ChangeSpec := { name := "fnExactScaleValue", fn := fun _ => fun
  | [d1, d2, d3, d4] => { results := [.lit (.bool false)], args := [d1, d2, d3, d4] }
  | _ => none }
def FnExactScaleValueWrongFalsely : Prop := fnExactScaleValueRow.holds Try.pinned (OpenSpec.ofChange fnExactScaleValueWrong)

/-- 'laws.FnExactAddValues': WHATEVER THE INPUT: true; the input reads as it did. -/
def fnExactAddValuesSpec : ChangeSpec := { name := "fnExactAddValues", fn := fun _ => fun
  | [d] => { results := [.lit (.bool true)], args := [d] }
  | _ => none }
def fnExactAddValuesRow : OpenClaim := { program := "ytkcigdcjpnojnaa", sum := "31f43f48af69ec0367db8ebd84f1081a31bc28a43e895775680e0083e1a2a8cb", func := "loop.example/g00838/laws.FnExactAddValues", spec := "fnExactAddValues", apart := false }
def FnExactAddValuesSaid : Prop := fnExactAddValuesRow.holds Try.pinned (OpenSpec.ofChange fnExactAddValuesSpec)

/-- ITS FALSE NEIGHBOUR: 'it returns false'. Refute it at one input. -/
def fnExactAddValuesWrong : ChangeSpec := { name := "fnExactAddValues", fn := fun _ => fun
  | [d] => { results := [.lit (.bool false)], args := [d] }
  | _ => none }
def FnExactAddValuesWrongFalsely : Prop := fnExactAddValuesRow.holds Try.pinned (OpenSpec.ofChange fnExactAddValuesWrong)

/-- 'laws.FnExactReadHex': WHATEVER THE INPUT: true; the input reads as it did. -/
def fnExactReadHexSpec : ChangeSpec := { name := "fnExactReadHex", fn := fun _ => fun
  | [d] => { results := [.lit (.bool true)], args := [d] }
  | _ => none }
def fnExactReadHexRow : OpenClaim := { program := "ytkcigdcjpnojnaa", sum := "31f43f48af69ec0367db8ebd84f1081a31bc28a43e895775680e0083e1a2a8cb", func := "loop.example/g00838/laws.FnExactReadHex", spec := "fnExactReadHex", apart := false }
def FnExactReadHexSaid : Prop := fnExactReadHexRow.holds Try.pinned (OpenSpec.ofChange fnExactReadHexSpec)

/-- ITS FALSE NEIGHBOUR: 'it returns false'. Refute it at one input. -/
def fnExactReadHexWrong : ChangeSpec := { name := "fnExactReadHex", fn := fun _ => fun
  | [d] => { results := [.lit (.bool false)], args := [d] }
  | _ => none }
def FnExactReadHexWrongFalsely : Prop := fnExactReadHexRow.holds Try.pinned (OpenSpec.ofChange fnExactReadHexWrong)

/-- 'laws.FnExactReadNumber': WHATEVER THE INPUT: true; the input reads as it did. -/
def fnExactReadNumberSpec : ChangeSpec := { name := "fnExactReadNumber", fn := fun _ => fun
  | [d] => { results := [.lit (.bool true)], args := [d] }
  | _ => none }
def fnExactReadNumberRow : OpenClaim := { program := "ytkcigdcjpnojnaa", sum := "31f43f48af69ec0367db8ebd84f1081a31bc28a43e895775680e0083e1a2a8cb", func := "loop.example/g00838/laws.FnExactReadNumber", spec := "fnExactReadNumber", apart := false }
def FnExactReadNumberSaid : Prop := fnExactReadNumberRow.holds Try.pinned (OpenSpec.ofChange fnExactReadNumberSpec)

/-- ITS FALSE NEIGHBOUR: 'it returns false'. Refute it at one input. -/
def fnExactReadNumberWrong : ChangeSpec := { name := "fnExactReadNumber", fn := fun _ => fun
  | [d] => { results := [.lit (.bool false)], args := [d] }
  | _ => none }
def FnExactReadNumberWrongFalsely : Prop := fnExactReadNumberRow.holds Try.pinned (OpenSpec.ofChange fnExactReadNumberWrong)

/-- 'laws.FnExactReadAny': WHATEVER THE INPUT: true; the input reads as it did. -/
def fnExactReadAnySpec : ChangeSpec := { name := "fnExactReadAny", fn := fun _ => fun
  | [d] => { results := [.lit (.bool true)], args := [d] }
  | _ => none }
def fnExactReadAnyRow : OpenClaim := { program := "ytkcigdcjpnojnaa", sum := "31f43f48af69ec0367db8ebd84f1081a31bc28a43e895775680e0083e1a2a8cb", func := "loop.example/g00838/laws.FnExactReadAny", spec := "fnExactReadAny", apart := false }
def FnExactReadAnySaid : Prop := fnExactReadAnyRow.holds Try.pinned (OpenSpec.ofChange fnExactReadAnySpec)

/-- ITS FALSE NEIGHBOUR: 'it returns false'. Refute it at one input. -/
def fnExactReadAnyWrong : ChangeSpec := { name := "fnExactReadAny", fn := fun _ => fun
  | [d] => { results := [.lit (.bool false)], args := [d] }
  | _ => none }
def FnExactReadAnyWrongFalsely : Prop := fnExactReadAnyRow.holds Try.pinned (OpenSpec.ofChange fnExactReadAnyWrong)

/-- 'laws.FnExactCompareTexts': WHATEVER THE INPUT: true; the input reads as it did. -/
def fnExactCompareTextsSpec : ChangeSpec := { name := "fnExactCompareTexts", fn := fun _ => fun
  | [d1, d2] => { results := [.lit (.bool true)], args := [d1, d2] }
  | _ => none }
def fnExactCompareTextsRow : OpenClaim := { program := "ytkcigdcjpnojnaa", sum := "31f43f48af69ec0367db8ebd84f1081a31bc28a43e895775680e0083e1a2a8cb", func := "loop.example/g00838/laws.FnExactCompareTexts", spec := "fnExactCompareTexts", apart := false }
def FnExactCompareTextsSaid : Prop := fnExactCompareTextsRow.holds Try.pinned (OpenSpec.ofChange fnExactCompareTextsSpec)

/-- ITS FALSE NEIGHBOUR: 'it returns false'. Refute it at one input. -/
def fnExactCompareTextsWrong : ChangeSpec := { name := "fnExactCompareTexts", fn := fun _ => fun
  | [d1, d2] => { results := [.lit (.bool false)], args := [d1, d2] }
  | _ => none }
def FnExactCompareTextsWrongFalsely : Prop := fnExactCompareTextsRow.holds Try.pinned (OpenSpec.ofChange fnExactCompareTextsWrong)

/- THE SECOND FORM. 'bulk': how many values and letters a reading holds, each counted each time it is reached (what is shared counts as often as it is met; a slice's spare places count too). A statement '..UptoSaid' is the law's where the arguments, and the package variables that the reading takes, are together of bulk at most 1048576: NARROWER than '..Said'. Prove '..Said' where nothing that the law and all that it calls make is longer than what came in: it says more and counts as full. Else prove '..UptoSaid'. A law counts once. -/
mutual
def uptoBulk {H : Type} : DataW H → Nat
  | .lit (.string bytes) => bytes.length + 1
  | .lit _ => 1
  | .nil => 1
  | .ptr d => uptoBulk d + 1
  | .slice elems spare => uptoBulkAll elems + uptoBulkAll spare + 1
  | .agg parts => uptoBulkAll parts + 1
  | .iface _ d => uptoBulk d + 1
  | .map entries => uptoBulkEntries entries + 1
  | .held _ => 1
def uptoBulkAll {H : Type} : List (DataW H) → Nat
  | [] => 0
  | d :: r => uptoBulk d + uptoBulkAll r
def uptoBulkEntries {H : Type} : List (Lit × DataW H) → Nat
  | [] => 0
  | x :: r => uptoBulkEntry x + uptoBulkEntries r
def uptoBulkEntry {H : Type} : Lit × DataW H → Nat
  | (.string bytes, d) => bytes.length + uptoBulk d + 1
  | (_, d) => uptoBulk d + 1
 end
def uptoSmall : (H : Type) → List (DataW H) → Bool := fun _ ds => decide (uptoBulkAll ds ≤ 1048576)
def OpenSpec.upto (s : _root_.Go.ChangeSpec) : _root_.Go.OpenSpec := { _root_.Go.OpenSpec.ofChange s with cond := some uptoSmall }

/-- 'laws.FnExactMultiplyValues', WHERE WHAT IT READS IS OF BULK AT MOST 1048576: true; the input reads as it did. -/
def fnExactMultiplyValuesUptoRow : OpenClaim := { program := "ytkcigdcjpnojnaa", sum := "31f43f48af69ec0367db8ebd84f1081a31bc28a43e895775680e0083e1a2a8cb", func := "loop.example/g00838/laws.FnExactMultiplyValues", spec := "fnExactMultiplyValues", apart := false, narrowed := true }
def FnExactMultiplyValuesUptoSaid : Prop := fnExactMultiplyValuesUptoRow.holds Try.pinned (OpenSpec.upto fnExactMultiplyValuesSpec)

/-- 'laws.FnExactHexText', WHERE WHAT IT READS IS OF BULK AT MOST 1048576: true; the input reads as it did. -/
def fnExactHexTextUptoRow : OpenClaim := { program := "ytkcigdcjpnojnaa", sum := "31f43f48af69ec0367db8ebd84f1081a31bc28a43e895775680e0083e1a2a8cb", func := "loop.example/g00838/laws.FnExactHexText", spec := "fnExactHexText", apart := false, narrowed := true }
def FnExactHexTextUptoSaid : Prop := fnExactHexTextUptoRow.holds Try.pinned (OpenSpec.upto fnExactHexTextSpec)

/-- 'laws.FnExactScaleValue', WHERE WHAT IT READS IS OF BULK AT MOST 1048576: true; the input reads as it did. -/
def fnExactScaleValueUptoRow : OpenClaim := { program := "ytkcigdcjpnojnaa", sum := "31f43f48af69ec0367db8ebd84f1081a31bc28a43e895775680e0083e1a2a8cb", func := "loop.example/g00838/laws.FnExactScaleValue", spec := "fnExactScaleValue", apart := false, narrowed := true }
def FnExactScaleValueUptoSaid : Prop := fnExactScaleValueUptoRow.holds Try.pinned (OpenSpec.upto fnExactScaleValueSpec)

/-- 'laws.FnExactAddValues', WHERE WHAT IT READS IS OF BULK AT MOST 1048576: true; the input reads as it did. -/
def fnExactAddValuesUptoRow : OpenClaim := { program := "ytkcigdcjpnojnaa", sum := "31f43f48af69ec0367db8ebd84f1081a31bc28a43e895775680e0083e1a2a8cb", func := "loop.example/g00838/laws.FnExactAddValues", spec := "fnExactAddValues", apart := false, narrowed := true }
def FnExactAddValuesUptoSaid : Prop := fnExactAddValuesUptoRow.holds Try.pinned (OpenSpec.upto fnExactAddValuesSpec)

/-- 'laws.FnExactReadHex', WHERE WHAT IT READS IS OF BULK AT MOST 1048576: true; the input reads as it did. -/
def fnExactReadHexUptoRow : OpenClaim := { program := "ytkcigdcjpnojnaa", sum := "31f43f48af69ec0367db8ebd84f1081a31bc28a43e895775680e0083e1a2a8cb", func := "loop.example/g00838/laws.FnExactReadHex", spec := "fnExactReadHex", apart := false, narrowed := true }
def FnExactReadHexUptoSaid : Prop := fnExactReadHexUptoRow.holds Try.pinned (OpenSpec.upto fnExactReadHexSpec)

/-- 'laws.FnExactReadNumber', WHERE WHAT IT READS IS OF BULK AT MOST 1048576: true; the input reads as it did. -/
def fnExactReadNumberUptoRow : OpenClaim := { program := "ytkcigdcjpnojnaa", sum := "31f43f48af69ec0367db8ebd84f1081a31bc28a43e895775680e0083e1a2a8cb", func := "loop.example/g00838/laws.FnExactReadNumber", spec := "fnExactReadNumber", apart := false, narrowed := true }
def FnExactReadNumberUptoSaid : Prop := fnExactReadNumberUptoRow.holds Try.pinned (OpenSpec.upto fnExactReadNumberSpec)

/-- 'laws.FnExactReadAny', WHERE WHAT IT READS IS OF BULK AT MOST 1048576: true; the input reads as it did. -/
def fnExactReadAnyUptoRow : OpenClaim := { program := "ytkcigdcjpnojnaa", sum := "31f43f48af69ec0367db8ebd84f1081a31bc28a43e895775680e0083e1a2a8cb", func := "loop.example/g00838/laws.FnExactReadAny", spec := "fnExactReadAny", apart := false, narrowed := true }
def FnExactReadAnyUptoSaid : Prop := fnExactReadAnyUptoRow.holds Try.pinned (OpenSpec.upto fnExactReadAnySpec)

/-- 'laws.FnExactCompareTexts', WHERE WHAT IT READS IS OF BULK AT MOST 1048576: true; the input reads as it did. -/
def fnExactCompareTextsUptoRow : OpenClaim := { program := "ytkcigdcjpnojnaa", sum := "31f43f48af69ec0367db8ebd84f1081a31bc28a43e895775680e0083e1a2a8cb", func := "loop.example/g00838/laws.FnExactCompareTexts", spec := "fnExactCompareTexts", apart := false, narrowed := true }
def FnExactCompareTextsUptoSaid : Prop := fnExactCompareTextsUptoRow.holds Try.pinned (OpenSpec.upto fnExactCompareTextsSpec)

end Rows
end Go.Proofs.Ytkcigdcjpnojnaa
