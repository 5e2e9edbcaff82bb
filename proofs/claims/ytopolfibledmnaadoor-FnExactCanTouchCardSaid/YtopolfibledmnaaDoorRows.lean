/-
  NARROWER THAN 'FOR EVERY INPUT', by the rows' own cells (each row's printed sentence says how): FnExactIsKey: laid · FnExactIsToken: laid · FnExactTokenAt: laid · FnExactCountTokens: laid · FnExactSameTokens: laid · FnExactJoinTokens: laid · FnExactCanTouch: laid · FnExactTokensOf: laid · FnExactSpacedText: laid.
  DERIVED. THE GIVEN ROWS OF THIS SEAT. 9 by the template 'for every input the law returns true; each argument reads behind the call as it read before'; 0 by the template 'total and deterministic' (their statements: YtopolfibledmnaaDoorTotals.lean).
  GIVEN WITH THE SEED: the statements are not yours to turn. If you find one false, say at which input.
  Laid BY PROGRAM, IN A SANDBOX (cutbox-rows.mjs): the forced cells as the released guide's own fill.sh prints them over the translation 48d58adb7a13a881… (all of the seat's roots in one cut). By AI agents, Wed Nov 11 2026. No macro, syntax, notation, axiom, sorry.
-/
import Derived.Test.YtopolfibledmnaaDoorChecked
import GoSem.Claim
import GoSem.ClaimJoined
import GoSem.ClaimMapViews
import Derived.JoinedTies
import Derived.KernelRfl
namespace Go.Proofs.YtopolfibledmnaaDoor
/- THE CELL 'sum', in the pinned program and in every row, IS THE sha256 OF THE DUMP (.gsa) THAT YtopolfibledmnaaDoorProg.lean LOADS. Nothing in Lean hashes anything: it is a label: what it is worth is what the hold of that sum in a sandbox is worth. -/
noncomputable def Tryd.pinned : Pinned := { name := "ytopolfibledmnaadoor", sum := "48d58adb7a13a881c9319d816a58b5b24cc435e9ee21fbda47ae912380e39d39", checked := Tryd.checked }
namespace Rows
def none {H : Type} : Left H := { results := [], args := [] }

/- WHAT THE LISTED PACKAGE-LEVEL VARIABLES READ AS WHEN THE CALL BEGINS. Each datum BY PROGRAM (the guide's laid-datum.mjs) off the statement by which the dump's own 'gosem.cut.vars' lays the variable. In a bare row this is a premise. The card (YtopolfibledmnaaDoorCards.lean) ties it to the program's text. -/
def laid_loop_example_g00838_impl_keyWords {H : Type} : DataW H := .agg [.lit (.string [113, 100, 105, 115, 99]), .lit (.string [100, 101, 102, 97, 117, 108, 116]), .lit (.string [99, 108, 97, 115, 115]), .lit (.string [114, 97, 116, 101]), .lit (.string [99, 101, 105, 108]), .lit (.string [98, 117, 114, 115, 116]), .lit (.string [99, 98, 117, 114, 115, 116]), .lit (.string [112, 114, 105, 111]), .lit (.string [108, 105, 109, 105, 116]), .lit (.string [102, 105, 108, 116, 101, 114]), .lit (.string [115, 111, 117, 114, 99, 101]), .lit (.string [100, 101, 115, 116]), .lit (.string [112, 111, 114, 116]), .lit (.string [109, 97, 114, 107])]
def laid_loop_example_g00838_impl_signTexts {H : Type} : DataW H := .agg [.lit (.string [123]), .lit (.string [125]), .lit (.string [59]), .lit (.string [47]), .lit (.string [61]), .lit (.string [45, 62])]

/-- 'laws.FnExactIsKey': WHATEVER THE INPUT: true; the input reads as it did. -/
def fnExactIsKeySpec : ChangeSpec := { name := "fnExactIsKey", vars := ["loop.example/g00838/impl.keyWords"], fn := fun _ => fun
  | [d, g1] => { results := [.lit (.bool true)], args := [d], vars := [g1] }
  | _ => none }
def fnExactIsKeyRow : OpenClaim := { program := "ytopolfibledmnaadoor", sum := "48d58adb7a13a881c9319d816a58b5b24cc435e9ee21fbda47ae912380e39d39", func := "loop.example/g00838/laws.FnExactIsKey", spec := "fnExactIsKey", named := ["loop.example/g00838/impl.keyWords"], apart := false, laid := [("loop.example/g00838/impl.keyWords", laid_loop_example_g00838_impl_keyWords)] }
def FnExactIsKeySaid : Prop := fnExactIsKeyRow.holds Tryd.pinned (OpenSpec.ofChange fnExactIsKeySpec)

/-- ITS FALSE NEIGHBOUR: 'it returns false'. Refute it at one input. -/
def fnExactIsKeyWrong : ChangeSpec := { name := "fnExactIsKey", vars := ["loop.example/g00838/impl.keyWords"], fn := fun _ => fun
  | [d, g1] => { results := [.lit (.bool false)], args := [d], vars := [g1] }
  | _ => none }
def FnExactIsKeyWrongFalsely : Prop := fnExactIsKeyRow.holds Tryd.pinned (OpenSpec.ofChange fnExactIsKeyWrong)

/-- 'laws.FnExactIsToken': WHATEVER THE INPUT: true; the input reads as it did. -/
def fnExactIsTokenSpec : ChangeSpec := { name := "fnExactIsToken", vars := ["loop.example/g00838/impl.signTexts", "loop.example/g00838/impl.keyWords"], fn := fun _ => fun
  | [d, g1, g2] => { results := [.lit (.bool true)], args := [d], vars := [g1, g2] }
  | _ => none }
def fnExactIsTokenRow : OpenClaim := { program := "ytopolfibledmnaadoor", sum := "48d58adb7a13a881c9319d816a58b5b24cc435e9ee21fbda47ae912380e39d39", func := "loop.example/g00838/laws.FnExactIsToken", spec := "fnExactIsToken", named := ["loop.example/g00838/impl.signTexts", "loop.example/g00838/impl.keyWords"], apart := false, laid := [("loop.example/g00838/impl.keyWords", laid_loop_example_g00838_impl_keyWords), ("loop.example/g00838/impl.signTexts", laid_loop_example_g00838_impl_signTexts)] }
def FnExactIsTokenSaid : Prop := fnExactIsTokenRow.holds Tryd.pinned (OpenSpec.ofChange fnExactIsTokenSpec)

/-- ITS FALSE NEIGHBOUR: 'it returns false'. Refute it at one input. -/
def fnExactIsTokenWrong : ChangeSpec := { name := "fnExactIsToken", vars := ["loop.example/g00838/impl.signTexts", "loop.example/g00838/impl.keyWords"], fn := fun _ => fun
  | [d, g1, g2] => { results := [.lit (.bool false)], args := [d], vars := [g1, g2] }
  | _ => none }
def FnExactIsTokenWrongFalsely : Prop := fnExactIsTokenRow.holds Tryd.pinned (OpenSpec.ofChange fnExactIsTokenWrong)

/-- 'laws.FnExactTokenAt': WHATEVER THE INPUT: true; the input reads as it did. -/
def fnExactTokenAtSpec : ChangeSpec := { name := "fnExactTokenAt", vars := ["loop.example/g00838/impl.signTexts", "loop.example/g00838/impl.keyWords"], fn := fun _ => fun
  | [d1, d2, g1, g2] => { results := [.lit (.bool true)], args := [d1, d2], vars := [g1, g2] }
  | _ => none }
def fnExactTokenAtRow : OpenClaim := { program := "ytopolfibledmnaadoor", sum := "48d58adb7a13a881c9319d816a58b5b24cc435e9ee21fbda47ae912380e39d39", func := "loop.example/g00838/laws.FnExactTokenAt", spec := "fnExactTokenAt", named := ["loop.example/g00838/impl.signTexts", "loop.example/g00838/impl.keyWords"], apart := false, laid := [("loop.example/g00838/impl.keyWords", laid_loop_example_g00838_impl_keyWords), ("loop.example/g00838/impl.signTexts", laid_loop_example_g00838_impl_signTexts)] }
def FnExactTokenAtSaid : Prop := fnExactTokenAtRow.holds Tryd.pinned (OpenSpec.ofChange fnExactTokenAtSpec)

/-- ITS FALSE NEIGHBOUR: 'it returns false'. Refute it at one input. -/
def fnExactTokenAtWrong : ChangeSpec := { name := "fnExactTokenAt", vars := ["loop.example/g00838/impl.signTexts", "loop.example/g00838/impl.keyWords"], fn := fun _ => fun
  | [d1, d2, g1, g2] => { results := [.lit (.bool false)], args := [d1, d2], vars := [g1, g2] }
  | _ => none }
def FnExactTokenAtWrongFalsely : Prop := fnExactTokenAtRow.holds Tryd.pinned (OpenSpec.ofChange fnExactTokenAtWrong)

/-- 'laws.FnExactCountTokens': WHATEVER THE INPUT: true; the input reads as it did. -/
def fnExactCountTokensSpec : ChangeSpec := { name := "fnExactCountTokens", vars := ["loop.example/g00838/impl.signTexts", "loop.example/g00838/impl.keyWords"], fn := fun _ => fun
  | [d, g1, g2] => { results := [.lit (.bool true)], args := [d], vars := [g1, g2] }
  | _ => none }
def fnExactCountTokensRow : OpenClaim := { program := "ytopolfibledmnaadoor", sum := "48d58adb7a13a881c9319d816a58b5b24cc435e9ee21fbda47ae912380e39d39", func := "loop.example/g00838/laws.FnExactCountTokens", spec := "fnExactCountTokens", named := ["loop.example/g00838/impl.signTexts", "loop.example/g00838/impl.keyWords"], apart := false, laid := [("loop.example/g00838/impl.keyWords", laid_loop_example_g00838_impl_keyWords), ("loop.example/g00838/impl.signTexts", laid_loop_example_g00838_impl_signTexts)] }
def FnExactCountTokensSaid : Prop := fnExactCountTokensRow.holds Tryd.pinned (OpenSpec.ofChange fnExactCountTokensSpec)

/-- ITS FALSE NEIGHBOUR: 'it returns false'. Refute it at one input. -/
def fnExactCountTokensWrong : ChangeSpec := { name := "fnExactCountTokens", vars := ["loop.example/g00838/impl.signTexts", "loop.example/g00838/impl.keyWords"], fn := fun _ => fun
  | [d, g1, g2] => { results := [.lit (.bool false)], args := [d], vars := [g1, g2] }
  | _ => none }
def FnExactCountTokensWrongFalsely : Prop := fnExactCountTokensRow.holds Tryd.pinned (OpenSpec.ofChange fnExactCountTokensWrong)

/-- 'laws.FnExactSameTokens': WHATEVER THE INPUT: true; the input reads as it did. -/
def fnExactSameTokensSpec : ChangeSpec := { name := "fnExactSameTokens", vars := ["loop.example/g00838/impl.signTexts", "loop.example/g00838/impl.keyWords"], fn := fun _ => fun
  | [d1, d2, g1, g2] => { results := [.lit (.bool true)], args := [d1, d2], vars := [g1, g2] }
  | _ => none }
def fnExactSameTokensRow : OpenClaim := { program := "ytopolfibledmnaadoor", sum := "48d58adb7a13a881c9319d816a58b5b24cc435e9ee21fbda47ae912380e39d39", func := "loop.example/g00838/laws.FnExactSameTokens", spec := "fnExactSameTokens", named := ["loop.example/g00838/impl.signTexts", "loop.example/g00838/impl.keyWords"], apart := false, laid := [("loop.example/g00838/impl.keyWords", laid_loop_example_g00838_impl_keyWords), ("loop.example/g00838/impl.signTexts", laid_loop_example_g00838_impl_signTexts)] }
def FnExactSameTokensSaid : Prop := fnExactSameTokensRow.holds Tryd.pinned (OpenSpec.ofChange fnExactSameTokensSpec)

/-- ITS FALSE NEIGHBOUR: 'it returns false'. Refute it at one input. -/
def fnExactSameTokensWrong : ChangeSpec := { name := "fnExactSameTokens", vars := ["loop.example/g00838/impl.signTexts", "loop.example/g00838/impl.keyWords"], fn := fun _ => fun
  | [d1, d2, g1, g2] => { results := [.lit (.bool false)], args := [d1, d2], vars := [g1, g2] }
  | _ => none }
def FnExactSameTokensWrongFalsely : Prop := fnExactSameTokensRow.holds Tryd.pinned (OpenSpec.ofChange fnExactSameTokensWrong)

/-- 'laws.FnExactJoinTokens': WHATEVER THE INPUT: true; the input reads as it did. -/
def fnExactJoinTokensSpec : ChangeSpec := { name := "fnExactJoinTokens", vars := ["loop.example/g00838/impl.signTexts", "loop.example/g00838/impl.keyWords"], fn := fun _ => fun
  | [d, g1, g2] => { results := [.lit (.bool true)], args := [d], vars := [g1, g2] }
  | _ => none }
def fnExactJoinTokensRow : OpenClaim := { program := "ytopolfibledmnaadoor", sum := "48d58adb7a13a881c9319d816a58b5b24cc435e9ee21fbda47ae912380e39d39", func := "loop.example/g00838/laws.FnExactJoinTokens", spec := "fnExactJoinTokens", inPlace := ["internal/abi.NoEscape", "internal/bytealg.MakeNoZero"], named := ["loop.example/g00838/impl.signTexts", "loop.example/g00838/impl.keyWords"], apart := false, laid := [("loop.example/g00838/impl.keyWords", laid_loop_example_g00838_impl_keyWords), ("loop.example/g00838/impl.signTexts", laid_loop_example_g00838_impl_signTexts)] }
def FnExactJoinTokensSaid : Prop := fnExactJoinTokensRow.holds Tryd.pinned (OpenSpec.ofChange fnExactJoinTokensSpec)

/-- ITS FALSE NEIGHBOUR: 'it returns false'. Refute it at one input. -/
def fnExactJoinTokensWrong : ChangeSpec := { name := "fnExactJoinTokens", vars := ["loop.example/g00838/impl.signTexts", "loop.example/g00838/impl.keyWords"], fn := fun _ => fun
  | [d, g1, g2] => { results := [.lit (.bool false)], args := [d], vars := [g1, g2] }
  | _ => none }
def FnExactJoinTokensWrongFalsely : Prop := fnExactJoinTokensRow.holds Tryd.pinned (OpenSpec.ofChange fnExactJoinTokensWrong)

/-- 'laws.FnExactCanTouch': WHATEVER THE INPUT: true; the input reads as it did. -/
def fnExactCanTouchSpec : ChangeSpec := { name := "fnExactCanTouch", vars := ["loop.example/g00838/impl.signTexts", "loop.example/g00838/impl.keyWords"], fn := fun _ => fun
  | [d1, d2, g1, g2] => { results := [.lit (.bool true)], args := [d1, d2], vars := [g1, g2] }
  | _ => none }
def fnExactCanTouchRow : OpenClaim := { program := "ytopolfibledmnaadoor", sum := "48d58adb7a13a881c9319d816a58b5b24cc435e9ee21fbda47ae912380e39d39", func := "loop.example/g00838/laws.FnExactCanTouch", spec := "fnExactCanTouch", named := ["loop.example/g00838/impl.signTexts", "loop.example/g00838/impl.keyWords"], apart := false, laid := [("loop.example/g00838/impl.keyWords", laid_loop_example_g00838_impl_keyWords), ("loop.example/g00838/impl.signTexts", laid_loop_example_g00838_impl_signTexts)] }
def FnExactCanTouchSaid : Prop := fnExactCanTouchRow.holds Tryd.pinned (OpenSpec.ofChange fnExactCanTouchSpec)

/-- ITS FALSE NEIGHBOUR: 'it returns false'. Refute it at one input. -/
def fnExactCanTouchWrong : ChangeSpec := { name := "fnExactCanTouch", vars := ["loop.example/g00838/impl.signTexts", "loop.example/g00838/impl.keyWords"], fn := fun _ => fun
  | [d1, d2, g1, g2] => { results := [.lit (.bool false)], args := [d1, d2], vars := [g1, g2] }
  | _ => none }
def FnExactCanTouchWrongFalsely : Prop := fnExactCanTouchRow.holds Tryd.pinned (OpenSpec.ofChange fnExactCanTouchWrong)

/-- 'laws.FnExactTokensOf': WHATEVER THE INPUT: true; the input reads as it did. -/
def fnExactTokensOfSpec : ChangeSpec := { name := "fnExactTokensOf", vars := ["loop.example/g00838/impl.signTexts", "loop.example/g00838/impl.keyWords"], fn := fun _ => fun
  | [d, g1, g2] => { results := [.lit (.bool true)], args := [d], vars := [g1, g2] }
  | _ => none }
def fnExactTokensOfRow : OpenClaim := { program := "ytopolfibledmnaadoor", sum := "48d58adb7a13a881c9319d816a58b5b24cc435e9ee21fbda47ae912380e39d39", func := "loop.example/g00838/laws.FnExactTokensOf", spec := "fnExactTokensOf", named := ["loop.example/g00838/impl.signTexts", "loop.example/g00838/impl.keyWords"], apart := false, laid := [("loop.example/g00838/impl.keyWords", laid_loop_example_g00838_impl_keyWords), ("loop.example/g00838/impl.signTexts", laid_loop_example_g00838_impl_signTexts)] }
def FnExactTokensOfSaid : Prop := fnExactTokensOfRow.holds Tryd.pinned (OpenSpec.ofChange fnExactTokensOfSpec)

/-- ITS FALSE NEIGHBOUR: 'it returns false'. Refute it at one input. -/
def fnExactTokensOfWrong : ChangeSpec := { name := "fnExactTokensOf", vars := ["loop.example/g00838/impl.signTexts", "loop.example/g00838/impl.keyWords"], fn := fun _ => fun
  | [d, g1, g2] => { results := [.lit (.bool false)], args := [d], vars := [g1, g2] }
  | _ => none }
def FnExactTokensOfWrongFalsely : Prop := fnExactTokensOfRow.holds Tryd.pinned (OpenSpec.ofChange fnExactTokensOfWrong)

/-- 'laws.FnExactSpacedText': WHATEVER THE INPUT: true; the input reads as it did. -/
def fnExactSpacedTextSpec : ChangeSpec := { name := "fnExactSpacedText", vars := ["loop.example/g00838/impl.signTexts", "loop.example/g00838/impl.keyWords"], fn := fun _ => fun
  | [d, g1, g2] => { results := [.lit (.bool true)], args := [d], vars := [g1, g2] }
  | _ => none }
def fnExactSpacedTextRow : OpenClaim := { program := "ytopolfibledmnaadoor", sum := "48d58adb7a13a881c9319d816a58b5b24cc435e9ee21fbda47ae912380e39d39", func := "loop.example/g00838/laws.FnExactSpacedText", spec := "fnExactSpacedText", inPlace := ["internal/abi.NoEscape", "internal/bytealg.MakeNoZero"], named := ["loop.example/g00838/impl.signTexts", "loop.example/g00838/impl.keyWords"], apart := false, laid := [("loop.example/g00838/impl.keyWords", laid_loop_example_g00838_impl_keyWords), ("loop.example/g00838/impl.signTexts", laid_loop_example_g00838_impl_signTexts)] }
def FnExactSpacedTextSaid : Prop := fnExactSpacedTextRow.holds Tryd.pinned (OpenSpec.ofChange fnExactSpacedTextSpec)

/-- ITS FALSE NEIGHBOUR: 'it returns false'. Refute it at one input. -/
def fnExactSpacedTextWrong : ChangeSpec := { name := "fnExactSpacedText", vars := ["loop.example/g00838/impl.signTexts", "loop.example/g00838/impl.keyWords"], fn := fun _ => fun
  | [d, g1, g2] => { results := [.lit (.bool false)], args := [d], vars := [g1, g2] }
  | _ => none }
def FnExactSpacedTextWrongFalsely : Prop := fnExactSpacedTextRow.holds Tryd.pinned (OpenSpec.ofChange fnExactSpacedTextWrong)

/- THE SECOND FORM. 'bulk': how many values and letters a reading holds, each counted each time it is reached (what is shared counts as often as it is met; a slice's spare places count too). A statement '..UptoSaid' is the law's where the arguments, and the package variables that the reading takes, are together of bulk at most 1048576: NARROWER than '..Said'. Prove '..Said' where nothing that the law and all that it calls make is longer than what came in: it says more and counts as full. Else prove '..UptoSaid'. A law counts once. -/
mutual
def uptoBulk {H : Type} : DataW H → Nat
  | .lit (.string bytes) => bytes.length + 1
  | .lit _ => 1
  | .nil => 1
  | .ptr d => uptoBulk d + 1
  | .slice elems spare => uptoBulkAll elems + uptoBulkAll spare + 1
  | .agg parts => uptoBulkAll parts + 1
  | .iface _ d => uptoBulk d + 1
  | .map entries => uptoBulkEntries entries + 1
  | .held _ => 1
def uptoBulkAll {H : Type} : List (DataW H) → Nat
  | [] => 0
  | d :: r => uptoBulk d + uptoBulkAll r
def uptoBulkEntries {H : Type} : List (Lit × DataW H) → Nat
  | [] => 0
  | x :: r => uptoBulkEntry x + uptoBulkEntries r
def uptoBulkEntry {H : Type} : Lit × DataW H → Nat
  | (.string bytes, d) => bytes.length + uptoBulk d + 1
  | (_, d) => uptoBulk d + 1
 end
def uptoSmall : (H : Type) → List (DataW H) → Bool := fun _ ds => decide (uptoBulkAll ds ≤ 1048576)
def OpenSpec.upto (s : _root_.Go.ChangeSpec) : _root_.Go.OpenSpec := { _root_.Go.OpenSpec.ofChange s with cond := some uptoSmall }

/-- 'laws.FnExactIsKey', WHERE WHAT IT READS IS OF BULK AT MOST 1048576: true; the input reads as it did. -/
def fnExactIsKeyUptoRow : OpenClaim := { program := "ytopolfibledmnaadoor", sum := "48d58adb7a13a881c9319d816a58b5b24cc435e9ee21fbda47ae912380e39d39", func := "loop.example/g00838/laws.FnExactIsKey", spec := "fnExactIsKey", named := ["loop.example/g00838/impl.keyWords"], apart := false, laid := [("loop.example/g00838/impl.keyWords", laid_loop_example_g00838_impl_keyWords)], narrowed := true }
def FnExactIsKeyUptoSaid : Prop := fnExactIsKeyUptoRow.holds Tryd.pinned (OpenSpec.upto fnExactIsKeySpec)

/-- 'laws.FnExactIsToken', WHERE WHAT IT READS IS OF BULK AT MOST 1048576: true; the input reads as it did. -/
def fnExactIsTokenUptoRow : OpenClaim := { program := "ytopolfibledmnaadoor", sum := "48d58adb7a13a881c9319d816a58b5b24cc435e9ee21fbda47ae912380e39d39", func := "loop.example/g00838/laws.FnExactIsToken", spec := "fnExactIsToken", named := ["loop.example/g00838/impl.signTexts", "loop.example/g00838/impl.keyWords"], apart := false, laid := [("loop.example/g00838/impl.keyWords", laid_loop_example_g00838_impl_keyWords), ("loop.example/g00838/impl.signTexts", laid_loop_example_g00838_impl_signTexts)], narrowed := true }
def FnExactIsTokenUptoSaid : Prop := fnExactIsTokenUptoRow.holds Tryd.pinned (OpenSpec.upto fnExactIsTokenSpec)

/-- 'laws.FnExactTokenAt', WHERE WHAT IT READS IS OF BULK AT MOST 1048576: true; the input reads as it did. -/
def fnExactTokenAtUptoRow : OpenClaim := { program := "ytopolfibledmnaadoor", sum := "48d58adb7a13a881c9319d816a58b5b24cc435e9ee21fbda47ae912380e39d39", func := "loop.example/g00838/laws.FnExactTokenAt", spec := "fnExactTokenAt", named := ["loop.example/g00838/impl.signTexts", "loop.example/g00838/impl.keyWords"], apart := false, laid := [("loop.example/g00838/impl.keyWords", laid_loop_example_g00838_impl_keyWords), ("loop.example/g00838/impl.signTexts", laid_loop_example_g00838_impl_signTexts)], narrowed := true }
def FnExactTokenAtUptoSaid : Prop := fnExactTokenAtUptoRow.holds Tryd.pinned (OpenSpec.upto fnExactTokenAtSpec)

/-- 'laws.FnExactCountTokens', WHERE WHAT IT READS IS OF BULK AT MOST 1048576: true; the input reads as it did. -/
def fnExactCountTokensUptoRow : OpenClaim := { program := "ytopolfibledmnaadoor", sum := "48d58adb7a13a881c9319d816a58b5b24cc435e9ee21fbda47ae912380e39d39", func := "loop.example/g00838/laws.FnExactCountTokens", spec := "fnExactCountTokens", named := ["loop.example/g00838/impl.signTexts", "loop.example/g00838/impl.keyWords"], apart := false, laid := [("loop.example/g00838/impl.keyWords", laid_loop_example_g00838_impl_keyWords), ("loop.example/g00838/impl.signTexts", laid_loop_example_g00838_impl_signTexts)], narrowed := true }
def FnExactCountTokensUptoSaid : Prop := fnExactCountTokensUptoRow.holds Tryd.pinned (OpenSpec.upto fnExactCountTokensSpec)

/-- 'laws.FnExactSameTokens', WHERE WHAT IT READS IS OF BULK AT MOST 1048576: true; the input reads as it did. -/
def fnExactSameTokensUptoRow : OpenClaim := { program := "ytopolfibledmnaadoor", sum := "48d58adb7a13a881c9319d816a58b5b24cc435e9ee21fbda47ae912380e39d39", func := "loop.example/g00838/laws.FnExactSameTokens", spec := "fnExactSameTokens", named := ["loop.example/g00838/impl.signTexts", "loop.example/g00838/impl.keyWords"], apart := false, laid := [("loop.example/g00838/impl.keyWords", laid_loop_example_g00838_impl_keyWords), ("loop.example/g00838/impl.signTexts", laid_loop_example_g00838_impl_signTexts)], narrowed := true }
def FnExactSameTokensUptoSaid : Prop := fnExactSameTokensUptoRow.holds Tryd.pinned (OpenSpec.upto fnExactSameTokensSpec)

/-- 'laws.FnExactJoinTokens', WHERE WHAT IT READS IS OF BULK AT MOST 1048576: true; the input reads as it did. -/
def fnExactJoinTokensUptoRow : OpenClaim := { program := "ytopolfibledmnaadoor", sum := "48d58adb7a13a881c9319d816a58b5b24cc435e9ee21fbda47ae912380e39d39", func := "loop.example/g00838/laws.FnExactJoinTokens", spec := "fnExactJoinTokens", inPlace := ["internal/abi.NoEscape", "internal/bytealg.MakeNoZero"], named := ["loop.example/g00838/impl.signTexts", "loop.example/g00838/impl.keyWords"], apart := false, laid := [("loop.example/g00838/impl.keyWords", laid_loop_example_g00838_impl_keyWords), ("loop.example/g00838/impl.signTexts", laid_loop_example_g00838_impl_signTexts)], narrowed := true }
def FnExactJoinTokensUptoSaid : Prop := fnExactJoinTokensUptoRow.holds Tryd.pinned (OpenSpec.upto fnExactJoinTokensSpec)

/-- 'laws.FnExactCanTouch', WHERE WHAT IT READS IS OF BULK AT MOST 1048576: true; the input reads as it did. -/
def fnExactCanTouchUptoRow : OpenClaim := { program := "ytopolfibledmnaadoor", sum := "48d58adb7a13a881c9319d816a58b5b24cc435e9ee21fbda47ae912380e39d39", func := "loop.example/g00838/laws.FnExactCanTouch", spec := "fnExactCanTouch", named := ["loop.example/g00838/impl.signTexts", "loop.example/g00838/impl.keyWords"], apart := false, laid := [("loop.example/g00838/impl.keyWords", laid_loop_example_g00838_impl_keyWords), ("loop.example/g00838/impl.signTexts", laid_loop_example_g00838_impl_signTexts)], narrowed := true }
def FnExactCanTouchUptoSaid : Prop := fnExactCanTouchUptoRow.holds Tryd.pinned (OpenSpec.upto fnExactCanTouchSpec)

/-- 'laws.FnExactTokensOf', WHERE WHAT IT READS IS OF BULK AT MOST 1048576: true; the input reads as it did. -/
def fnExactTokensOfUptoRow : OpenClaim := { program := "ytopolfibledmnaadoor", sum := "48d58adb7a13a881c9319d816a58b5b24cc435e9ee21fbda47ae912380e39d39", func := "loop.example/g00838/laws.FnExactTokensOf", spec := "fnExactTokensOf", named := ["loop.example/g00838/impl.signTexts", "loop.example/g00838/impl.keyWords"], apart := false, laid := [("loop.example/g00838/impl.keyWords", laid_loop_example_g00838_impl_keyWords), ("loop.example/g00838/impl.signTexts", laid_loop_example_g00838_impl_signTexts)], narrowed := true }
def FnExactTokensOfUptoSaid : Prop := fnExactTokensOfUptoRow.holds Tryd.pinned (OpenSpec.upto fnExactTokensOfSpec)

/-- 'laws.FnExactSpacedText', WHERE WHAT IT READS IS OF BULK AT MOST 1048576: true; the input reads as it did. -/
def fnExactSpacedTextUptoRow : OpenClaim := { program := "ytopolfibledmnaadoor", sum := "48d58adb7a13a881c9319d816a58b5b24cc435e9ee21fbda47ae912380e39d39", func := "loop.example/g00838/laws.FnExactSpacedText", spec := "fnExactSpacedText", inPlace := ["internal/abi.NoEscape", "internal/bytealg.MakeNoZero"], named := ["loop.example/g00838/impl.signTexts", "loop.example/g00838/impl.keyWords"], apart := false, laid := [("loop.example/g00838/impl.keyWords", laid_loop_example_g00838_impl_keyWords), ("loop.example/g00838/impl.signTexts", laid_loop_example_g00838_impl_signTexts)], narrowed := true }
def FnExactSpacedTextUptoSaid : Prop := fnExactSpacedTextUptoRow.holds Tryd.pinned (OpenSpec.upto fnExactSpacedTextSpec)

end Rows
end Go.Proofs.YtopolfibledmnaaDoor
