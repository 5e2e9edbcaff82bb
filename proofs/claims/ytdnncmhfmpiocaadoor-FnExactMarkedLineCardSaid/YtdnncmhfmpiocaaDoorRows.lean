/-
  NARROWER THAN 'FOR EVERY INPUT', by the rows' own cells (each row's printed sentence says how): FnExactKindName: laid · FnExactKindNamed: laid · FnExactFaultText: laid · FnExactLineText: laid · FnExactPlaceOf: laid · FnExactMarkedLine: laid.
  DERIVED. THE GIVEN ROWS OF THIS SEAT. 6 by the template 'for every input the law returns true; each argument reads behind the call as it read before'; 0 by the template 'total and deterministic' (their statements: YtdnncmhfmpiocaaDoorTotals.lean).
  GIVEN WITH THE SEED: the statements are not yours to turn. If you find one false, say at which input.
  Laid BY PROGRAM, IN A SANDBOX (cutbox-rows.mjs): the forced cells as the released guide's own fill.sh prints them over the translation 3ebe95fba93c0cbc… (all of the seat's roots in one cut). By AI agents, Wed Nov 11 2026. No macro, syntax, notation, axiom, sorry.
-/
import Derived.Test.YtdnncmhfmpiocaaDoorChecked
import GoSem.PinnedTables
import GoSem.Claim
import GoSem.ClaimJoined
import GoSem.ClaimMapViews
import Derived.JoinedTies
import Derived.KernelRfl
namespace Go.Proofs.YtdnncmhfmpiocaaDoor
/- THE CELL 'sum', in the pinned program and in every row, IS THE sha256 OF THE DUMP (.gsa) THAT YtdnncmhfmpiocaaDoorProg.lean LOADS. Nothing in Lean hashes anything: it is a label: what it is worth is what the hold of that sum in a sandbox is worth. -/
noncomputable def Tryd.pinned : Pinned := { name := "ytdnncmhfmpiocaadoor", sum := "3ebe95fba93c0cbca5248d3834ad71cbb7883b314b30eb7109e5d78414b7c71d", checked := Tryd.checked }
namespace Rows
def none {H : Type} : Left H := { results := [], args := [] }

/- WHAT THE LISTED PACKAGE-LEVEL VARIABLES READ AS WHEN THE CALL BEGINS. Each datum BY PROGRAM (the guide's laid-datum.mjs) off the statement by which the dump's own 'gosem.cut.vars' lays the variable. In a bare row this is a premise. The card (YtdnncmhfmpiocaaDoorCards.lean) ties it to the program's text. -/
def laid_loop_example_g00838_impl_faultNames {H : Type} : DataW H := .agg [.lit (.string [110, 111, 110, 101]), .lit (.string [98, 121, 116, 101]), .lit (.string [116, 111, 107, 101, 110]), .lit (.string [110, 117, 109, 98, 101, 114]), .lit (.string [100, 101, 112, 116, 104]), .lit (.string [99, 111, 117, 110, 116]), .lit (.string [101, 110, 100]), .lit (.string [110, 97, 109, 101])]
def laid_math_bits_deBruijn32tab {H : Type} : DataW H := .agg [.lit (.int .u8 0), .lit (.int .u8 1), .lit (.int .u8 28), .lit (.int .u8 2), .lit (.int .u8 29), .lit (.int .u8 14), .lit (.int .u8 24), .lit (.int .u8 3), .lit (.int .u8 30), .lit (.int .u8 22), .lit (.int .u8 20), .lit (.int .u8 15), .lit (.int .u8 25), .lit (.int .u8 17), .lit (.int .u8 4), .lit (.int .u8 8), .lit (.int .u8 31), .lit (.int .u8 27), .lit (.int .u8 13), .lit (.int .u8 23), .lit (.int .u8 21), .lit (.int .u8 19), .lit (.int .u8 16), .lit (.int .u8 7), .lit (.int .u8 26), .lit (.int .u8 12), .lit (.int .u8 18), .lit (.int .u8 6), .lit (.int .u8 11), .lit (.int .u8 5), .lit (.int .u8 10), .lit (.int .u8 9)]
def laid_math_bits_deBruijn64tab {H : Type} : DataW H := .agg [.lit (.int .u8 0), .lit (.int .u8 1), .lit (.int .u8 56), .lit (.int .u8 2), .lit (.int .u8 57), .lit (.int .u8 49), .lit (.int .u8 28), .lit (.int .u8 3), .lit (.int .u8 61), .lit (.int .u8 58), .lit (.int .u8 42), .lit (.int .u8 50), .lit (.int .u8 38), .lit (.int .u8 29), .lit (.int .u8 17), .lit (.int .u8 4), .lit (.int .u8 62), .lit (.int .u8 47), .lit (.int .u8 59), .lit (.int .u8 36), .lit (.int .u8 45), .lit (.int .u8 43), .lit (.int .u8 51), .lit (.int .u8 22), .lit (.int .u8 53), .lit (.int .u8 39), .lit (.int .u8 33), .lit (.int .u8 30), .lit (.int .u8 24), .lit (.int .u8 18), .lit (.int .u8 12), .lit (.int .u8 5), .lit (.int .u8 63), .lit (.int .u8 55), .lit (.int .u8 48), .lit (.int .u8 27), .lit (.int .u8 60), .lit (.int .u8 41), .lit (.int .u8 37), .lit (.int .u8 16), .lit (.int .u8 46), .lit (.int .u8 35), .lit (.int .u8 44), .lit (.int .u8 21), .lit (.int .u8 52), .lit (.int .u8 32), .lit (.int .u8 23), .lit (.int .u8 11), .lit (.int .u8 54), .lit (.int .u8 26), .lit (.int .u8 40), .lit (.int .u8 15), .lit (.int .u8 34), .lit (.int .u8 20), .lit (.int .u8 31), .lit (.int .u8 10), .lit (.int .u8 25), .lit (.int .u8 14), .lit (.int .u8 19), .lit (.int .u8 9), .lit (.int .u8 13), .lit (.int .u8 8), .lit (.int .u8 7), .lit (.int .u8 6)]
def laid_internal_strconv_uint64pow10 {H : Type} : DataW H := .agg [.lit (.int .u64 1), .lit (.int .u64 10), .lit (.int .u64 100), .lit (.int .u64 1000), .lit (.int .u64 10000), .lit (.int .u64 100000), .lit (.int .u64 1000000), .lit (.int .u64 10000000), .lit (.int .u64 100000000), .lit (.int .u64 1000000000), .lit (.int .u64 10000000000), .lit (.int .u64 100000000000), .lit (.int .u64 1000000000000), .lit (.int .u64 10000000000000), .lit (.int .u64 100000000000000), .lit (.int .u64 1000000000000000), .lit (.int .u64 10000000000000000), .lit (.int .u64 100000000000000000), .lit (.int .u64 1000000000000000000), .lit (.int .u64 10000000000000000000)]
def laid_unicode_utf8_acceptRanges {H : Type} : DataW H := .agg [.agg [.lit (.int .u8 128), .lit (.int .u8 191)], .agg [.lit (.int .u8 160), .lit (.int .u8 191)], .agg [.lit (.int .u8 128), .lit (.int .u8 159)], .agg [.lit (.int .u8 144), .lit (.int .u8 191)], .agg [.lit (.int .u8 128), .lit (.int .u8 143)], .agg [.lit (.int .u8 0), .lit (.int .u8 0)], .agg [.lit (.int .u8 0), .lit (.int .u8 0)], .agg [.lit (.int .u8 0), .lit (.int .u8 0)], .agg [.lit (.int .u8 0), .lit (.int .u8 0)], .agg [.lit (.int .u8 0), .lit (.int .u8 0)], .agg [.lit (.int .u8 0), .lit (.int .u8 0)], .agg [.lit (.int .u8 0), .lit (.int .u8 0)], .agg [.lit (.int .u8 0), .lit (.int .u8 0)], .agg [.lit (.int .u8 0), .lit (.int .u8 0)], .agg [.lit (.int .u8 0), .lit (.int .u8 0)], .agg [.lit (.int .u8 0), .lit (.int .u8 0)]]
/-- One of Go's own tables, pinned by name: the form's constant. -/
def laid_unicode_utf8_first : DataW Unit := Go.Pinned.utf8First

/-- 'laws.FnExactKindName': WHATEVER THE INPUT: true; the input reads as it did. -/
def fnExactKindNameSpec : ChangeSpec := { name := "fnExactKindName", vars := ["loop.example/g00838/impl.faultNames"], fn := fun _ => fun
  | [d, g1] => { results := [.lit (.bool true)], args := [d], vars := [g1] }
  | _ => none }
def fnExactKindNameRow : OpenClaim := { program := "ytdnncmhfmpiocaadoor", sum := "3ebe95fba93c0cbca5248d3834ad71cbb7883b314b30eb7109e5d78414b7c71d", func := "loop.example/g00838/laws.FnExactKindName", spec := "fnExactKindName", named := ["loop.example/g00838/impl.faultNames"], apart := false, laid := [("loop.example/g00838/impl.faultNames", laid_loop_example_g00838_impl_faultNames)] }
def FnExactKindNameSaid : Prop := fnExactKindNameRow.holds Tryd.pinned (OpenSpec.ofChange fnExactKindNameSpec)

/-- ITS FALSE NEIGHBOUR: 'it returns false'. Refute it at one input. -/
def fnExactKindNameWrong : ChangeSpec := { name := "fnExactKindName", vars := ["loop.example/g00838/impl.faultNames"], fn := fun _ => fun
  | [d, g1] => { results := [.lit (.bool false)], args := [d], vars := [g1] }
  | _ => none }
def FnExactKindNameWrongFalsely : Prop := fnExactKindNameRow.holds Tryd.pinned (OpenSpec.ofChange fnExactKindNameWrong)

/-- 'laws.FnExactKindNamed': WHATEVER THE INPUT: true; the input reads as it did. -/
def fnExactKindNamedSpec : ChangeSpec := { name := "fnExactKindNamed", vars := ["loop.example/g00838/impl.faultNames"], fn := fun _ => fun
  | [d, g1] => { results := [.lit (.bool true)], args := [d], vars := [g1] }
  | _ => none }
def fnExactKindNamedRow : OpenClaim := { program := "ytdnncmhfmpiocaadoor", sum := "3ebe95fba93c0cbca5248d3834ad71cbb7883b314b30eb7109e5d78414b7c71d", func := "loop.example/g00838/laws.FnExactKindNamed", spec := "fnExactKindNamed", named := ["loop.example/g00838/impl.faultNames"], apart := false, laid := [("loop.example/g00838/impl.faultNames", laid_loop_example_g00838_impl_faultNames)] }
def FnExactKindNamedSaid : Prop := fnExactKindNamedRow.holds Tryd.pinned (OpenSpec.ofChange fnExactKindNamedSpec)

/-- ITS FALSE NEIGHBOUR: 'it returns false'. Refute it at one input. -/
def fnExactKindNamedWrong : ChangeSpec := { name := "fnExactKindNamed", vars := ["loop.example/g00838/impl.faultNames"], fn := fun _ => fun
  | [d, g1] => { results := [.lit (.bool false)], args := [d], vars := [g1] }
  | _ => none }
def FnExactKindNamedWrongFalsely : Prop := fnExactKindNamedRow.holds Tryd.pinned (OpenSpec.ofChange fnExactKindNamedWrong)

/-- 'laws.FnExactFaultText': WHATEVER THE INPUT: true; the input reads as it did. -/
def fnExactFaultTextSpec : ChangeSpec := { name := "fnExactFaultText", vars := ["loop.example/g00838/impl.faultNames"], fn := fun _ => fun
  | [d, g1] => { results := [.lit (.bool true)], args := [d], vars := [g1] }
  | _ => none }
def fnExactFaultTextRow : OpenClaim := { program := "ytdnncmhfmpiocaadoor", sum := "3ebe95fba93c0cbca5248d3834ad71cbb7883b314b30eb7109e5d78414b7c71d", func := "loop.example/g00838/laws.FnExactFaultText", spec := "fnExactFaultText", recurses := true, named := ["loop.example/g00838/impl.faultNames", "internal/strconv.uint64pow10", "math/bits.deBruijn32tab", "math/bits.deBruijn64tab"], apart := false, laid := [("math/bits.deBruijn32tab", laid_math_bits_deBruijn32tab), ("math/bits.deBruijn64tab", laid_math_bits_deBruijn64tab), ("internal/strconv.uint64pow10", laid_internal_strconv_uint64pow10), ("loop.example/g00838/impl.faultNames", laid_loop_example_g00838_impl_faultNames)] }
def FnExactFaultTextSaid : Prop := fnExactFaultTextRow.holds Tryd.pinned (OpenSpec.ofChange fnExactFaultTextSpec)

/-- ITS FALSE NEIGHBOUR: 'it returns false'. Refute it at one input. -/
def fnExactFaultTextWrong : ChangeSpec := { name := "fnExactFaultText", vars := ["loop.example/g00838/impl.faultNames"], fn := fun _ => fun
  | [d, g1] => { results := [.lit (.bool false)], args := [d], vars := [g1] }
  | _ => none }
def FnExactFaultTextWrongFalsely : Prop := fnExactFaultTextRow.holds Tryd.pinned (OpenSpec.ofChange fnExactFaultTextWrong)

/-- 'laws.FnExactLineText': WHATEVER THE INPUT: true; the input reads as it did. -/
def fnExactLineTextSpec : ChangeSpec := { name := "fnExactLineText", fn := fun _ => fun
  | [d1, d2] => { results := [.lit (.bool true)], args := [d1, d2] }
  | _ => none }
def fnExactLineTextRow : OpenClaim := { program := "ytdnncmhfmpiocaadoor", sum := "3ebe95fba93c0cbca5248d3834ad71cbb7883b314b30eb7109e5d78414b7c71d", func := "loop.example/g00838/laws.FnExactLineText", spec := "fnExactLineText", inPlace := ["internal/bytealg.CountString", "internal/bytealg.IndexByteString", "internal/bytealg.IndexString"], named := ["unicode/utf8.first", "unicode/utf8.acceptRanges", "internal/bytealg.MaxLen"], apart := false, laid := [("unicode/utf8.acceptRanges", laid_unicode_utf8_acceptRanges), ("unicode/utf8.first", laid_unicode_utf8_first)] }
def FnExactLineTextSaid : Prop := fnExactLineTextRow.holds Tryd.pinned (OpenSpec.ofChange fnExactLineTextSpec)

/-- ITS FALSE NEIGHBOUR: 'it returns false'. Refute it at one input. -/
def fnExactLineTextWrong : ChangeSpec := { name := "fnExactLineText", fn := fun _ => fun
  | [d1, d2] => { results := [.lit (.bool false)], args := [d1, d2] }
  | _ => none }
def FnExactLineTextWrongFalsely : Prop := fnExactLineTextRow.holds Tryd.pinned (OpenSpec.ofChange fnExactLineTextWrong)

/-- 'laws.FnExactPlaceOf': WHATEVER THE INPUT: true; the input reads as it did. -/
def fnExactPlaceOfSpec : ChangeSpec := { name := "fnExactPlaceOf", fn := fun _ => fun
  | [d1, d2, d3] => { results := [.lit (.bool true)], args := [d1, d2, d3] }
  | _ => none }
def fnExactPlaceOfRow : OpenClaim := { program := "ytdnncmhfmpiocaadoor", sum := "3ebe95fba93c0cbca5248d3834ad71cbb7883b314b30eb7109e5d78414b7c71d", func := "loop.example/g00838/laws.FnExactPlaceOf", spec := "fnExactPlaceOf", inPlace := ["internal/bytealg.CountString", "internal/bytealg.IndexByteString", "internal/bytealg.IndexString"], named := ["unicode/utf8.first", "unicode/utf8.acceptRanges", "internal/bytealg.MaxLen"], apart := false, laid := [("unicode/utf8.acceptRanges", laid_unicode_utf8_acceptRanges), ("unicode/utf8.first", laid_unicode_utf8_first)] }
def FnExactPlaceOfSaid : Prop := fnExactPlaceOfRow.holds Tryd.pinned (OpenSpec.ofChange fnExactPlaceOfSpec)

/-- ITS FALSE NEIGHBOUR: 'it returns false'. Refute it at one input. -/
def fnExactPlaceOfWrong : ChangeSpec := { name := "fnExactPlaceOf", fn := fun _ => fun
  | [d1, d2, d3] => { results := [.lit (.bool false)], args := [d1, d2, d3] }
  | _ => none }
def FnExactPlaceOfWrongFalsely : Prop := fnExactPlaceOfRow.holds Tryd.pinned (OpenSpec.ofChange fnExactPlaceOfWrong)

/-- 'laws.FnExactMarkedLine': WHATEVER THE INPUT: true; the input reads as it did. -/
def fnExactMarkedLineSpec : ChangeSpec := { name := "fnExactMarkedLine", fn := fun _ => fun
  | [d1, d2] => { results := [.lit (.bool true)], args := [d1, d2] }
  | _ => none }
def fnExactMarkedLineRow : OpenClaim := { program := "ytdnncmhfmpiocaadoor", sum := "3ebe95fba93c0cbca5248d3834ad71cbb7883b314b30eb7109e5d78414b7c71d", func := "loop.example/g00838/laws.FnExactMarkedLine", spec := "fnExactMarkedLine", inPlace := ["internal/bytealg.CountString", "internal/bytealg.IndexByteString", "internal/bytealg.IndexString", "internal/abi.NoEscape", "internal/bytealg.MakeNoZero"], named := ["internal/bytealg.MaxLen", "unicode/utf8.first", "unicode/utf8.acceptRanges"], apart := false, laid := [("unicode/utf8.acceptRanges", laid_unicode_utf8_acceptRanges), ("unicode/utf8.first", laid_unicode_utf8_first)] }
def FnExactMarkedLineSaid : Prop := fnExactMarkedLineRow.holds Tryd.pinned (OpenSpec.ofChange fnExactMarkedLineSpec)

/-- ITS FALSE NEIGHBOUR: 'it returns false'. Refute it at one input. -/
def fnExactMarkedLineWrong : ChangeSpec := { name := "fnExactMarkedLine", fn := fun _ => fun
  | [d1, d2] => { results := [.lit (.bool false)], args := [d1, d2] }
  | _ => none }
def FnExactMarkedLineWrongFalsely : Prop := fnExactMarkedLineRow.holds Tryd.pinned (OpenSpec.ofChange fnExactMarkedLineWrong)

/- THE SECOND FORM. 'bulk': how many values and letters a reading holds, each counted each time it is reached (what is shared counts as often as it is met; a slice's spare places count too). A statement '..UptoSaid' is the law's where the arguments, and the package variables that the reading takes, are together of bulk at most 1048576: NARROWER than '..Said'. Prove '..Said' where nothing that the law and all that it calls make is longer than what came in: it says more and counts as full. Else prove '..UptoSaid'. A law counts once. -/
mutual
def uptoBulk {H : Type} : DataW H → Nat
  | .lit (.string bytes) => bytes.length + 1
  | .lit _ => 1
  | .nil => 1
  | .ptr d => uptoBulk d + 1
  | .slice elems spare => uptoBulkAll elems + uptoBulkAll spare + 1
  | .agg parts => uptoBulkAll parts + 1
  | .iface _ d => uptoBulk d + 1
  | .map entries => uptoBulkEntries entries + 1
  | .held _ => 1
def uptoBulkAll {H : Type} : List (DataW H) → Nat
  | [] => 0
  | d :: r => uptoBulk d + uptoBulkAll r
def uptoBulkEntries {H : Type} : List (Lit × DataW H) → Nat
  | [] => 0
  | x :: r => uptoBulkEntry x + uptoBulkEntries r
def uptoBulkEntry {H : Type} : Lit × DataW H → Nat
  | (.string bytes, d) => bytes.length + uptoBulk d + 1
  | (_, d) => uptoBulk d + 1
 end
def uptoSmall : (H : Type) → List (DataW H) → Bool := fun _ ds => decide (uptoBulkAll ds ≤ 1048576)
def OpenSpec.upto (s : _root_.Go.ChangeSpec) : _root_.Go.OpenSpec := { _root_.Go.OpenSpec.ofChange s with cond := some uptoSmall }

/-- 'laws.FnExactKindName', WHERE WHAT IT READS IS OF BULK AT MOST 1048576: true; the input reads as it did. -/
def fnExactKindNameUptoRow : OpenClaim := { program := "ytdnncmhfmpiocaadoor", sum := "3ebe95fba93c0cbca5248d3834ad71cbb7883b314b30eb7109e5d78414b7c71d", func := "loop.example/g00838/laws.FnExactKindName", spec := "fnExactKindName", named := ["loop.example/g00838/impl.faultNames"], apart := false, laid := [("loop.example/g00838/impl.faultNames", laid_loop_example_g00838_impl_faultNames)], narrowed := true }
def FnExactKindNameUptoSaid : Prop := fnExactKindNameUptoRow.holds Tryd.pinned (OpenSpec.upto fnExactKindNameSpec)

/-- 'laws.FnExactKindNamed', WHERE WHAT IT READS IS OF BULK AT MOST 1048576: true; the input reads as it did. -/
def fnExactKindNamedUptoRow : OpenClaim := { program := "ytdnncmhfmpiocaadoor", sum := "3ebe95fba93c0cbca5248d3834ad71cbb7883b314b30eb7109e5d78414b7c71d", func := "loop.example/g00838/laws.FnExactKindNamed", spec := "fnExactKindNamed", named := ["loop.example/g00838/impl.faultNames"], apart := false, laid := [("loop.example/g00838/impl.faultNames", laid_loop_example_g00838_impl_faultNames)], narrowed := true }
def FnExactKindNamedUptoSaid : Prop := fnExactKindNamedUptoRow.holds Tryd.pinned (OpenSpec.upto fnExactKindNamedSpec)

/-- 'laws.FnExactFaultText', WHERE WHAT IT READS IS OF BULK AT MOST 1048576: true; the input reads as it did. -/
def fnExactFaultTextUptoRow : OpenClaim := { program := "ytdnncmhfmpiocaadoor", sum := "3ebe95fba93c0cbca5248d3834ad71cbb7883b314b30eb7109e5d78414b7c71d", func := "loop.example/g00838/laws.FnExactFaultText", spec := "fnExactFaultText", recurses := true, named := ["loop.example/g00838/impl.faultNames", "internal/strconv.uint64pow10", "math/bits.deBruijn32tab", "math/bits.deBruijn64tab"], apart := false, laid := [("math/bits.deBruijn32tab", laid_math_bits_deBruijn32tab), ("math/bits.deBruijn64tab", laid_math_bits_deBruijn64tab), ("internal/strconv.uint64pow10", laid_internal_strconv_uint64pow10), ("loop.example/g00838/impl.faultNames", laid_loop_example_g00838_impl_faultNames)], narrowed := true }
def FnExactFaultTextUptoSaid : Prop := fnExactFaultTextUptoRow.holds Tryd.pinned (OpenSpec.upto fnExactFaultTextSpec)

/-- 'laws.FnExactLineText', WHERE WHAT IT READS IS OF BULK AT MOST 1048576: true; the input reads as it did. -/
def fnExactLineTextUptoRow : OpenClaim := { program := "ytdnncmhfmpiocaadoor", sum := "3ebe95fba93c0cbca5248d3834ad71cbb7883b314b30eb7109e5d78414b7c71d", func := "loop.example/g00838/laws.FnExactLineText", spec := "fnExactLineText", inPlace := ["internal/bytealg.CountString", "internal/bytealg.IndexByteString", "internal/bytealg.IndexString"], named := ["unicode/utf8.first", "unicode/utf8.acceptRanges", "internal/bytealg.MaxLen"], apart := false, laid := [("unicode/utf8.acceptRanges", laid_unicode_utf8_acceptRanges), ("unicode/utf8.first", laid_unicode_utf8_first)], narrowed := true }
def FnExactLineTextUptoSaid : Prop := fnExactLineTextUptoRow.holds Tryd.pinned (OpenSpec.upto fnExactLineTextSpec)

/-- 'laws.FnExactPlaceOf', WHERE WHAT IT READS IS OF BULK AT MOST 1048576: true; the input reads as it did. -/
def fnExactPlaceOfUptoRow : OpenClaim := { program := "ytdnncmhfmpiocaadoor", sum := "3ebe95fba93c0cbca5248d3834ad71cbb7883b314b30eb7109e5d78414b7c71d", func := "loop.example/g00838/laws.FnExactPlaceOf", spec := "fnExactPlaceOf", inPlace := ["internal/bytealg.CountString", "internal/bytealg.IndexByteString", "internal/bytealg.IndexString"], named := ["unicode/utf8.first", "unicode/utf8.acceptRanges", "internal/bytealg.MaxLen"], apart := false, laid := [("unicode/utf8.acceptRanges", laid_unicode_utf8_acceptRanges), ("unicode/utf8.first", laid_unicode_utf8_first)], narrowed := true }
def FnExactPlaceOfUptoSaid : Prop := fnExactPlaceOfUptoRow.holds Tryd.pinned (OpenSpec.upto fnExactPlaceOfSpec)

/-- 'laws.FnExactMarkedLine', WHERE WHAT IT READS IS OF BULK AT MOST 1048576: true; the input reads as it did. -/
def fnExactMarkedLineUptoRow : OpenClaim := { program := "ytdnncmhfmpiocaadoor", sum := "3ebe95fba93c0cbca5248d3834ad71cbb7883b314b30eb7109e5d78414b7c71d", func := "loop.example/g00838/laws.FnExactMarkedLine", spec := "fnExactMarkedLine", inPlace := ["internal/bytealg.CountString", "internal/bytealg.IndexByteString", "internal/bytealg.IndexString", "internal/abi.NoEscape", "internal/bytealg.MakeNoZero"], named := ["internal/bytealg.MaxLen", "unicode/utf8.first", "unicode/utf8.acceptRanges"], apart := false, laid := [("unicode/utf8.acceptRanges", laid_unicode_utf8_acceptRanges), ("unicode/utf8.first", laid_unicode_utf8_first)], narrowed := true }
def FnExactMarkedLineUptoSaid : Prop := fnExactMarkedLineUptoRow.holds Tryd.pinned (OpenSpec.upto fnExactMarkedLineSpec)

end Rows
end Go.Proofs.YtdnncmhfmpiocaaDoor
