/-
  DERIVED. GIVEN WITH THE SEED: THE CARDS: each row of YtdnncmhfmpiocaaDoorRows.lean that lists a variable, with what it lists TIED to the program's text (the seventh form; the later family's looks); each row that meets fmt, with fmt's text TOLD by the authors' own Lean function (tested against real Go, not proved from fmt's source: count such statements apart). THE CARD IS WHAT COUNTS. Prove the row's statement (the work); the ties are given (YtdnncmhfmpiocaaDoorTie.lean); close each card by the builder's one call (the guide's Derived/Test/ToyasCard.lean, 'card_holds'). Laid BY PROGRAM, IN A SANDBOX (cutbox-door.mjs). By AI agents, Wed Nov 11 2026. No macro, syntax, notation, axiom, sorry.
-/
import Derived.Test.YtdnncmhfmpiocaaDoorRows
import GoSem.ClaimSeven
namespace Go.Proofs.YtdnncmhfmpiocaaDoor
namespace Rows

/-- THE TIED CARD OF 'laws.FnExactKindName'. -/
def fnExactKindNameCard : Claim7 := { stood := { row := fnExactKindNameRow, standIns := [], harness := (true, "2e019a8e48a04cc04f993f06aed9d31c895a1975128cd47e8bb36fe979200840"), looks := false }, kinds := [], alts := [], laidByText := true, laidKinds := [.data], laidTests := true, laidLooks := .later }
def FnExactKindNameCardSaid : Prop := Claim7.holds Tryd.pinned (.plain (OpenSpec.ofChange fnExactKindNameSpec)) fnExactKindNameCard

/-- THE TIED CARD OF 'laws.FnExactKindNamed'. -/
def fnExactKindNamedCard : Claim7 := { stood := { row := fnExactKindNamedRow, standIns := [], harness := (true, "2e019a8e48a04cc04f993f06aed9d31c895a1975128cd47e8bb36fe979200840"), looks := false }, kinds := [], alts := [], laidByText := true, laidKinds := [.data], laidTests := true, laidLooks := .later }
def FnExactKindNamedCardSaid : Prop := Claim7.holds Tryd.pinned (.plain (OpenSpec.ofChange fnExactKindNamedSpec)) fnExactKindNamedCard

/-- THE TIED CARD OF 'laws.FnExactFaultText'. -/
def fnExactFaultTextCard : Claim7 := { stood := { row := fnExactFaultTextRow, standIns := [], harness := (true, "2e019a8e48a04cc04f993f06aed9d31c895a1975128cd47e8bb36fe979200840"), looks := false }, kinds := [], alts := [], laidByText := true, laidKinds := [.data, .data, .data, .data], laidTests := true, laidLooks := .later }
def FnExactFaultTextCardSaid : Prop := Claim7.holds Tryd.pinned (.plain (OpenSpec.ofChange fnExactFaultTextSpec)) fnExactFaultTextCard

/-- THE TIED CARD OF 'laws.FnExactLineText'. -/
def fnExactLineTextCard : Claim7 := { stood := { row := fnExactLineTextRow, standIns := [], harness := (true, "2e019a8e48a04cc04f993f06aed9d31c895a1975128cd47e8bb36fe979200840"), looks := false }, kinds := [], alts := [], laidByText := true, laidKinds := [.data, .pinned], laidTests := true, laidLooks := .later }
def FnExactLineTextCardSaid : Prop := Claim7.holds Tryd.pinned (.plain (OpenSpec.ofChange fnExactLineTextSpec)) fnExactLineTextCard

/-- THE TIED CARD OF 'laws.FnExactPlaceOf'. -/
def fnExactPlaceOfCard : Claim7 := { stood := { row := fnExactPlaceOfRow, standIns := [], harness := (true, "2e019a8e48a04cc04f993f06aed9d31c895a1975128cd47e8bb36fe979200840"), looks := false }, kinds := [], alts := [], laidByText := true, laidKinds := [.data, .pinned], laidTests := true, laidLooks := .later }
def FnExactPlaceOfCardSaid : Prop := Claim7.holds Tryd.pinned (.plain (OpenSpec.ofChange fnExactPlaceOfSpec)) fnExactPlaceOfCard

/-- THE TIED CARD OF 'laws.FnExactMarkedLine'. -/
def fnExactMarkedLineCard : Claim7 := { stood := { row := fnExactMarkedLineRow, standIns := [], harness := (true, "2e019a8e48a04cc04f993f06aed9d31c895a1975128cd47e8bb36fe979200840"), looks := false }, kinds := [], alts := [], laidByText := true, laidKinds := [.data, .pinned], laidTests := true, laidLooks := .later }
def FnExactMarkedLineCardSaid : Prop := Claim7.holds Tryd.pinned (.plain (OpenSpec.ofChange fnExactMarkedLineSpec)) fnExactMarkedLineCard

/-- THE SECOND FORM's CARD OF 'laws.FnExactKindName'. -/
def fnExactKindNameUptoCard : Claim7 := { stood := { row := fnExactKindNameUptoRow, standIns := [], harness := (true, "2e019a8e48a04cc04f993f06aed9d31c895a1975128cd47e8bb36fe979200840"), looks := false }, kinds := [], alts := [], laidByText := true, laidKinds := [.data], laidTests := true, laidLooks := .later }
def FnExactKindNameUptoCardSaid : Prop := Claim7.holds Tryd.pinned (.plain (OpenSpec.upto fnExactKindNameSpec)) fnExactKindNameUptoCard

/-- THE SECOND FORM's CARD OF 'laws.FnExactKindNamed'. -/
def fnExactKindNamedUptoCard : Claim7 := { stood := { row := fnExactKindNamedUptoRow, standIns := [], harness := (true, "2e019a8e48a04cc04f993f06aed9d31c895a1975128cd47e8bb36fe979200840"), looks := false }, kinds := [], alts := [], laidByText := true, laidKinds := [.data], laidTests := true, laidLooks := .later }
def FnExactKindNamedUptoCardSaid : Prop := Claim7.holds Tryd.pinned (.plain (OpenSpec.upto fnExactKindNamedSpec)) fnExactKindNamedUptoCard

/-- THE SECOND FORM's CARD OF 'laws.FnExactFaultText'. -/
def fnExactFaultTextUptoCard : Claim7 := { stood := { row := fnExactFaultTextUptoRow, standIns := [], harness := (true, "2e019a8e48a04cc04f993f06aed9d31c895a1975128cd47e8bb36fe979200840"), looks := false }, kinds := [], alts := [], laidByText := true, laidKinds := [.data, .data, .data, .data], laidTests := true, laidLooks := .later }
def FnExactFaultTextUptoCardSaid : Prop := Claim7.holds Tryd.pinned (.plain (OpenSpec.upto fnExactFaultTextSpec)) fnExactFaultTextUptoCard

/-- THE SECOND FORM's CARD OF 'laws.FnExactLineText'. -/
def fnExactLineTextUptoCard : Claim7 := { stood := { row := fnExactLineTextUptoRow, standIns := [], harness := (true, "2e019a8e48a04cc04f993f06aed9d31c895a1975128cd47e8bb36fe979200840"), looks := false }, kinds := [], alts := [], laidByText := true, laidKinds := [.data, .pinned], laidTests := true, laidLooks := .later }
def FnExactLineTextUptoCardSaid : Prop := Claim7.holds Tryd.pinned (.plain (OpenSpec.upto fnExactLineTextSpec)) fnExactLineTextUptoCard

/-- THE SECOND FORM's CARD OF 'laws.FnExactPlaceOf'. -/
def fnExactPlaceOfUptoCard : Claim7 := { stood := { row := fnExactPlaceOfUptoRow, standIns := [], harness := (true, "2e019a8e48a04cc04f993f06aed9d31c895a1975128cd47e8bb36fe979200840"), looks := false }, kinds := [], alts := [], laidByText := true, laidKinds := [.data, .pinned], laidTests := true, laidLooks := .later }
def FnExactPlaceOfUptoCardSaid : Prop := Claim7.holds Tryd.pinned (.plain (OpenSpec.upto fnExactPlaceOfSpec)) fnExactPlaceOfUptoCard

/-- THE SECOND FORM's CARD OF 'laws.FnExactMarkedLine'. -/
def fnExactMarkedLineUptoCard : Claim7 := { stood := { row := fnExactMarkedLineUptoRow, standIns := [], harness := (true, "2e019a8e48a04cc04f993f06aed9d31c895a1975128cd47e8bb36fe979200840"), looks := false }, kinds := [], alts := [], laidByText := true, laidKinds := [.data, .pinned], laidTests := true, laidLooks := .later }
def FnExactMarkedLineUptoCardSaid : Prop := Claim7.holds Tryd.pinned (.plain (OpenSpec.upto fnExactMarkedLineSpec)) fnExactMarkedLineUptoCard
end Rows
end Go.Proofs.YtdnncmhfmpiocaaDoor
