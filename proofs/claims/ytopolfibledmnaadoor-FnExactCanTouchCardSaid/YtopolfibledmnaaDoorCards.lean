/-
  DERIVED. GIVEN WITH THE SEED: THE CARDS: each row of YtopolfibledmnaaDoorRows.lean that lists a variable, with what it lists TIED to the program's text (the seventh form; the later family's looks); each row that meets fmt, with fmt's text TOLD by the authors' own Lean function (tested against real Go, not proved from fmt's source: count such statements apart). THE CARD IS WHAT COUNTS. Prove the row's statement (the work); the ties are given (YtopolfibledmnaaDoorTie.lean); close each card by the builder's one call (the guide's Derived/Test/ToyasCard.lean, 'card_holds'). Laid BY PROGRAM, IN A SANDBOX (cutbox-door.mjs). By AI agents, Wed Nov 11 2026. No macro, syntax, notation, axiom, sorry.
-/
import Derived.Test.YtopolfibledmnaaDoorRows
import GoSem.ClaimSeven
namespace Go.Proofs.YtopolfibledmnaaDoor
namespace Rows

/-- THE TIED CARD OF 'laws.FnExactIsKey'. -/
def fnExactIsKeyCard : Claim7 := { stood := { row := fnExactIsKeyRow, standIns := [], harness := (true, "d41c26f5455743f5a444808b847c6ca046d3a312bdc921503e3016d5547cb535"), looks := false }, kinds := [], alts := [], laidByText := true, laidKinds := [.data], laidTests := true, laidLooks := .later }
def FnExactIsKeyCardSaid : Prop := Claim7.holds Tryd.pinned (.plain (OpenSpec.ofChange fnExactIsKeySpec)) fnExactIsKeyCard

/-- THE TIED CARD OF 'laws.FnExactIsToken'. -/
def fnExactIsTokenCard : Claim7 := { stood := { row := fnExactIsTokenRow, standIns := [], harness := (true, "d41c26f5455743f5a444808b847c6ca046d3a312bdc921503e3016d5547cb535"), looks := false }, kinds := [], alts := [], laidByText := true, laidKinds := [.data, .data], laidTests := true, laidLooks := .later }
def FnExactIsTokenCardSaid : Prop := Claim7.holds Tryd.pinned (.plain (OpenSpec.ofChange fnExactIsTokenSpec)) fnExactIsTokenCard

/-- THE TIED CARD OF 'laws.FnExactTokenAt'. -/
def fnExactTokenAtCard : Claim7 := { stood := { row := fnExactTokenAtRow, standIns := [], harness := (true, "d41c26f5455743f5a444808b847c6ca046d3a312bdc921503e3016d5547cb535"), looks := false }, kinds := [], alts := [], laidByText := true, laidKinds := [.data, .data], laidTests := true, laidLooks := .later }
def FnExactTokenAtCardSaid : Prop := Claim7.holds Tryd.pinned (.plain (OpenSpec.ofChange fnExactTokenAtSpec)) fnExactTokenAtCard

/-- THE TIED CARD OF 'laws.FnExactCountTokens'. -/
def fnExactCountTokensCard : Claim7 := { stood := { row := fnExactCountTokensRow, standIns := [], harness := (true, "d41c26f5455743f5a444808b847c6ca046d3a312bdc921503e3016d5547cb535"), looks := false }, kinds := [], alts := [], laidByText := true, laidKinds := [.data, .data], laidTests := true, laidLooks := .later }
def FnExactCountTokensCardSaid : Prop := Claim7.holds Tryd.pinned (.plain (OpenSpec.ofChange fnExactCountTokensSpec)) fnExactCountTokensCard

/-- THE TIED CARD OF 'laws.FnExactSameTokens'. -/
def fnExactSameTokensCard : Claim7 := { stood := { row := fnExactSameTokensRow, standIns := [], harness := (true, "d41c26f5455743f5a444808b847c6ca046d3a312bdc921503e3016d5547cb535"), looks := false }, kinds := [], alts := [], laidByText := true, laidKinds := [.data, .data], laidTests := true, laidLooks := .later }
def FnExactSameTokensCardSaid : Prop := Claim7.holds Tryd.pinned (.plain (OpenSpec.ofChange fnExactSameTokensSpec)) fnExactSameTokensCard

/-- THE TIED CARD OF 'laws.FnExactJoinTokens'. -/
def fnExactJoinTokensCard : Claim7 := { stood := { row := fnExactJoinTokensRow, standIns := [], harness := (true, "d41c26f5455743f5a444808b847c6ca046d3a312bdc921503e3016d5547cb535"), looks := false }, kinds := [], alts := [], laidByText := true, laidKinds := [.data, .data], laidTests := true, laidLooks := .later }
def FnExactJoinTokensCardSaid : Prop := Claim7.holds Tryd.pinned (.plain (OpenSpec.ofChange fnExactJoinTokensSpec)) fnExactJoinTokensCard

/-- THE TIED CARD OF 'laws.FnExactCanTouch'. -/
def fnExactCanTouchCard : Claim7 := { stood := { row := fnExactCanTouchRow, standIns := [], harness := (true, "d41c26f5455743f5a444808b847c6ca046d3a312bdc921503e3016d5547cb535"), looks := false }, kinds := [], alts := [], laidByText := true, laidKinds := [.data, .data], laidTests := true, laidLooks := .later }
def FnExactCanTouchCardSaid : Prop := Claim7.holds Tryd.pinned (.plain (OpenSpec.ofChange fnExactCanTouchSpec)) fnExactCanTouchCard

/-- THE TIED CARD OF 'laws.FnExactTokensOf'. -/
def fnExactTokensOfCard : Claim7 := { stood := { row := fnExactTokensOfRow, standIns := [], harness := (true, "d41c26f5455743f5a444808b847c6ca046d3a312bdc921503e3016d5547cb535"), looks := false }, kinds := [], alts := [], laidByText := true, laidKinds := [.data, .data], laidTests := true, laidLooks := .later }
def FnExactTokensOfCardSaid : Prop := Claim7.holds Tryd.pinned (.plain (OpenSpec.ofChange fnExactTokensOfSpec)) fnExactTokensOfCard

/-- THE TIED CARD OF 'laws.FnExactSpacedText'. -/
def fnExactSpacedTextCard : Claim7 := { stood := { row := fnExactSpacedTextRow, standIns := [], harness := (true, "d41c26f5455743f5a444808b847c6ca046d3a312bdc921503e3016d5547cb535"), looks := false }, kinds := [], alts := [], laidByText := true, laidKinds := [.data, .data], laidTests := true, laidLooks := .later }
def FnExactSpacedTextCardSaid : Prop := Claim7.holds Tryd.pinned (.plain (OpenSpec.ofChange fnExactSpacedTextSpec)) fnExactSpacedTextCard

/-- THE SECOND FORM's CARD OF 'laws.FnExactIsKey'. -/
def fnExactIsKeyUptoCard : Claim7 := { stood := { row := fnExactIsKeyUptoRow, standIns := [], harness := (true, "d41c26f5455743f5a444808b847c6ca046d3a312bdc921503e3016d5547cb535"), looks := false }, kinds := [], alts := [], laidByText := true, laidKinds := [.data], laidTests := true, laidLooks := .later }
def FnExactIsKeyUptoCardSaid : Prop := Claim7.holds Tryd.pinned (.plain (OpenSpec.upto fnExactIsKeySpec)) fnExactIsKeyUptoCard

/-- THE SECOND FORM's CARD OF 'laws.FnExactIsToken'. -/
def fnExactIsTokenUptoCard : Claim7 := { stood := { row := fnExactIsTokenUptoRow, standIns := [], harness := (true, "d41c26f5455743f5a444808b847c6ca046d3a312bdc921503e3016d5547cb535"), looks := false }, kinds := [], alts := [], laidByText := true, laidKinds := [.data, .data], laidTests := true, laidLooks := .later }
def FnExactIsTokenUptoCardSaid : Prop := Claim7.holds Tryd.pinned (.plain (OpenSpec.upto fnExactIsTokenSpec)) fnExactIsTokenUptoCard

/-- THE SECOND FORM's CARD OF 'laws.FnExactTokenAt'. -/
def fnExactTokenAtUptoCard : Claim7 := { stood := { row := fnExactTokenAtUptoRow, standIns := [], harness := (true, "d41c26f5455743f5a444808b847c6ca046d3a312bdc921503e3016d5547cb535"), looks := false }, kinds := [], alts := [], laidByText := true, laidKinds := [.data, .data], laidTests := true, laidLooks := .later }
def FnExactTokenAtUptoCardSaid : Prop := Claim7.holds Tryd.pinned (.plain (OpenSpec.upto fnExactTokenAtSpec)) fnExactTokenAtUptoCard

/-- THE SECOND FORM's CARD OF 'laws.FnExactCountTokens'. -/
def fnExactCountTokensUptoCard : Claim7 := { stood := { row := fnExactCountTokensUptoRow, standIns := [], harness := (true, "d41c26f5455743f5a444808b847c6ca046d3a312bdc921503e3016d5547cb535"), looks := false }, kinds := [], alts := [], laidByText := true, laidKinds := [.data, .data], laidTests := true, laidLooks := .later }
def FnExactCountTokensUptoCardSaid : Prop := Claim7.holds Tryd.pinned (.plain (OpenSpec.upto fnExactCountTokensSpec)) fnExactCountTokensUptoCard

/-- THE SECOND FORM's CARD OF 'laws.FnExactSameTokens'. -/
def fnExactSameTokensUptoCard : Claim7 := { stood := { row := fnExactSameTokensUptoRow, standIns := [], harness := (true, "d41c26f5455743f5a444808b847c6ca046d3a312bdc921503e3016d5547cb535"), looks := false }, kinds := [], alts := [], laidByText := true, laidKinds := [.data, .data], laidTests := true, laidLooks := .later }
def FnExactSameTokensUptoCardSaid : Prop := Claim7.holds Tryd.pinned (.plain (OpenSpec.upto fnExactSameTokensSpec)) fnExactSameTokensUptoCard

/-- THE SECOND FORM's CARD OF 'laws.FnExactJoinTokens'. -/
def fnExactJoinTokensUptoCard : Claim7 := { stood := { row := fnExactJoinTokensUptoRow, standIns := [], harness := (true, "d41c26f5455743f5a444808b847c6ca046d3a312bdc921503e3016d5547cb535"), looks := false }, kinds := [], alts := [], laidByText := true, laidKinds := [.data, .data], laidTests := true, laidLooks := .later }
def FnExactJoinTokensUptoCardSaid : Prop := Claim7.holds Tryd.pinned (.plain (OpenSpec.upto fnExactJoinTokensSpec)) fnExactJoinTokensUptoCard

/-- THE SECOND FORM's CARD OF 'laws.FnExactCanTouch'. -/
def fnExactCanTouchUptoCard : Claim7 := { stood := { row := fnExactCanTouchUptoRow, standIns := [], harness := (true, "d41c26f5455743f5a444808b847c6ca046d3a312bdc921503e3016d5547cb535"), looks := false }, kinds := [], alts := [], laidByText := true, laidKinds := [.data, .data], laidTests := true, laidLooks := .later }
def FnExactCanTouchUptoCardSaid : Prop := Claim7.holds Tryd.pinned (.plain (OpenSpec.upto fnExactCanTouchSpec)) fnExactCanTouchUptoCard

/-- THE SECOND FORM's CARD OF 'laws.FnExactTokensOf'. -/
def fnExactTokensOfUptoCard : Claim7 := { stood := { row := fnExactTokensOfUptoRow, standIns := [], harness := (true, "d41c26f5455743f5a444808b847c6ca046d3a312bdc921503e3016d5547cb535"), looks := false }, kinds := [], alts := [], laidByText := true, laidKinds := [.data, .data], laidTests := true, laidLooks := .later }
def FnExactTokensOfUptoCardSaid : Prop := Claim7.holds Tryd.pinned (.plain (OpenSpec.upto fnExactTokensOfSpec)) fnExactTokensOfUptoCard

/-- THE SECOND FORM's CARD OF 'laws.FnExactSpacedText'. -/
def fnExactSpacedTextUptoCard : Claim7 := { stood := { row := fnExactSpacedTextUptoRow, standIns := [], harness := (true, "d41c26f5455743f5a444808b847c6ca046d3a312bdc921503e3016d5547cb535"), looks := false }, kinds := [], alts := [], laidByText := true, laidKinds := [.data, .data], laidTests := true, laidLooks := .later }
def FnExactSpacedTextUptoCardSaid : Prop := Claim7.holds Tryd.pinned (.plain (OpenSpec.upto fnExactSpacedTextSpec)) fnExactSpacedTextUptoCard
end Rows
end Go.Proofs.YtopolfibledmnaaDoor
