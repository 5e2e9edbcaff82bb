/-
  DERIVED. GIVEN WITH THE SEED: THE CARDS: each row of YtkcigdcjpnojnaaDoorRows.lean that lists a variable, with what it lists TIED to the program's text (the seventh form; the later family's looks); each row that meets fmt, with fmt's text TOLD by the authors' own Lean function (tested against real Go, not proved from fmt's source: count such statements apart). THE CARD IS WHAT COUNTS. Prove the row's statement (the work); the ties are given (YtkcigdcjpnojnaaDoorTie.lean); close each card by the builder's one call (the guide's Derived/Test/ToyasCard.lean, 'card_holds'). Laid BY PROGRAM, IN A SANDBOX (cutbox-door.mjs). By AI agents, Wed Nov 11 2026. No macro, syntax, notation, axiom, sorry.
-/
import Derived.Test.YtkcigdcjpnojnaaDoorRows
import GoSem.ClaimSeven
namespace Go.Proofs.YtkcigdcjpnojnaaDoor
namespace Rows

/-- THE TIED CARD OF 'laws.FnExactNumberText'. -/
def fnExactNumberTextCard : Claim7 := { stood := { row := fnExactNumberTextRow, standIns := [], harness := (true, "593b612d209b277faa80fc87a905a38a4440c27ea59fc952663c9772c2b1eb20"), looks := false }, kinds := [], alts := [], laidByText := true, laidKinds := [.data, .data, .data], laidTests := true, laidLooks := .later }
def FnExactNumberTextCardSaid : Prop := Claim7.holds Tryd.pinned (.plain (OpenSpec.ofChange fnExactNumberTextSpec)) fnExactNumberTextCard

/-- THE TIED CARD OF 'laws.FnExactFormsOf'. -/
def fnExactFormsOfCard : Claim7 := { stood := { row := fnExactFormsOfRow, standIns := [], harness := (true, "593b612d209b277faa80fc87a905a38a4440c27ea59fc952663c9772c2b1eb20"), looks := false }, kinds := [], alts := [], laidByText := true, laidKinds := [.data, .data, .data], laidTests := true, laidLooks := .later }
def FnExactFormsOfCardSaid : Prop := Claim7.holds Tryd.pinned (.plain (OpenSpec.ofChange fnExactFormsOfSpec)) fnExactFormsOfCard

/-- THE TIED CARD OF 'laws.FnExactIsCanonical'. -/
def fnExactIsCanonicalCard : Claim7 := { stood := { row := fnExactIsCanonicalRow, standIns := [], harness := (true, "593b612d209b277faa80fc87a905a38a4440c27ea59fc952663c9772c2b1eb20"), looks := false }, kinds := [], alts := [], laidByText := true, laidKinds := [.data, .data, .data], laidTests := true, laidLooks := .later }
def FnExactIsCanonicalCardSaid : Prop := Claim7.holds Tryd.pinned (.plain (OpenSpec.ofChange fnExactIsCanonicalSpec)) fnExactIsCanonicalCard

/-- THE SECOND FORM's CARD OF 'laws.FnExactNumberText'. -/
def fnExactNumberTextUptoCard : Claim7 := { stood := { row := fnExactNumberTextUptoRow, standIns := [], harness := (true, "593b612d209b277faa80fc87a905a38a4440c27ea59fc952663c9772c2b1eb20"), looks := false }, kinds := [], alts := [], laidByText := true, laidKinds := [.data, .data, .data], laidTests := true, laidLooks := .later }
def FnExactNumberTextUptoCardSaid : Prop := Claim7.holds Tryd.pinned (.plain (OpenSpec.upto fnExactNumberTextSpec)) fnExactNumberTextUptoCard

/-- THE SECOND FORM's CARD OF 'laws.FnExactFormsOf'. -/
def fnExactFormsOfUptoCard : Claim7 := { stood := { row := fnExactFormsOfUptoRow, standIns := [], harness := (true, "593b612d209b277faa80fc87a905a38a4440c27ea59fc952663c9772c2b1eb20"), looks := false }, kinds := [], alts := [], laidByText := true, laidKinds := [.data, .data, .data], laidTests := true, laidLooks := .later }
def FnExactFormsOfUptoCardSaid : Prop := Claim7.holds Tryd.pinned (.plain (OpenSpec.upto fnExactFormsOfSpec)) fnExactFormsOfUptoCard

/-- THE SECOND FORM's CARD OF 'laws.FnExactIsCanonical'. -/
def fnExactIsCanonicalUptoCard : Claim7 := { stood := { row := fnExactIsCanonicalUptoRow, standIns := [], harness := (true, "593b612d209b277faa80fc87a905a38a4440c27ea59fc952663c9772c2b1eb20"), looks := false }, kinds := [], alts := [], laidByText := true, laidKinds := [.data, .data, .data], laidTests := true, laidLooks := .later }
def FnExactIsCanonicalUptoCardSaid : Prop := Claim7.holds Tryd.pinned (.plain (OpenSpec.upto fnExactIsCanonicalSpec)) fnExactIsCanonicalUptoCard
end Rows
end Go.Proofs.YtkcigdcjpnojnaaDoor
