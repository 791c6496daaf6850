/-
  DERIVED. GIVEN WITH THE SEED: THE CARDS: each row of YtpnchdgplpdefaaGreatDoorRows.lean that lists a variable, with what it lists TIED to the program's text (the seventh form; the later family's looks); each row that meets fmt, with fmt's text TOLD by the authors' own Lean function (tested against real Go, not proved from fmt's source: count such statements apart). THE CARD IS WHAT COUNTS. Prove the row's statement (the work); the ties are given (YtpnchdgplpdefaaGreatDoorTie.lean); close each card by the builder's one call (the guide's Derived/Test/ToyasCard.lean, 'card_holds'). Laid BY PROGRAM, IN A SANDBOX (cutbox-door.mjs). By AI agents, Wed Nov 11 2026. No macro, syntax, notation, axiom, sorry.
-/
import Derived.Test.YtpnchdgplpdefaaGreatDoorRows
import GoSem.ClaimSeven
namespace Go.Proofs.YtpnchdgplpdefaaGreatDoor
namespace Rows

/-- THE TIED CARD OF 'replevinlaw05.StateEncodes'. -/
def stateEncodesCard : Claim7 := { stood := { row := stateEncodesRow, standIns := [], harness := (true, "580abaa7f1067de859dbe230d8752e6f00796884eb3b2f0e30b001fa49f14d36"), looks := false }, kinds := [], alts := [], laidByText := true, laidKinds := [.data, .data, .data], laidTests := true, laidLooks := .later }
def StateEncodesCardSaid : Prop := Claim7.holds Tryz.pinned (.plain (OpenSpec.ofChange stateEncodesSpec)) stateEncodesCard

/-- THE SECOND FORM's CARD OF 'replevinlaw05.StateEncodes'. -/
def stateEncodesUptoCard : Claim7 := { stood := { row := stateEncodesUptoRow, standIns := [], harness := (true, "580abaa7f1067de859dbe230d8752e6f00796884eb3b2f0e30b001fa49f14d36"), looks := false }, kinds := [], alts := [], laidByText := true, laidKinds := [.data, .data, .data], laidTests := true, laidLooks := .later }
def StateEncodesUptoCardSaid : Prop := Claim7.holds Tryz.pinned (.plain (OpenSpec.upto stateEncodesSpec)) stateEncodesUptoCard
end Rows
end Go.Proofs.YtpnchdgplpdefaaGreatDoor
