/-
  DERIVED. GIVEN WITH THE SEED: THE CARDS: each row of YtmpokappjogehaaGreatDoorRows.lean that lists a variable, with what it lists TIED to the program's text (the seventh form; the later family's looks); each row that meets fmt, with fmt's text TOLD by the authors' own Lean function (tested against real Go, not proved from fmt's source: count such statements apart). THE CARD IS WHAT COUNTS. Prove the row's statement (the work); the ties are given (YtmpokappjogehaaGreatDoorTie.lean); close each card by the builder's one call (the guide's Derived/Test/ToyasCard.lean, 'card_holds'). Laid BY PROGRAM, IN A SANDBOX (cutbox-door.mjs). By AI agents, Wed Nov 11 2026. No macro, syntax, notation, axiom, sorry.
-/
import Derived.Test.YtmpokappjogehaaGreatDoorRows
import GoSem.ClaimSeven
namespace Go.Proofs.YtmpokappjogehaaGreatDoor
namespace Rows

/-- THE TIED CARD OF 'replevintop.PipesLoseNothing'. -/
def pipesLoseNothingCard : Claim7 := { stood := { row := pipesLoseNothingRow, standIns := [], harness := (true, "dc6ff1cd31a353d9633830ea75a76d7b208773b786d564eb33ab6f5247d82781"), looks := false }, kinds := [], alts := [], laidByText := true, laidKinds := [.data, .data, .data, .data, .data, .data, .pinned], laidTests := true, laidLooks := .later }
def PipesLoseNothingCardSaid : Prop := Claim7.holds Tryz.pinned (.plain (OpenSpec.ofChange pipesLoseNothingSpec)) pipesLoseNothingCard

/-- THE SECOND FORM's CARD OF 'replevintop.PipesLoseNothing'. -/
def pipesLoseNothingUptoCard : Claim7 := { stood := { row := pipesLoseNothingUptoRow, standIns := [], harness := (true, "dc6ff1cd31a353d9633830ea75a76d7b208773b786d564eb33ab6f5247d82781"), looks := false }, kinds := [], alts := [], laidByText := true, laidKinds := [.data, .data, .data, .data, .data, .data, .pinned], laidTests := true, laidLooks := .later }
def PipesLoseNothingUptoCardSaid : Prop := Claim7.holds Tryz.pinned (.plain (OpenSpec.upto pipesLoseNothingSpec)) pipesLoseNothingUptoCard
end Rows
end Go.Proofs.YtmpokappjogehaaGreatDoor
