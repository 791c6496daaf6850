/-
  DERIVED. GIVEN WITH THE SEED: THE CARDS: each row of YtejajafbopabmaaDoorRows.lean that lists a variable, with what it lists TIED to the program's text (the seventh form; the later family's looks); each row that meets fmt, with fmt's text TOLD by the authors' own Lean function (tested against real Go, not proved from fmt's source: count such statements apart). THE CARD IS WHAT COUNTS. Prove the row's statement (the work); the ties are given (YtejajafbopabmaaDoorTie.lean); close each card by the builder's one call (the guide's Derived/Test/ToyasCard.lean, 'card_holds'). Laid BY PROGRAM, IN A SANDBOX (cutbox-door.mjs). By AI agents, Wed Nov 11 2026. No macro, syntax, notation, axiom, sorry.
-/
import Derived.Test.YtejajafbopabmaaDoorRows
import GoSem.ClaimSeven
namespace Go.Proofs.YtejajafbopabmaaDoor
namespace Rows

/-- THE TIED CARD OF 'replevinlaw12.BlocksReturns'. -/
def blocksReturnsCard : Claim7 := { stood := { row := blocksReturnsRow, standIns := [], harness := (true, "5cb07a68ae8d1674b2ab8d82d361450ecf5a18c8ca5e79d04697b393e3ad3731"), looks := false }, kinds := [], alts := [], laidByText := true, laidKinds := [.data, .data], laidTests := true, laidLooks := .later }
def BlocksReturnsCardSaid : Prop := Claim7.holds Tryd.pinned (.plain (OpenSpec.ofChange blocksReturnsSpec)) blocksReturnsCard

/-- THE TIED CARD OF 'replevinlaw12.BlocksPlays'. -/
def blocksPlaysCard : Claim7 := { stood := { row := blocksPlaysRow, standIns := [], harness := (true, "5cb07a68ae8d1674b2ab8d82d361450ecf5a18c8ca5e79d04697b393e3ad3731"), looks := false }, kinds := [], alts := [], laidByText := true, laidKinds := [.data, .data], laidTests := true, laidLooks := .later }
def BlocksPlaysCardSaid : Prop := Claim7.holds Tryd.pinned (.plain (OpenSpec.ofChange blocksPlaysSpec)) blocksPlaysCard

/-- THE TIED CARD OF 'replevinlaw12.BlocksSafe'. -/
def blocksSafeCard : Claim7 := { stood := { row := blocksSafeRow, standIns := [], harness := (true, "5cb07a68ae8d1674b2ab8d82d361450ecf5a18c8ca5e79d04697b393e3ad3731"), looks := false }, kinds := [], alts := [], laidByText := true, laidKinds := [.data, .data], laidTests := true, laidLooks := .later }
def BlocksSafeCardSaid : Prop := Claim7.holds Tryd.pinned (.plain (OpenSpec.ofChange blocksSafeSpec)) blocksSafeCard

/-- THE TIED CARD OF 'replevinlaw12.BlocksGreat'. -/
def blocksGreatCard : Claim7 := { stood := { row := blocksGreatRow, standIns := [], harness := (true, "5cb07a68ae8d1674b2ab8d82d361450ecf5a18c8ca5e79d04697b393e3ad3731"), looks := false }, kinds := [], alts := [], laidByText := true, laidKinds := [.data], laidTests := true, laidLooks := .later }
def BlocksGreatCardSaid : Prop := Claim7.holds Tryd.pinned (.plain (OpenSpec.ofChange blocksGreatSpec)) blocksGreatCard

/-- THE TIED CARD OF 'replevinlaw12.BlocksClones'. -/
def blocksClonesCard : Claim7 := { stood := { row := blocksClonesRow, standIns := [], harness := (true, "5cb07a68ae8d1674b2ab8d82d361450ecf5a18c8ca5e79d04697b393e3ad3731"), looks := false }, kinds := [], alts := [], laidByText := true, laidKinds := [.data, .data], laidTests := true, laidLooks := .later }
def BlocksClonesCardSaid : Prop := Claim7.holds Tryd.pinned (.plain (OpenSpec.ofChange blocksClonesSpec)) blocksClonesCard

/-- THE TIED CARD OF 'replevinlaw12.BlocksNil'. -/
def blocksNilCard : Claim7 := { stood := { row := blocksNilRow, standIns := [], harness := (true, "5cb07a68ae8d1674b2ab8d82d361450ecf5a18c8ca5e79d04697b393e3ad3731"), looks := false }, kinds := [], alts := [], laidByText := true, laidKinds := [.data, .data], laidTests := true, laidLooks := .later }
def BlocksNilCardSaid : Prop := Claim7.holds Tryd.pinned (.plain (OpenSpec.ofChange blocksNilSpec)) blocksNilCard

/-- THE TIED CARD OF 'replevinlaw12.BlocksNew'. -/
def blocksNewCard : Claim7 := { stood := { row := blocksNewRow, standIns := [], harness := (true, "5cb07a68ae8d1674b2ab8d82d361450ecf5a18c8ca5e79d04697b393e3ad3731"), looks := false }, kinds := [], alts := [], laidByText := true, laidKinds := [.data], laidTests := true, laidLooks := .later }
def BlocksNewCardSaid : Prop := Claim7.holds Tryd.pinned (.plain (OpenSpec.ofChange blocksNewSpec)) blocksNewCard

/-- THE TIED CARD OF 'replevinlaw12.BlocksDecodes'. -/
def blocksDecodesCard : Claim7 := { stood := { row := blocksDecodesRow, standIns := [], harness := (true, "5cb07a68ae8d1674b2ab8d82d361450ecf5a18c8ca5e79d04697b393e3ad3731"), looks := false }, kinds := [], alts := [], laidByText := true, laidKinds := [.data], laidTests := true, laidLooks := .later }
def BlocksDecodesCardSaid : Prop := Claim7.holds Tryd.pinned (.plain (OpenSpec.ofChange blocksDecodesSpec)) blocksDecodesCard

/-- THE TIED CARD OF 'replevinlaw12.BlocksEncodes'. -/
def blocksEncodesCard : Claim7 := { stood := { row := blocksEncodesRow, standIns := [], harness := (true, "5cb07a68ae8d1674b2ab8d82d361450ecf5a18c8ca5e79d04697b393e3ad3731"), looks := false }, kinds := [], alts := [], laidByText := true, laidKinds := [.data, .data], laidTests := true, laidLooks := .later }
def BlocksEncodesCardSaid : Prop := Claim7.holds Tryd.pinned (.plain (OpenSpec.ofChange blocksEncodesSpec)) blocksEncodesCard

/-- THE SECOND FORM's CARD OF 'replevinlaw12.BlocksReturns'. -/
def blocksReturnsUptoCard : Claim7 := { stood := { row := blocksReturnsUptoRow, standIns := [], harness := (true, "5cb07a68ae8d1674b2ab8d82d361450ecf5a18c8ca5e79d04697b393e3ad3731"), looks := false }, kinds := [], alts := [], laidByText := true, laidKinds := [.data, .data], laidTests := true, laidLooks := .later }
def BlocksReturnsUptoCardSaid : Prop := Claim7.holds Tryd.pinned (.plain (OpenSpec.upto blocksReturnsSpec)) blocksReturnsUptoCard

/-- THE SECOND FORM's CARD OF 'replevinlaw12.BlocksPlays'. -/
def blocksPlaysUptoCard : Claim7 := { stood := { row := blocksPlaysUptoRow, standIns := [], harness := (true, "5cb07a68ae8d1674b2ab8d82d361450ecf5a18c8ca5e79d04697b393e3ad3731"), looks := false }, kinds := [], alts := [], laidByText := true, laidKinds := [.data, .data], laidTests := true, laidLooks := .later }
def BlocksPlaysUptoCardSaid : Prop := Claim7.holds Tryd.pinned (.plain (OpenSpec.upto blocksPlaysSpec)) blocksPlaysUptoCard

/-- THE SECOND FORM's CARD OF 'replevinlaw12.BlocksSafe'. -/
def blocksSafeUptoCard : Claim7 := { stood := { row := blocksSafeUptoRow, standIns := [], harness := (true, "5cb07a68ae8d1674b2ab8d82d361450ecf5a18c8ca5e79d04697b393e3ad3731"), looks := false }, kinds := [], alts := [], laidByText := true, laidKinds := [.data, .data], laidTests := true, laidLooks := .later }
def BlocksSafeUptoCardSaid : Prop := Claim7.holds Tryd.pinned (.plain (OpenSpec.upto blocksSafeSpec)) blocksSafeUptoCard

/-- THE SECOND FORM's CARD OF 'replevinlaw12.BlocksGreat'. -/
def blocksGreatUptoCard : Claim7 := { stood := { row := blocksGreatUptoRow, standIns := [], harness := (true, "5cb07a68ae8d1674b2ab8d82d361450ecf5a18c8ca5e79d04697b393e3ad3731"), looks := false }, kinds := [], alts := [], laidByText := true, laidKinds := [.data], laidTests := true, laidLooks := .later }
def BlocksGreatUptoCardSaid : Prop := Claim7.holds Tryd.pinned (.plain (OpenSpec.upto blocksGreatSpec)) blocksGreatUptoCard

/-- THE SECOND FORM's CARD OF 'replevinlaw12.BlocksClones'. -/
def blocksClonesUptoCard : Claim7 := { stood := { row := blocksClonesUptoRow, standIns := [], harness := (true, "5cb07a68ae8d1674b2ab8d82d361450ecf5a18c8ca5e79d04697b393e3ad3731"), looks := false }, kinds := [], alts := [], laidByText := true, laidKinds := [.data, .data], laidTests := true, laidLooks := .later }
def BlocksClonesUptoCardSaid : Prop := Claim7.holds Tryd.pinned (.plain (OpenSpec.upto blocksClonesSpec)) blocksClonesUptoCard

/-- THE SECOND FORM's CARD OF 'replevinlaw12.BlocksNil'. -/
def blocksNilUptoCard : Claim7 := { stood := { row := blocksNilUptoRow, standIns := [], harness := (true, "5cb07a68ae8d1674b2ab8d82d361450ecf5a18c8ca5e79d04697b393e3ad3731"), looks := false }, kinds := [], alts := [], laidByText := true, laidKinds := [.data, .data], laidTests := true, laidLooks := .later }
def BlocksNilUptoCardSaid : Prop := Claim7.holds Tryd.pinned (.plain (OpenSpec.upto blocksNilSpec)) blocksNilUptoCard

/-- THE SECOND FORM's CARD OF 'replevinlaw12.BlocksNew'. -/
def blocksNewUptoCard : Claim7 := { stood := { row := blocksNewUptoRow, standIns := [], harness := (true, "5cb07a68ae8d1674b2ab8d82d361450ecf5a18c8ca5e79d04697b393e3ad3731"), looks := false }, kinds := [], alts := [], laidByText := true, laidKinds := [.data], laidTests := true, laidLooks := .later }
def BlocksNewUptoCardSaid : Prop := Claim7.holds Tryd.pinned (.plain (OpenSpec.upto blocksNewSpec)) blocksNewUptoCard

/-- THE SECOND FORM's CARD OF 'replevinlaw12.BlocksDecodes'. -/
def blocksDecodesUptoCard : Claim7 := { stood := { row := blocksDecodesUptoRow, standIns := [], harness := (true, "5cb07a68ae8d1674b2ab8d82d361450ecf5a18c8ca5e79d04697b393e3ad3731"), looks := false }, kinds := [], alts := [], laidByText := true, laidKinds := [.data], laidTests := true, laidLooks := .later }
def BlocksDecodesUptoCardSaid : Prop := Claim7.holds Tryd.pinned (.plain (OpenSpec.upto blocksDecodesSpec)) blocksDecodesUptoCard

/-- THE SECOND FORM's CARD OF 'replevinlaw12.BlocksEncodes'. -/
def blocksEncodesUptoCard : Claim7 := { stood := { row := blocksEncodesUptoRow, standIns := [], harness := (true, "5cb07a68ae8d1674b2ab8d82d361450ecf5a18c8ca5e79d04697b393e3ad3731"), looks := false }, kinds := [], alts := [], laidByText := true, laidKinds := [.data, .data], laidTests := true, laidLooks := .later }
def BlocksEncodesUptoCardSaid : Prop := Claim7.holds Tryd.pinned (.plain (OpenSpec.upto blocksEncodesSpec)) blocksEncodesUptoCard
end Rows
end Go.Proofs.YtejajafbopabmaaDoor
