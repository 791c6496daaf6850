/-
  DERIVED. GIVEN WITH THE SEED: THE CARDS: each row of YtphjagkehiklkaaGreatDoorRows.lean that lists a variable, with what it lists TIED to the program's text (the seventh form; the later family's looks); each row that meets fmt, with fmt's text TOLD by the authors' own Lean function (tested against real Go, not proved from fmt's source: count such statements apart). THE CARD IS WHAT COUNTS. Prove the row's statement (the work); the ties are given (YtphjagkehiklkaaGreatDoorTie.lean); close each card by the builder's one call (the guide's Derived/Test/ToyasCard.lean, 'card_holds'). Laid BY PROGRAM, IN A SANDBOX (cutbox-door.mjs). By AI agents, Wed Nov 11 2026. No macro, syntax, notation, axiom, sorry.
-/
import Derived.Test.YtphjagkehiklkaaGreatDoorRows
import GoSem.ClaimSeven
namespace Go.Proofs.YtphjagkehiklkaaGreatDoor
namespace Rows

/-- THE TIED CARD OF 'replevinlaw45.HistoryProofs'. -/
def historyProofsCard : Claim7 := { stood := { row := historyProofsRow, standIns := [], harness := (true, "85b01f2147a954a0446163097cb49d74ef68fdd3e028283c8cc8ad812df729c7"), looks := true }, kinds := [], alts := [], laidByText := true, laidKinds := [.data, .data, .data], laidTests := true, laidLooks := .later }
def HistoryProofsCardSaid : Prop := Claim7.holds Tryz.pinned (.plain (OpenSpec.ofChange historyProofsSpec)) historyProofsCard

/-- THE TIED CARD OF 'replevinlaw45.HistoryVerifies'. -/
def historyVerifiesCard : Claim7 := { stood := { row := historyVerifiesRow, standIns := [], harness := (true, "85b01f2147a954a0446163097cb49d74ef68fdd3e028283c8cc8ad812df729c7"), looks := true }, kinds := [], alts := [], laidByText := true, laidKinds := [.data, .data, .data], laidTests := true, laidLooks := .later }
def HistoryVerifiesCardSaid : Prop := Claim7.holds Tryz.pinned (.plain (OpenSpec.ofChange historyVerifiesSpec)) historyVerifiesCard

/-- THE TIED CARD OF 'replevinlaw45.HistoryRoots'. -/
def historyRootsCard : Claim7 := { stood := { row := historyRootsRow, standIns := [], harness := (true, "85b01f2147a954a0446163097cb49d74ef68fdd3e028283c8cc8ad812df729c7"), looks := true }, kinds := [], alts := [], laidByText := true, laidKinds := [.data, .data, .data], laidTests := true, laidLooks := .later }
def HistoryRootsCardSaid : Prop := Claim7.holds Tryz.pinned (.plain (OpenSpec.ofChange historyRootsSpec)) historyRootsCard

/-- THE TIED CARD OF 'replevinlaw45.HistoryForged'. -/
def historyForgedCard : Claim7 := { stood := { row := historyForgedRow, standIns := [], harness := (true, "85b01f2147a954a0446163097cb49d74ef68fdd3e028283c8cc8ad812df729c7"), looks := true }, kinds := [], alts := [], laidByText := true, laidKinds := [.data, .data, .data], laidTests := true, laidLooks := .later }
def HistoryForgedCardSaid : Prop := Claim7.holds Tryz.pinned (.plain (OpenSpec.ofChange historyForgedSpec)) historyForgedCard

/-- THE TIED CARD OF 'replevinlaw45.HistoryAppends'. -/
def historyAppendsCard : Claim7 := { stood := { row := historyAppendsRow, standIns := [], harness := (true, "85b01f2147a954a0446163097cb49d74ef68fdd3e028283c8cc8ad812df729c7"), looks := true }, kinds := [], alts := [], laidByText := true, laidKinds := [.data, .data, .data], laidTests := true, laidLooks := .later }
def HistoryAppendsCardSaid : Prop := Claim7.holds Tryz.pinned (.plain (OpenSpec.ofChange historyAppendsSpec)) historyAppendsCard

/-- THE TIED CARD OF 'replevinlaw45.HistoryExtends'. -/
def historyExtendsCard : Claim7 := { stood := { row := historyExtendsRow, standIns := [], harness := (true, "85b01f2147a954a0446163097cb49d74ef68fdd3e028283c8cc8ad812df729c7"), looks := true }, kinds := [], alts := [], laidByText := true, laidKinds := [.data, .data, .data], laidTests := true, laidLooks := .later }
def HistoryExtendsCardSaid : Prop := Claim7.holds Tryz.pinned (.plain (OpenSpec.ofChange historyExtendsSpec)) historyExtendsCard

/-- THE TIED CARD OF 'replevinlaw45.HistoryFinds'. -/
def historyFindsCard : Claim7 := { stood := { row := historyFindsRow, standIns := [], harness := (true, "85b01f2147a954a0446163097cb49d74ef68fdd3e028283c8cc8ad812df729c7"), looks := true }, kinds := [], alts := [], laidByText := true, laidKinds := [.data, .data, .data], laidTests := true, laidLooks := .later }
def HistoryFindsCardSaid : Prop := Claim7.holds Tryz.pinned (.plain (OpenSpec.ofChange historyFindsSpec)) historyFindsCard

/-- THE TIED CARD OF 'replevinlaw45.HistoryTruncates'. -/
def historyTruncatesCard : Claim7 := { stood := { row := historyTruncatesRow, standIns := [], harness := (true, "85b01f2147a954a0446163097cb49d74ef68fdd3e028283c8cc8ad812df729c7"), looks := true }, kinds := [], alts := [], laidByText := true, laidKinds := [.data, .data, .data], laidTests := true, laidLooks := .later }
def HistoryTruncatesCardSaid : Prop := Claim7.holds Tryz.pinned (.plain (OpenSpec.ofChange historyTruncatesSpec)) historyTruncatesCard

/-- THE TIED CARD OF 'replevinlaw45.HistoryEquals'. -/
def historyEqualsCard : Claim7 := { stood := { row := historyEqualsRow, standIns := [], harness := (true, "85b01f2147a954a0446163097cb49d74ef68fdd3e028283c8cc8ad812df729c7"), looks := true }, kinds := [], alts := [], laidByText := true, laidKinds := [.data, .data, .data], laidTests := true, laidLooks := .later }
def HistoryEqualsCardSaid : Prop := Claim7.holds Tryz.pinned (.plain (OpenSpec.ofChange historyEqualsSpec)) historyEqualsCard

/-- THE TIED CARD OF 'replevinlaw45.HistoryEncodes'. -/
def historyEncodesCard : Claim7 := { stood := { row := historyEncodesRow, standIns := [], harness := (true, "85b01f2147a954a0446163097cb49d74ef68fdd3e028283c8cc8ad812df729c7"), looks := true }, kinds := [], alts := [], laidByText := true, laidKinds := [.data, .data, .data], laidTests := true, laidLooks := .later }
def HistoryEncodesCardSaid : Prop := Claim7.holds Tryz.pinned (.plain (OpenSpec.ofChange historyEncodesSpec)) historyEncodesCard

/-- THE SECOND FORM's CARD OF 'replevinlaw45.HistoryProofs'. -/
def historyProofsUptoCard : Claim7 := { stood := { row := historyProofsUptoRow, standIns := [], harness := (true, "85b01f2147a954a0446163097cb49d74ef68fdd3e028283c8cc8ad812df729c7"), looks := true }, kinds := [], alts := [], laidByText := true, laidKinds := [.data, .data, .data], laidTests := true, laidLooks := .later }
def HistoryProofsUptoCardSaid : Prop := Claim7.holds Tryz.pinned (.plain (OpenSpec.upto historyProofsSpec)) historyProofsUptoCard

/-- THE SECOND FORM's CARD OF 'replevinlaw45.HistoryVerifies'. -/
def historyVerifiesUptoCard : Claim7 := { stood := { row := historyVerifiesUptoRow, standIns := [], harness := (true, "85b01f2147a954a0446163097cb49d74ef68fdd3e028283c8cc8ad812df729c7"), looks := true }, kinds := [], alts := [], laidByText := true, laidKinds := [.data, .data, .data], laidTests := true, laidLooks := .later }
def HistoryVerifiesUptoCardSaid : Prop := Claim7.holds Tryz.pinned (.plain (OpenSpec.upto historyVerifiesSpec)) historyVerifiesUptoCard

/-- THE SECOND FORM's CARD OF 'replevinlaw45.HistoryRoots'. -/
def historyRootsUptoCard : Claim7 := { stood := { row := historyRootsUptoRow, standIns := [], harness := (true, "85b01f2147a954a0446163097cb49d74ef68fdd3e028283c8cc8ad812df729c7"), looks := true }, kinds := [], alts := [], laidByText := true, laidKinds := [.data, .data, .data], laidTests := true, laidLooks := .later }
def HistoryRootsUptoCardSaid : Prop := Claim7.holds Tryz.pinned (.plain (OpenSpec.upto historyRootsSpec)) historyRootsUptoCard

/-- THE SECOND FORM's CARD OF 'replevinlaw45.HistoryForged'. -/
def historyForgedUptoCard : Claim7 := { stood := { row := historyForgedUptoRow, standIns := [], harness := (true, "85b01f2147a954a0446163097cb49d74ef68fdd3e028283c8cc8ad812df729c7"), looks := true }, kinds := [], alts := [], laidByText := true, laidKinds := [.data, .data, .data], laidTests := true, laidLooks := .later }
def HistoryForgedUptoCardSaid : Prop := Claim7.holds Tryz.pinned (.plain (OpenSpec.upto historyForgedSpec)) historyForgedUptoCard

/-- THE SECOND FORM's CARD OF 'replevinlaw45.HistoryAppends'. -/
def historyAppendsUptoCard : Claim7 := { stood := { row := historyAppendsUptoRow, standIns := [], harness := (true, "85b01f2147a954a0446163097cb49d74ef68fdd3e028283c8cc8ad812df729c7"), looks := true }, kinds := [], alts := [], laidByText := true, laidKinds := [.data, .data, .data], laidTests := true, laidLooks := .later }
def HistoryAppendsUptoCardSaid : Prop := Claim7.holds Tryz.pinned (.plain (OpenSpec.upto historyAppendsSpec)) historyAppendsUptoCard

/-- THE SECOND FORM's CARD OF 'replevinlaw45.HistoryExtends'. -/
def historyExtendsUptoCard : Claim7 := { stood := { row := historyExtendsUptoRow, standIns := [], harness := (true, "85b01f2147a954a0446163097cb49d74ef68fdd3e028283c8cc8ad812df729c7"), looks := true }, kinds := [], alts := [], laidByText := true, laidKinds := [.data, .data, .data], laidTests := true, laidLooks := .later }
def HistoryExtendsUptoCardSaid : Prop := Claim7.holds Tryz.pinned (.plain (OpenSpec.upto historyExtendsSpec)) historyExtendsUptoCard

/-- THE SECOND FORM's CARD OF 'replevinlaw45.HistoryFinds'. -/
def historyFindsUptoCard : Claim7 := { stood := { row := historyFindsUptoRow, standIns := [], harness := (true, "85b01f2147a954a0446163097cb49d74ef68fdd3e028283c8cc8ad812df729c7"), looks := true }, kinds := [], alts := [], laidByText := true, laidKinds := [.data, .data, .data], laidTests := true, laidLooks := .later }
def HistoryFindsUptoCardSaid : Prop := Claim7.holds Tryz.pinned (.plain (OpenSpec.upto historyFindsSpec)) historyFindsUptoCard

/-- THE SECOND FORM's CARD OF 'replevinlaw45.HistoryTruncates'. -/
def historyTruncatesUptoCard : Claim7 := { stood := { row := historyTruncatesUptoRow, standIns := [], harness := (true, "85b01f2147a954a0446163097cb49d74ef68fdd3e028283c8cc8ad812df729c7"), looks := true }, kinds := [], alts := [], laidByText := true, laidKinds := [.data, .data, .data], laidTests := true, laidLooks := .later }
def HistoryTruncatesUptoCardSaid : Prop := Claim7.holds Tryz.pinned (.plain (OpenSpec.upto historyTruncatesSpec)) historyTruncatesUptoCard

/-- THE SECOND FORM's CARD OF 'replevinlaw45.HistoryEquals'. -/
def historyEqualsUptoCard : Claim7 := { stood := { row := historyEqualsUptoRow, standIns := [], harness := (true, "85b01f2147a954a0446163097cb49d74ef68fdd3e028283c8cc8ad812df729c7"), looks := true }, kinds := [], alts := [], laidByText := true, laidKinds := [.data, .data, .data], laidTests := true, laidLooks := .later }
def HistoryEqualsUptoCardSaid : Prop := Claim7.holds Tryz.pinned (.plain (OpenSpec.upto historyEqualsSpec)) historyEqualsUptoCard

/-- THE SECOND FORM's CARD OF 'replevinlaw45.HistoryEncodes'. -/
def historyEncodesUptoCard : Claim7 := { stood := { row := historyEncodesUptoRow, standIns := [], harness := (true, "85b01f2147a954a0446163097cb49d74ef68fdd3e028283c8cc8ad812df729c7"), looks := true }, kinds := [], alts := [], laidByText := true, laidKinds := [.data, .data, .data], laidTests := true, laidLooks := .later }
def HistoryEncodesUptoCardSaid : Prop := Claim7.holds Tryz.pinned (.plain (OpenSpec.upto historyEncodesSpec)) historyEncodesUptoCard
end Rows
end Go.Proofs.YtphjagkehiklkaaGreatDoor
