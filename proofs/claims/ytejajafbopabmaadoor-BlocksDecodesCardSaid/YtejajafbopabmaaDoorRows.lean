/-
  NARROWER THAN 'FOR EVERY INPUT', by the rows' own cells (each row's printed sentence says how): BlocksReturns: laid · BlocksPlays: laid · BlocksSafe: laid · BlocksGreat: laid · BlocksClones: laid · BlocksNil: laid · BlocksNew: laid · BlocksDecodes: laid · BlocksEncodes: laid.
  DERIVED. THE GIVEN ROWS OF THIS SEAT. 9 by the template 'for every input the law returns true; each argument reads behind the call as it read before'; 0 by the template 'total and deterministic' (their statements: YtejajafbopabmaaDoorTotals.lean).
  GIVEN WITH THE SEED: the statements are not yours to turn. If you find one false, say at which input.
  Laid BY PROGRAM, IN A SANDBOX (cutbox-rows.mjs): the forced cells as the released guide's own fill.sh prints them over the translation 66712fdb2067b54a… (all of the seat's roots in one cut). By AI agents, Wed Nov 11 2026. No macro, syntax, notation, axiom, sorry.
-/
import Derived.Test.YtejajafbopabmaaDoorChecked
import GoSem.Claim
import GoSem.ClaimJoined
import GoSem.ClaimMapViews
import Derived.JoinedTies
import Derived.KernelRfl
namespace Go.Proofs.YtejajafbopabmaaDoor
/- THE CELL 'sum', in the pinned program and in every row, IS THE sha256 OF THE DUMP (.gsa) THAT YtejajafbopabmaaDoorProg.lean LOADS. Nothing in Lean hashes anything: it is a label: what it is worth is what the hold of that sum in a sandbox is worth. -/
noncomputable def Tryd.pinned : Pinned := { name := "ytejajafbopabmaadoor", sum := "66712fdb2067b54ad52134af1a92eb2ad95683b07e65e2244c4fdf83ad6d7446", checked := Tryd.checked }
namespace Rows
def none {H : Type} : Left H := { results := [], args := [] }

/- WHAT THE LISTED PACKAGE-LEVEL VARIABLES READ AS WHEN THE CALL BEGINS. Each datum BY PROGRAM (the guide's laid-datum.mjs) off the statement by which the dump's own 'gosem.cut.vars' lays the variable. In a bare row this is a premise. The card (YtejajafbopabmaaDoorCards.lean) ties it to the program's text. -/
def laid_replevin_blocks_committed {H : Type} : DataW H := .agg [.lit (.int .u8 0), .lit (.int .u8 1), .lit (.int .u8 1), .lit (.int .u8 0)]
def laid_replevin_blocks_aborted {H : Type} : DataW H := .agg [.lit (.int .u8 0), .lit (.int .u8 1), .lit (.int .u8 0), .lit (.int .u8 1)]

/-- 'replevinlaw12.BlocksReturns': WHATEVER THE INPUT: true; the input reads as it did. -/
def blocksReturnsSpec : ChangeSpec := { name := "blocksReturns", fn := fun _ => fun
  | [d1, d2, d3] => { results := [.lit (.bool true)], args := [d1, d2, d3] }
  | _ => none }
def blocksReturnsRow : OpenClaim := { program := "ytejajafbopabmaadoor", sum := "66712fdb2067b54ad52134af1a92eb2ad95683b07e65e2244c4fdf83ad6d7446", func := "replevin/replevinlaw12.BlocksReturns", spec := "blocksReturns", inPlace := ["internal/bytealg.IndexByte", "internal/bytealg.Count", "internal/bytealg.Index"], unfollowed := true, recurses := true, named := ["replevin/blocks.committed", "replevin/blocks.aborted", "internal/bytealg.MaxLen"], apart := false, laid := [("replevin/blocks.committed", laid_replevin_blocks_committed), ("replevin/blocks.aborted", laid_replevin_blocks_aborted)] }
def BlocksReturnsSaid : Prop := blocksReturnsRow.holds Tryd.pinned (OpenSpec.ofChange blocksReturnsSpec)

/-- ITS FALSE NEIGHBOUR: 'it returns false'. Refute it at one input. -/
def blocksReturnsWrong : ChangeSpec := { name := "blocksReturns", fn := fun _ => fun
  | [d1, d2, d3] => { results := [.lit (.bool false)], args := [d1, d2, d3] }
  | _ => none }
def BlocksReturnsWrongFalsely : Prop := blocksReturnsRow.holds Tryd.pinned (OpenSpec.ofChange blocksReturnsWrong)

/-- 'replevinlaw12.BlocksPlays': WHATEVER THE INPUT: true; the input reads as it did. -/
def blocksPlaysSpec : ChangeSpec := { name := "blocksPlays", fn := fun _ => fun
  | [d1, d2, d3] => { results := [.lit (.bool true)], args := [d1, d2, d3] }
  | _ => none }
def blocksPlaysRow : OpenClaim := { program := "ytejajafbopabmaadoor", sum := "66712fdb2067b54ad52134af1a92eb2ad95683b07e65e2244c4fdf83ad6d7446", func := "replevin/replevinlaw12.BlocksPlays", spec := "blocksPlays", inPlace := ["internal/bytealg.IndexByte", "internal/bytealg.Count", "internal/bytealg.Index"], unfollowed := true, recurses := true, named := ["replevin/blocks.committed", "internal/bytealg.MaxLen", "replevin/blocks.aborted"], apart := false, laid := [("replevin/blocks.committed", laid_replevin_blocks_committed), ("replevin/blocks.aborted", laid_replevin_blocks_aborted)] }
def BlocksPlaysSaid : Prop := blocksPlaysRow.holds Tryd.pinned (OpenSpec.ofChange blocksPlaysSpec)

/-- ITS FALSE NEIGHBOUR: 'it returns false'. Refute it at one input. -/
def blocksPlaysWrong : ChangeSpec := { name := "blocksPlays", fn := fun _ => fun
  | [d1, d2, d3] => { results := [.lit (.bool false)], args := [d1, d2, d3] }
  | _ => none }
def BlocksPlaysWrongFalsely : Prop := blocksPlaysRow.holds Tryd.pinned (OpenSpec.ofChange blocksPlaysWrong)

/-- 'replevinlaw12.BlocksSafe': WHATEVER THE INPUT: true; the input reads as it did. -/
def blocksSafeSpec : ChangeSpec := { name := "blocksSafe", fn := fun _ => fun
  | [d1, d2, d3] => { results := [.lit (.bool true)], args := [d1, d2, d3] }
  | _ => none }
def blocksSafeRow : OpenClaim := { program := "ytejajafbopabmaadoor", sum := "66712fdb2067b54ad52134af1a92eb2ad95683b07e65e2244c4fdf83ad6d7446", func := "replevin/replevinlaw12.BlocksSafe", spec := "blocksSafe", inPlace := ["internal/bytealg.IndexByte", "internal/bytealg.Count", "internal/bytealg.Index"], unfollowed := true, recurses := true, named := ["replevin/blocks.committed", "replevin/blocks.aborted", "internal/bytealg.MaxLen"], apart := false, laid := [("replevin/blocks.committed", laid_replevin_blocks_committed), ("replevin/blocks.aborted", laid_replevin_blocks_aborted)] }
def BlocksSafeSaid : Prop := blocksSafeRow.holds Tryd.pinned (OpenSpec.ofChange blocksSafeSpec)

/-- ITS FALSE NEIGHBOUR: 'it returns false'. Refute it at one input. -/
def blocksSafeWrong : ChangeSpec := { name := "blocksSafe", fn := fun _ => fun
  | [d1, d2, d3] => { results := [.lit (.bool false)], args := [d1, d2, d3] }
  | _ => none }
def BlocksSafeWrongFalsely : Prop := blocksSafeRow.holds Tryd.pinned (OpenSpec.ofChange blocksSafeWrong)

/-- 'replevinlaw12.BlocksGreat': WHATEVER THE INPUT: true; the input reads as it did. -/
def blocksGreatSpec : ChangeSpec := { name := "blocksGreat", fn := fun _ => fun
  | [d] => { results := [.lit (.bool true)], args := [d] }
  | _ => none }
def blocksGreatRow : OpenClaim := { program := "ytejajafbopabmaadoor", sum := "66712fdb2067b54ad52134af1a92eb2ad95683b07e65e2244c4fdf83ad6d7446", func := "replevin/replevinlaw12.BlocksGreat", spec := "blocksGreat", inPlace := ["internal/bytealg.IndexByte", "internal/bytealg.Count", "internal/bytealg.Index"], unfollowed := true, recurses := true, named := ["replevin/blocks.committed", "internal/bytealg.MaxLen"], apart := false, laid := [("replevin/blocks.committed", laid_replevin_blocks_committed)] }
def BlocksGreatSaid : Prop := blocksGreatRow.holds Tryd.pinned (OpenSpec.ofChange blocksGreatSpec)

/-- ITS FALSE NEIGHBOUR: 'it returns false'. Refute it at one input. -/
def blocksGreatWrong : ChangeSpec := { name := "blocksGreat", fn := fun _ => fun
  | [d] => { results := [.lit (.bool false)], args := [d] }
  | _ => none }
def BlocksGreatWrongFalsely : Prop := blocksGreatRow.holds Tryd.pinned (OpenSpec.ofChange blocksGreatWrong)

/-- 'replevinlaw12.BlocksClones': WHATEVER THE INPUT: true; the input reads as it did. -/
def blocksClonesSpec : ChangeSpec := { name := "blocksClones", fn := fun _ => fun
  | [d1, d2, d3] => { results := [.lit (.bool true)], args := [d1, d2, d3] }
  | _ => none }
def blocksClonesRow : OpenClaim := { program := "ytejajafbopabmaadoor", sum := "66712fdb2067b54ad52134af1a92eb2ad95683b07e65e2244c4fdf83ad6d7446", func := "replevin/replevinlaw12.BlocksClones", spec := "blocksClones", inPlace := ["internal/bytealg.IndexByte", "internal/bytealg.Count", "internal/bytealg.Index"], unfollowed := true, recurses := true, named := ["replevin/blocks.committed", "replevin/blocks.aborted", "internal/bytealg.MaxLen"], apart := false, laid := [("replevin/blocks.committed", laid_replevin_blocks_committed), ("replevin/blocks.aborted", laid_replevin_blocks_aborted)] }
def BlocksClonesSaid : Prop := blocksClonesRow.holds Tryd.pinned (OpenSpec.ofChange blocksClonesSpec)

/-- ITS FALSE NEIGHBOUR: 'it returns false'. Refute it at one input. -/
def blocksClonesWrong : ChangeSpec := { name := "blocksClones", fn := fun _ => fun
  | [d1, d2, d3] => { results := [.lit (.bool false)], args := [d1, d2, d3] }
  | _ => none }
def BlocksClonesWrongFalsely : Prop := blocksClonesRow.holds Tryd.pinned (OpenSpec.ofChange blocksClonesWrong)

/-- 'replevinlaw12.BlocksNil': WHATEVER THE INPUT: true; the input reads as it did. -/
def blocksNilSpec : ChangeSpec := { name := "blocksNil", fn := fun _ => fun
  | [d1, d2, d3] => { results := [.lit (.bool true)], args := [d1, d2, d3] }
  | _ => none }
def blocksNilRow : OpenClaim := { program := "ytejajafbopabmaadoor", sum := "66712fdb2067b54ad52134af1a92eb2ad95683b07e65e2244c4fdf83ad6d7446", func := "replevin/replevinlaw12.BlocksNil", spec := "blocksNil", inPlace := ["internal/bytealg.IndexByte", "internal/bytealg.Count", "internal/bytealg.Index"], unfollowed := true, recurses := true, named := ["replevin/blocks.committed", "replevin/blocks.aborted", "internal/bytealg.MaxLen"], apart := false, laid := [("replevin/blocks.committed", laid_replevin_blocks_committed), ("replevin/blocks.aborted", laid_replevin_blocks_aborted)] }
def BlocksNilSaid : Prop := blocksNilRow.holds Tryd.pinned (OpenSpec.ofChange blocksNilSpec)

/-- ITS FALSE NEIGHBOUR: 'it returns false'. Refute it at one input. -/
def blocksNilWrong : ChangeSpec := { name := "blocksNil", fn := fun _ => fun
  | [d1, d2, d3] => { results := [.lit (.bool false)], args := [d1, d2, d3] }
  | _ => none }
def BlocksNilWrongFalsely : Prop := blocksNilRow.holds Tryd.pinned (OpenSpec.ofChange blocksNilWrong)

/-- 'replevinlaw12.BlocksNew': WHATEVER THE INPUT: true; the input reads as it did. -/
def blocksNewSpec : ChangeSpec := { name := "blocksNew", fn := fun _ => fun
  | [d1, d2, d3] => { results := [.lit (.bool true)], args := [d1, d2, d3] }
  | _ => none }
def blocksNewRow : OpenClaim := { program := "ytejajafbopabmaadoor", sum := "66712fdb2067b54ad52134af1a92eb2ad95683b07e65e2244c4fdf83ad6d7446", func := "replevin/replevinlaw12.BlocksNew", spec := "blocksNew", inPlace := ["internal/bytealg.IndexByte", "internal/bytealg.Count", "internal/bytealg.Index"], unfollowed := true, recurses := true, named := ["replevin/blocks.committed", "internal/bytealg.MaxLen"], apart := false, laid := [("replevin/blocks.committed", laid_replevin_blocks_committed)] }
def BlocksNewSaid : Prop := blocksNewRow.holds Tryd.pinned (OpenSpec.ofChange blocksNewSpec)

/-- ITS FALSE NEIGHBOUR: 'it returns false'. Refute it at one input. -/
def blocksNewWrong : ChangeSpec := { name := "blocksNew", fn := fun _ => fun
  | [d1, d2, d3] => { results := [.lit (.bool false)], args := [d1, d2, d3] }
  | _ => none }
def BlocksNewWrongFalsely : Prop := blocksNewRow.holds Tryd.pinned (OpenSpec.ofChange blocksNewWrong)

/-- 'replevinlaw12.BlocksDecodes': WHATEVER THE INPUT: true; the input reads as it did. -/
def blocksDecodesSpec : ChangeSpec := { name := "blocksDecodes", fn := fun _ => fun
  | [d] => { results := [.lit (.bool true)], args := [d] }
  | _ => none }
def blocksDecodesRow : OpenClaim := { program := "ytejajafbopabmaadoor", sum := "66712fdb2067b54ad52134af1a92eb2ad95683b07e65e2244c4fdf83ad6d7446", func := "replevin/replevinlaw12.BlocksDecodes", spec := "blocksDecodes", inPlace := ["internal/bytealg.IndexByte", "internal/bytealg.Count", "internal/bytealg.Index"], unfollowed := true, recurses := true, named := ["replevin/blocks.committed", "internal/bytealg.MaxLen"], apart := false, laid := [("replevin/blocks.committed", laid_replevin_blocks_committed)] }
def BlocksDecodesSaid : Prop := blocksDecodesRow.holds Tryd.pinned (OpenSpec.ofChange blocksDecodesSpec)

/-- ITS FALSE NEIGHBOUR: 'it returns false'. Refute it at one input. -/
def blocksDecodesWrong : ChangeSpec := { name := "blocksDecodes", fn := fun _ => fun
  | [d] => { results := [.lit (.bool false)], args := [d] }
  | _ => none }
def BlocksDecodesWrongFalsely : Prop := blocksDecodesRow.holds Tryd.pinned (OpenSpec.ofChange blocksDecodesWrong)

/-- 'replevinlaw12.BlocksEncodes': WHATEVER THE INPUT: true; the input reads as it did. -/
def blocksEncodesSpec : ChangeSpec := { name := "blocksEncodes", fn := fun _ => fun
  | [d1, d2, d3] => { results := [.lit (.bool true)], args := [d1, d2, d3] }
  | _ => none }
def blocksEncodesRow : OpenClaim := { program := "ytejajafbopabmaadoor", sum := "66712fdb2067b54ad52134af1a92eb2ad95683b07e65e2244c4fdf83ad6d7446", func := "replevin/replevinlaw12.BlocksEncodes", spec := "blocksEncodes", inPlace := ["internal/bytealg.IndexByte", "internal/bytealg.Count", "internal/bytealg.Index"], unfollowed := true, recurses := true, named := ["replevin/blocks.committed", "replevin/blocks.aborted", "internal/bytealg.MaxLen"], apart := false, laid := [("replevin/blocks.committed", laid_replevin_blocks_committed), ("replevin/blocks.aborted", laid_replevin_blocks_aborted)] }
def BlocksEncodesSaid : Prop := blocksEncodesRow.holds Tryd.pinned (OpenSpec.ofChange blocksEncodesSpec)

/-- ITS FALSE NEIGHBOUR: 'it returns false'. Refute it at one input. -/
def blocksEncodesWrong : ChangeSpec := { name := "blocksEncodes", fn := fun _ => fun
  | [d1, d2, d3] => { results := [.lit (.bool false)], args := [d1, d2, d3] }
  | _ => none }
def BlocksEncodesWrongFalsely : Prop := blocksEncodesRow.holds Tryd.pinned (OpenSpec.ofChange blocksEncodesWrong)

/- THE SECOND FORM. 'bulk': how many values and letters a reading holds, each counted each time it is reached (what is shared counts as often as it is met; a slice's spare places count too). A statement '..UptoSaid' is the law's where the arguments, and the package variables that the reading takes, are together of bulk at most 1048576: NARROWER than '..Said'. Prove '..Said' where nothing that the law and all that it calls make is longer than what came in: it says more and counts as full. Else prove '..UptoSaid'. A law counts once. -/
mutual
def uptoBulk {H : Type} : DataW H → Nat
  | .lit (.string bytes) => bytes.length + 1
  | .lit _ => 1
  | .nil => 1
  | .ptr d => uptoBulk d + 1
  | .slice elems spare => uptoBulkAll elems + uptoBulkAll spare + 1
  | .agg parts => uptoBulkAll parts + 1
  | .iface _ d => uptoBulk d + 1
  | .map entries => uptoBulkEntries entries + 1
  | .held _ => 1
def uptoBulkAll {H : Type} : List (DataW H) → Nat
  | [] => 0
  | d :: r => uptoBulk d + uptoBulkAll r
def uptoBulkEntries {H : Type} : List (Lit × DataW H) → Nat
  | [] => 0
  | x :: r => uptoBulkEntry x + uptoBulkEntries r
def uptoBulkEntry {H : Type} : Lit × DataW H → Nat
  | (.string bytes, d) => bytes.length + uptoBulk d + 1
  | (_, d) => uptoBulk d + 1
 end
def uptoSmall : (H : Type) → List (DataW H) → Bool := fun _ ds => decide (uptoBulkAll ds ≤ 1048576)
def OpenSpec.upto (s : _root_.Go.ChangeSpec) : _root_.Go.OpenSpec := { _root_.Go.OpenSpec.ofChange s with cond := some uptoSmall }

/-- 'replevinlaw12.BlocksReturns', WHERE WHAT IT READS IS OF BULK AT MOST 1048576: true; the input reads as it did. -/
def blocksReturnsUptoRow : OpenClaim := { program := "ytejajafbopabmaadoor", sum := "66712fdb2067b54ad52134af1a92eb2ad95683b07e65e2244c4fdf83ad6d7446", func := "replevin/replevinlaw12.BlocksReturns", spec := "blocksReturns", inPlace := ["internal/bytealg.IndexByte", "internal/bytealg.Count", "internal/bytealg.Index"], unfollowed := true, recurses := true, named := ["replevin/blocks.committed", "replevin/blocks.aborted", "internal/bytealg.MaxLen"], apart := false, laid := [("replevin/blocks.committed", laid_replevin_blocks_committed), ("replevin/blocks.aborted", laid_replevin_blocks_aborted)], narrowed := true }
def BlocksReturnsUptoSaid : Prop := blocksReturnsUptoRow.holds Tryd.pinned (OpenSpec.upto blocksReturnsSpec)

/-- 'replevinlaw12.BlocksPlays', WHERE WHAT IT READS IS OF BULK AT MOST 1048576: true; the input reads as it did. -/
def blocksPlaysUptoRow : OpenClaim := { program := "ytejajafbopabmaadoor", sum := "66712fdb2067b54ad52134af1a92eb2ad95683b07e65e2244c4fdf83ad6d7446", func := "replevin/replevinlaw12.BlocksPlays", spec := "blocksPlays", inPlace := ["internal/bytealg.IndexByte", "internal/bytealg.Count", "internal/bytealg.Index"], unfollowed := true, recurses := true, named := ["replevin/blocks.committed", "internal/bytealg.MaxLen", "replevin/blocks.aborted"], apart := false, laid := [("replevin/blocks.committed", laid_replevin_blocks_committed), ("replevin/blocks.aborted", laid_replevin_blocks_aborted)], narrowed := true }
def BlocksPlaysUptoSaid : Prop := blocksPlaysUptoRow.holds Tryd.pinned (OpenSpec.upto blocksPlaysSpec)

/-- 'replevinlaw12.BlocksSafe', WHERE WHAT IT READS IS OF BULK AT MOST 1048576: true; the input reads as it did. -/
def blocksSafeUptoRow : OpenClaim := { program := "ytejajafbopabmaadoor", sum := "66712fdb2067b54ad52134af1a92eb2ad95683b07e65e2244c4fdf83ad6d7446", func := "replevin/replevinlaw12.BlocksSafe", spec := "blocksSafe", inPlace := ["internal/bytealg.IndexByte", "internal/bytealg.Count", "internal/bytealg.Index"], unfollowed := true, recurses := true, named := ["replevin/blocks.committed", "replevin/blocks.aborted", "internal/bytealg.MaxLen"], apart := false, laid := [("replevin/blocks.committed", laid_replevin_blocks_committed), ("replevin/blocks.aborted", laid_replevin_blocks_aborted)], narrowed := true }
def BlocksSafeUptoSaid : Prop := blocksSafeUptoRow.holds Tryd.pinned (OpenSpec.upto blocksSafeSpec)

/-- 'replevinlaw12.BlocksGreat', WHERE WHAT IT READS IS OF BULK AT MOST 1048576: true; the input reads as it did. -/
def blocksGreatUptoRow : OpenClaim := { program := "ytejajafbopabmaadoor", sum := "66712fdb2067b54ad52134af1a92eb2ad95683b07e65e2244c4fdf83ad6d7446", func := "replevin/replevinlaw12.BlocksGreat", spec := "blocksGreat", inPlace := ["internal/bytealg.IndexByte", "internal/bytealg.Count", "internal/bytealg.Index"], unfollowed := true, recurses := true, named := ["replevin/blocks.committed", "internal/bytealg.MaxLen"], apart := false, laid := [("replevin/blocks.committed", laid_replevin_blocks_committed)], narrowed := true }
def BlocksGreatUptoSaid : Prop := blocksGreatUptoRow.holds Tryd.pinned (OpenSpec.upto blocksGreatSpec)

/-- 'replevinlaw12.BlocksClones', WHERE WHAT IT READS IS OF BULK AT MOST 1048576: true; the input reads as it did. -/
def blocksClonesUptoRow : OpenClaim := { program := "ytejajafbopabmaadoor", sum := "66712fdb2067b54ad52134af1a92eb2ad95683b07e65e2244c4fdf83ad6d7446", func := "replevin/replevinlaw12.BlocksClones", spec := "blocksClones", inPlace := ["internal/bytealg.IndexByte", "internal/bytealg.Count", "internal/bytealg.Index"], unfollowed := true, recurses := true, named := ["replevin/blocks.committed", "replevin/blocks.aborted", "internal/bytealg.MaxLen"], apart := false, laid := [("replevin/blocks.committed", laid_replevin_blocks_committed), ("replevin/blocks.aborted", laid_replevin_blocks_aborted)], narrowed := true }
def BlocksClonesUptoSaid : Prop := blocksClonesUptoRow.holds Tryd.pinned (OpenSpec.upto blocksClonesSpec)

/-- 'replevinlaw12.BlocksNil', WHERE WHAT IT READS IS OF BULK AT MOST 1048576: true; the input reads as it did. -/
def blocksNilUptoRow : OpenClaim := { program := "ytejajafbopabmaadoor", sum := "66712fdb2067b54ad52134af1a92eb2ad95683b07e65e2244c4fdf83ad6d7446", func := "replevin/replevinlaw12.BlocksNil", spec := "blocksNil", inPlace := ["internal/bytealg.IndexByte", "internal/bytealg.Count", "internal/bytealg.Index"], unfollowed := true, recurses := true, named := ["replevin/blocks.committed", "replevin/blocks.aborted", "internal/bytealg.MaxLen"], apart := false, laid := [("replevin/blocks.committed", laid_replevin_blocks_committed), ("replevin/blocks.aborted", laid_replevin_blocks_aborted)], narrowed := true }
def BlocksNilUptoSaid : Prop := blocksNilUptoRow.holds Tryd.pinned (OpenSpec.upto blocksNilSpec)

/-- 'replevinlaw12.BlocksNew', WHERE WHAT IT READS IS OF BULK AT MOST 1048576: true; the input reads as it did. -/
def blocksNewUptoRow : OpenClaim := { program := "ytejajafbopabmaadoor", sum := "66712fdb2067b54ad52134af1a92eb2ad95683b07e65e2244c4fdf83ad6d7446", func := "replevin/replevinlaw12.BlocksNew", spec := "blocksNew", inPlace := ["internal/bytealg.IndexByte", "internal/bytealg.Count", "internal/bytealg.Index"], unfollowed := true, recurses := true, named := ["replevin/blocks.committed", "internal/bytealg.MaxLen"], apart := false, laid := [("replevin/blocks.committed", laid_replevin_blocks_committed)], narrowed := true }
def BlocksNewUptoSaid : Prop := blocksNewUptoRow.holds Tryd.pinned (OpenSpec.upto blocksNewSpec)

/-- 'replevinlaw12.BlocksDecodes', WHERE WHAT IT READS IS OF BULK AT MOST 1048576: true; the input reads as it did. -/
def blocksDecodesUptoRow : OpenClaim := { program := "ytejajafbopabmaadoor", sum := "66712fdb2067b54ad52134af1a92eb2ad95683b07e65e2244c4fdf83ad6d7446", func := "replevin/replevinlaw12.BlocksDecodes", spec := "blocksDecodes", inPlace := ["internal/bytealg.IndexByte", "internal/bytealg.Count", "internal/bytealg.Index"], unfollowed := true, recurses := true, named := ["replevin/blocks.committed", "internal/bytealg.MaxLen"], apart := false, laid := [("replevin/blocks.committed", laid_replevin_blocks_committed)], narrowed := true }
def BlocksDecodesUptoSaid : Prop := blocksDecodesUptoRow.holds Tryd.pinned (OpenSpec.upto blocksDecodesSpec)

/-- 'replevinlaw12.BlocksEncodes', WHERE WHAT IT READS IS OF BULK AT MOST 1048576: true; the input reads as it did. -/
def blocksEncodesUptoRow : OpenClaim := { program := "ytejajafbopabmaadoor", sum := "66712fdb2067b54ad52134af1a92eb2ad95683b07e65e2244c4fdf83ad6d7446", func := "replevin/replevinlaw12.BlocksEncodes", spec := "blocksEncodes", inPlace := ["internal/bytealg.IndexByte", "internal/bytealg.Count", "internal/bytealg.Index"], unfollowed := true, recurses := true, named := ["replevin/blocks.committed", "replevin/blocks.aborted", "internal/bytealg.MaxLen"], apart := false, laid := [("replevin/blocks.committed", laid_replevin_blocks_committed), ("replevin/blocks.aborted", laid_replevin_blocks_aborted)], narrowed := true }
def BlocksEncodesUptoSaid : Prop := blocksEncodesUptoRow.holds Tryd.pinned (OpenSpec.upto blocksEncodesSpec)

end Rows
end Go.Proofs.YtejajafbopabmaaDoor
