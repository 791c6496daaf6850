/-
  NARROWER THAN 'FOR EVERY INPUT', by the rows' own cells (each row's printed sentence says how): StateChanges: laid · StateGets: laid · StateDiffs: laid · StateApplies: laid · StateEquals: laid · StateOrder: laid · StateNil: laid · StateLimits: laid · StateDecodes: laid.
  DERIVED. THE GIVEN ROWS OF THIS SEAT. 9 by the template 'for every input the law returns true; each argument reads behind the call as it read before'; 0 by the template 'total and deterministic' (their statements: YtpnchdgplpdefaaDoorTotals.lean).
  GIVEN WITH THE SEED: the statements are not yours to turn. If you find one false, say at which input.
  Laid BY PROGRAM, IN A SANDBOX (cutbox-rows.mjs): the forced cells as the released guide's own fill.sh prints them over the translation 8a1d7679d3af0b19… (all of the seat's roots in one cut). By AI agents, Wed Nov 11 2026. No macro, syntax, notation, axiom, sorry.
-/
import Derived.Test.YtpnchdgplpdefaaDoorChecked
import GoSem.Claim
import GoSem.ClaimJoined
import GoSem.ClaimMapViews
import Derived.JoinedTies
import Derived.KernelRfl
namespace Go.Proofs.YtpnchdgplpdefaaDoor
/- THE CELL 'sum', in the pinned program and in every row, IS THE sha256 OF THE DUMP (.gsa) THAT YtpnchdgplpdefaaDoorProg.lean LOADS. Nothing in Lean hashes anything: it is a label: what it is worth is what the hold of that sum in a sandbox is worth. -/
noncomputable def Tryd.pinned : Pinned := { name := "ytpnchdgplpdefaadoor", sum := "8a1d7679d3af0b191b024dd0325be58fa2d798706f0c3ca3e901c19dc1437263", checked := Tryd.checked }
namespace Rows
def none {H : Type} : Left H := { results := [], args := [] }

/- WHAT THE LISTED PACKAGE-LEVEL VARIABLES READ AS WHEN THE CALL BEGINS. Each datum BY PROGRAM (the guide's laid-datum.mjs) off the statement by which the dump's own 'gosem.cut.vars' lays the variable. In a bare row this is a premise. The card (YtpnchdgplpdefaaDoorCards.lean) ties it to the program's text. -/
def laid_replevin_object_usages {H : Type} : DataW H := .agg [.agg [.lit (.string []), .lit (.bool false), .lit (.bool false), .lit (.bool false), .lit (.bool false), .lit (.int .i64 0)], .agg [.lit (.string [112, 114, 111, 99, 101, 115, 115]), .lit (.bool true), .lit (.bool false), .lit (.bool false), .lit (.bool false), .lit (.int .i64 0)], .agg [.lit (.string [114, 101, 103, 105, 115, 116, 101, 114, 115]), .lit (.bool true), .lit (.bool false), .lit (.bool false), .lit (.bool false), .lit (.int .i64 0)], .agg [.lit (.string [112, 97, 103, 101]), .lit (.bool true), .lit (.bool false), .lit (.bool true), .lit (.bool false), .lit (.int .i64 63)], .agg [.lit (.string [116, 97, 98, 108, 101]), .lit (.bool true), .lit (.bool false), .lit (.bool false), .lit (.bool false), .lit (.int .i64 0)], .agg [.lit (.string [99, 111, 117, 110, 116, 101, 114]), .lit (.bool true), .lit (.bool false), .lit (.bool false), .lit (.bool false), .lit (.int .i64 0)], .agg [.lit (.string [112, 101, 110, 100, 105, 110, 103]), .lit (.bool true), .lit (.bool false), .lit (.bool false), .lit (.bool false), .lit (.int .i64 0)], .agg [.lit (.string [110, 111, 100, 101]), .lit (.bool true), .lit (.bool true), .lit (.bool false), .lit (.bool false), .lit (.int .i64 0)], .agg [.lit (.string [98, 108, 111, 99, 107]), .lit (.bool true), .lit (.bool true), .lit (.bool true), .lit (.bool false), .lit (.int .i64 63)], .agg [.lit (.string [101, 110, 116, 114, 121]), .lit (.bool true), .lit (.bool true), .lit (.bool false), .lit (.bool true), .lit (.int .i64 0)], .agg [.lit (.string [108, 105, 115, 116, 105, 110, 103]), .lit (.bool true), .lit (.bool true), .lit (.bool false), .lit (.bool false), .lit (.int .i64 0)], .agg [.lit (.string [112, 105, 112, 101]), .lit (.bool true), .lit (.bool true), .lit (.bool false), .lit (.bool false), .lit (.int .i64 0)], .agg [.lit (.string [108, 111, 99, 107]), .lit (.bool true), .lit (.bool true), .lit (.bool false), .lit (.bool false), .lit (.int .i64 0)], .agg [.lit (.string [116, 101, 114, 109, 105, 110, 97, 108]), .lit (.bool false), .lit (.bool true), .lit (.bool false), .lit (.bool false), .lit (.int .i64 0)], .agg [.lit (.string [97, 99, 99, 111, 117, 110, 116]), .lit (.bool false), .lit (.bool false), .lit (.bool false), .lit (.bool true), .lit (.int .i64 0)], .agg [.lit (.string [99, 108, 111, 99, 107]), .lit (.bool false), .lit (.bool false), .lit (.bool false), .lit (.bool false), .lit (.int .i64 0)], .agg [.lit (.string [112, 111, 114, 116]), .lit (.bool false), .lit (.bool true), .lit (.bool false), .lit (.bool false), .lit (.int .i64 0)], .agg [.lit (.string [98, 111, 120]), .lit (.bool false), .lit (.bool false), .lit (.bool false), .lit (.bool true), .lit (.int .i64 0)], .agg [.lit (.string [111, 117, 116]), .lit (.bool true), .lit (.bool true), .lit (.bool true), .lit (.bool false), .lit (.int .i64 1073741824)], .agg [.lit (.string [115, 104, 101, 108, 108]), .lit (.bool true), .lit (.bool false), .lit (.bool false), .lit (.bool false), .lit (.int .i64 0)], .agg [.lit (.string [101, 112, 111, 99, 104]), .lit (.bool false), .lit (.bool false), .lit (.bool false), .lit (.bool false), .lit (.int .i64 0)]]
def laid_replevin_sha256_initial {H : Type} : DataW H := .agg [.lit (.int .u32 1779033703), .lit (.int .u32 3144134277), .lit (.int .u32 1013904242), .lit (.int .u32 2773480762), .lit (.int .u32 1359893119), .lit (.int .u32 2600822924), .lit (.int .u32 528734635), .lit (.int .u32 1541459225)]
def laid_replevin_sha256_constants {H : Type} : DataW H := .agg [.lit (.int .u32 1116352408), .lit (.int .u32 1899447441), .lit (.int .u32 3049323471), .lit (.int .u32 3921009573), .lit (.int .u32 961987163), .lit (.int .u32 1508970993), .lit (.int .u32 2453635748), .lit (.int .u32 2870763221), .lit (.int .u32 3624381080), .lit (.int .u32 310598401), .lit (.int .u32 607225278), .lit (.int .u32 1426881987), .lit (.int .u32 1925078388), .lit (.int .u32 2162078206), .lit (.int .u32 2614888103), .lit (.int .u32 3248222580), .lit (.int .u32 3835390401), .lit (.int .u32 4022224774), .lit (.int .u32 264347078), .lit (.int .u32 604807628), .lit (.int .u32 770255983), .lit (.int .u32 1249150122), .lit (.int .u32 1555081692), .lit (.int .u32 1996064986), .lit (.int .u32 2554220882), .lit (.int .u32 2821834349), .lit (.int .u32 2952996808), .lit (.int .u32 3210313671), .lit (.int .u32 3336571891), .lit (.int .u32 3584528711), .lit (.int .u32 113926993), .lit (.int .u32 338241895), .lit (.int .u32 666307205), .lit (.int .u32 773529912), .lit (.int .u32 1294757372), .lit (.int .u32 1396182291), .lit (.int .u32 1695183700), .lit (.int .u32 1986661051), .lit (.int .u32 2177026350), .lit (.int .u32 2456956037), .lit (.int .u32 2730485921), .lit (.int .u32 2820302411), .lit (.int .u32 3259730800), .lit (.int .u32 3345764771), .lit (.int .u32 3516065817), .lit (.int .u32 3600352804), .lit (.int .u32 4094571909), .lit (.int .u32 275423344), .lit (.int .u32 430227734), .lit (.int .u32 506948616), .lit (.int .u32 659060556), .lit (.int .u32 883997877), .lit (.int .u32 958139571), .lit (.int .u32 1322822218), .lit (.int .u32 1537002063), .lit (.int .u32 1747873779), .lit (.int .u32 1955562222), .lit (.int .u32 2024104815), .lit (.int .u32 2227730452), .lit (.int .u32 2361852424), .lit (.int .u32 2428436474), .lit (.int .u32 2756734187), .lit (.int .u32 3204031479), .lit (.int .u32 3329325298)]

/-- 'replevinlaw05.StateChanges': WHATEVER THE INPUT: true; the input reads as it did. -/
def stateChangesSpec : ChangeSpec := { name := "stateChanges", fn := fun _ => fun
  | [d] => { results := [.lit (.bool true)], args := [d] }
  | _ => none }
def stateChangesRow : OpenClaim := { program := "ytpnchdgplpdefaadoor", sum := "8a1d7679d3af0b191b024dd0325be58fa2d798706f0c3ca3e901c19dc1437263", func := "replevin/replevinlaw05.StateChanges", spec := "stateChanges", unfollowed := true, recurses := true, named := ["replevin/object.usages"], apart := false, laid := [("replevin/object.usages", laid_replevin_object_usages)] }
def StateChangesSaid : Prop := stateChangesRow.holds Tryd.pinned (OpenSpec.ofChange stateChangesSpec)

/-- ITS FALSE NEIGHBOUR: 'it returns false'. Refute it at one input. -/
def stateChangesWrong : ChangeSpec := { name := "stateChanges", fn := fun _ => fun
  | [d] => { results := [.lit (.bool false)], args := [d] }
  | _ => none }
def StateChangesWrongFalsely : Prop := stateChangesRow.holds Tryd.pinned (OpenSpec.ofChange stateChangesWrong)

/-- 'replevinlaw05.StateGets': WHATEVER THE INPUT: true; the input reads as it did. -/
def stateGetsSpec : ChangeSpec := { name := "stateGets", fn := fun _ => fun
  | [d1, d2, d3] => { results := [.lit (.bool true)], args := [d1, d2, d3] }
  | _ => none }
def stateGetsRow : OpenClaim := { program := "ytpnchdgplpdefaadoor", sum := "8a1d7679d3af0b191b024dd0325be58fa2d798706f0c3ca3e901c19dc1437263", func := "replevin/replevinlaw05.StateGets", spec := "stateGets", unfollowed := true, recurses := true, named := ["replevin/object.usages"], apart := false, laid := [("replevin/object.usages", laid_replevin_object_usages)] }
def StateGetsSaid : Prop := stateGetsRow.holds Tryd.pinned (OpenSpec.ofChange stateGetsSpec)

/-- ITS FALSE NEIGHBOUR: 'it returns false'. Refute it at one input. -/
def stateGetsWrong : ChangeSpec := { name := "stateGets", fn := fun _ => fun
  | [d1, d2, d3] => { results := [.lit (.bool false)], args := [d1, d2, d3] }
  | _ => none }
def StateGetsWrongFalsely : Prop := stateGetsRow.holds Tryd.pinned (OpenSpec.ofChange stateGetsWrong)

/-- 'replevinlaw05.StateDiffs': WHATEVER THE INPUT: true; the input reads as it did. -/
def stateDiffsSpec : ChangeSpec := { name := "stateDiffs", fn := fun _ => fun
  | [d1, d2] => { results := [.lit (.bool true)], args := [d1, d2] }
  | _ => none }
def stateDiffsRow : OpenClaim := { program := "ytpnchdgplpdefaadoor", sum := "8a1d7679d3af0b191b024dd0325be58fa2d798706f0c3ca3e901c19dc1437263", func := "replevin/replevinlaw05.StateDiffs", spec := "stateDiffs", unfollowed := true, recurses := true, named := ["replevin/object.usages"], apart := false, laid := [("replevin/object.usages", laid_replevin_object_usages)] }
def StateDiffsSaid : Prop := stateDiffsRow.holds Tryd.pinned (OpenSpec.ofChange stateDiffsSpec)

/-- ITS FALSE NEIGHBOUR: 'it returns false'. Refute it at one input. -/
def stateDiffsWrong : ChangeSpec := { name := "stateDiffs", fn := fun _ => fun
  | [d1, d2] => { results := [.lit (.bool false)], args := [d1, d2] }
  | _ => none }
def StateDiffsWrongFalsely : Prop := stateDiffsRow.holds Tryd.pinned (OpenSpec.ofChange stateDiffsWrong)

/-- 'replevinlaw05.StateApplies': WHATEVER THE INPUT: true; the input reads as it did. -/
def stateAppliesSpec : ChangeSpec := { name := "stateApplies", fn := fun _ => fun
  | [d1, d2] => { results := [.lit (.bool true)], args := [d1, d2] }
  | _ => none }
def stateAppliesRow : OpenClaim := { program := "ytpnchdgplpdefaadoor", sum := "8a1d7679d3af0b191b024dd0325be58fa2d798706f0c3ca3e901c19dc1437263", func := "replevin/replevinlaw05.StateApplies", spec := "stateApplies", unfollowed := true, recurses := true, named := ["replevin/object.usages"], apart := false, laid := [("replevin/object.usages", laid_replevin_object_usages)] }
def StateAppliesSaid : Prop := stateAppliesRow.holds Tryd.pinned (OpenSpec.ofChange stateAppliesSpec)

/-- ITS FALSE NEIGHBOUR: 'it returns false'. Refute it at one input. -/
def stateAppliesWrong : ChangeSpec := { name := "stateApplies", fn := fun _ => fun
  | [d1, d2] => { results := [.lit (.bool false)], args := [d1, d2] }
  | _ => none }
def StateAppliesWrongFalsely : Prop := stateAppliesRow.holds Tryd.pinned (OpenSpec.ofChange stateAppliesWrong)

/-- 'replevinlaw05.StateEquals': WHATEVER THE INPUT: true; the input reads as it did. -/
def stateEqualsSpec : ChangeSpec := { name := "stateEquals", fn := fun _ => fun
  | [d1, d2] => { results := [.lit (.bool true)], args := [d1, d2] }
  | _ => none }
def stateEqualsRow : OpenClaim := { program := "ytpnchdgplpdefaadoor", sum := "8a1d7679d3af0b191b024dd0325be58fa2d798706f0c3ca3e901c19dc1437263", func := "replevin/replevinlaw05.StateEquals", spec := "stateEquals", unfollowed := true, recurses := true, named := ["replevin/object.usages"], apart := false, laid := [("replevin/object.usages", laid_replevin_object_usages)] }
def StateEqualsSaid : Prop := stateEqualsRow.holds Tryd.pinned (OpenSpec.ofChange stateEqualsSpec)

/-- ITS FALSE NEIGHBOUR: 'it returns false'. Refute it at one input. -/
def stateEqualsWrong : ChangeSpec := { name := "stateEquals", fn := fun _ => fun
  | [d1, d2] => { results := [.lit (.bool false)], args := [d1, d2] }
  | _ => none }
def StateEqualsWrongFalsely : Prop := stateEqualsRow.holds Tryd.pinned (OpenSpec.ofChange stateEqualsWrong)

/-- 'replevinlaw05.StateOrder': WHATEVER THE INPUT: true; the input reads as it did. -/
def stateOrderSpec : ChangeSpec := { name := "stateOrder", fn := fun _ => fun
  | [d1, d2, d3] => { results := [.lit (.bool true)], args := [d1, d2, d3] }
  | _ => none }
def stateOrderRow : OpenClaim := { program := "ytpnchdgplpdefaadoor", sum := "8a1d7679d3af0b191b024dd0325be58fa2d798706f0c3ca3e901c19dc1437263", func := "replevin/replevinlaw05.StateOrder", spec := "stateOrder", unfollowed := true, recurses := true, named := ["replevin/object.usages"], apart := false, laid := [("replevin/object.usages", laid_replevin_object_usages)] }
def StateOrderSaid : Prop := stateOrderRow.holds Tryd.pinned (OpenSpec.ofChange stateOrderSpec)

/-- ITS FALSE NEIGHBOUR: 'it returns false'. Refute it at one input. -/
def stateOrderWrong : ChangeSpec := { name := "stateOrder", fn := fun _ => fun
  | [d1, d2, d3] => { results := [.lit (.bool false)], args := [d1, d2, d3] }
  | _ => none }
def StateOrderWrongFalsely : Prop := stateOrderRow.holds Tryd.pinned (OpenSpec.ofChange stateOrderWrong)

/-- 'replevinlaw05.StateNil': WHATEVER THE INPUT: true; the input reads as it did. -/
def stateNilSpec : ChangeSpec := { name := "stateNil", fn := fun _ => fun
  | [d] => { results := [.lit (.bool true)], args := [d] }
  | _ => none }
def stateNilRow : OpenClaim := { program := "ytpnchdgplpdefaadoor", sum := "8a1d7679d3af0b191b024dd0325be58fa2d798706f0c3ca3e901c19dc1437263", func := "replevin/replevinlaw05.StateNil", spec := "stateNil", unfollowed := true, recurses := true, named := ["replevin/object.usages", "replevin/sha256.initial", "replevin/sha256.constants"], apart := false, laid := [("replevin/sha256.initial", laid_replevin_sha256_initial), ("replevin/sha256.constants", laid_replevin_sha256_constants), ("replevin/object.usages", laid_replevin_object_usages)] }
def StateNilSaid : Prop := stateNilRow.holds Tryd.pinned (OpenSpec.ofChange stateNilSpec)

/-- ITS FALSE NEIGHBOUR: 'it returns false'. Refute it at one input. -/
def stateNilWrong : ChangeSpec := { name := "stateNil", fn := fun _ => fun
  | [d] => { results := [.lit (.bool false)], args := [d] }
  | _ => none }
def StateNilWrongFalsely : Prop := stateNilRow.holds Tryd.pinned (OpenSpec.ofChange stateNilWrong)

/-- 'replevinlaw05.StateLimits': WHATEVER THE INPUT: true; the input reads as it did. -/
def stateLimitsSpec : ChangeSpec := { name := "stateLimits", fn := fun _ => fun
  | [d] => { results := [.lit (.bool true)], args := [d] }
  | _ => none }
def stateLimitsRow : OpenClaim := { program := "ytpnchdgplpdefaadoor", sum := "8a1d7679d3af0b191b024dd0325be58fa2d798706f0c3ca3e901c19dc1437263", func := "replevin/replevinlaw05.StateLimits", spec := "stateLimits", unfollowed := true, recurses := true, named := ["replevin/object.usages"], apart := false, laid := [("replevin/object.usages", laid_replevin_object_usages)] }
def StateLimitsSaid : Prop := stateLimitsRow.holds Tryd.pinned (OpenSpec.ofChange stateLimitsSpec)

/-- ITS FALSE NEIGHBOUR: 'it returns false'. Refute it at one input. -/
def stateLimitsWrong : ChangeSpec := { name := "stateLimits", fn := fun _ => fun
  | [d] => { results := [.lit (.bool false)], args := [d] }
  | _ => none }
def StateLimitsWrongFalsely : Prop := stateLimitsRow.holds Tryd.pinned (OpenSpec.ofChange stateLimitsWrong)

/-- 'replevinlaw05.StateDecodes': WHATEVER THE INPUT: true; the input reads as it did. -/
def stateDecodesSpec : ChangeSpec := { name := "stateDecodes", fn := fun _ => fun
  | [d] => { results := [.lit (.bool true)], args := [d] }
  | _ => none }
def stateDecodesRow : OpenClaim := { program := "ytpnchdgplpdefaadoor", sum := "8a1d7679d3af0b191b024dd0325be58fa2d798706f0c3ca3e901c19dc1437263", func := "replevin/replevinlaw05.StateDecodes", spec := "stateDecodes", unfollowed := true, recurses := true, named := ["replevin/object.usages"], apart := false, laid := [("replevin/object.usages", laid_replevin_object_usages)] }
def StateDecodesSaid : Prop := stateDecodesRow.holds Tryd.pinned (OpenSpec.ofChange stateDecodesSpec)

/-- ITS FALSE NEIGHBOUR: 'it returns false'. Refute it at one input. -/
def stateDecodesWrong : ChangeSpec := { name := "stateDecodes", fn := fun _ => fun
  | [d] => { results := [.lit (.bool false)], args := [d] }
  | _ => none }
def StateDecodesWrongFalsely : Prop := stateDecodesRow.holds Tryd.pinned (OpenSpec.ofChange stateDecodesWrong)

/- THE SECOND FORM. 'bulk': how many values and letters a reading holds, each counted each time it is reached (what is shared counts as often as it is met; a slice's spare places count too). A statement '..UptoSaid' is the law's where the arguments, and the package variables that the reading takes, are together of bulk at most 1048576: NARROWER than '..Said'. Prove '..Said' where nothing that the law and all that it calls make is longer than what came in: it says more and counts as full. Else prove '..UptoSaid'. A law counts once. -/
mutual
def uptoBulk {H : Type} : DataW H → Nat
  | .lit (.string bytes) => bytes.length + 1
  | .lit _ => 1
  | .nil => 1
  | .ptr d => uptoBulk d + 1
  | .slice elems spare => uptoBulkAll elems + uptoBulkAll spare + 1
  | .agg parts => uptoBulkAll parts + 1
  | .iface _ d => uptoBulk d + 1
  | .map entries => uptoBulkEntries entries + 1
  | .held _ => 1
def uptoBulkAll {H : Type} : List (DataW H) → Nat
  | [] => 0
  | d :: r => uptoBulk d + uptoBulkAll r
def uptoBulkEntries {H : Type} : List (Lit × DataW H) → Nat
  | [] => 0
  | x :: r => uptoBulkEntry x + uptoBulkEntries r
def uptoBulkEntry {H : Type} : Lit × DataW H → Nat
  | (.string bytes, d) => bytes.length + uptoBulk d + 1
  | (_, d) => uptoBulk d + 1
 end
def uptoSmall : (H : Type) → List (DataW H) → Bool := fun _ ds => decide (uptoBulkAll ds ≤ 1048576)
def OpenSpec.upto (s : _root_.Go.ChangeSpec) : _root_.Go.OpenSpec := { _root_.Go.OpenSpec.ofChange s with cond := some uptoSmall }

/-- 'replevinlaw05.StateChanges', WHERE WHAT IT READS IS OF BULK AT MOST 1048576: true; the input reads as it did. -/
def stateChangesUptoRow : OpenClaim := { program := "ytpnchdgplpdefaadoor", sum := "8a1d7679d3af0b191b024dd0325be58fa2d798706f0c3ca3e901c19dc1437263", func := "replevin/replevinlaw05.StateChanges", spec := "stateChanges", unfollowed := true, recurses := true, named := ["replevin/object.usages"], apart := false, laid := [("replevin/object.usages", laid_replevin_object_usages)], narrowed := true }
def StateChangesUptoSaid : Prop := stateChangesUptoRow.holds Tryd.pinned (OpenSpec.upto stateChangesSpec)

/-- 'replevinlaw05.StateGets', WHERE WHAT IT READS IS OF BULK AT MOST 1048576: true; the input reads as it did. -/
def stateGetsUptoRow : OpenClaim := { program := "ytpnchdgplpdefaadoor", sum := "8a1d7679d3af0b191b024dd0325be58fa2d798706f0c3ca3e901c19dc1437263", func := "replevin/replevinlaw05.StateGets", spec := "stateGets", unfollowed := true, recurses := true, named := ["replevin/object.usages"], apart := false, laid := [("replevin/object.usages", laid_replevin_object_usages)], narrowed := true }
def StateGetsUptoSaid : Prop := stateGetsUptoRow.holds Tryd.pinned (OpenSpec.upto stateGetsSpec)

/-- 'replevinlaw05.StateDiffs', WHERE WHAT IT READS IS OF BULK AT MOST 1048576: true; the input reads as it did. -/
def stateDiffsUptoRow : OpenClaim := { program := "ytpnchdgplpdefaadoor", sum := "8a1d7679d3af0b191b024dd0325be58fa2d798706f0c3ca3e901c19dc1437263", func := "replevin/replevinlaw05.StateDiffs", spec := "stateDiffs", unfollowed := true, recurses := true, named := ["replevin/object.usages"], apart := false, laid := [("replevin/object.usages", laid_replevin_object_usages)], narrowed := true }
def StateDiffsUptoSaid : Prop := stateDiffsUptoRow.holds Tryd.pinned (OpenSpec.upto stateDiffsSpec)

/-- 'replevinlaw05.StateApplies', WHERE WHAT IT READS IS OF BULK AT MOST 1048576: true; the input reads as it did. -/
def stateAppliesUptoRow : OpenClaim := { program := "ytpnchdgplpdefaadoor", sum := "8a1d7679d3af0b191b024dd0325be58fa2d798706f0c3ca3e901c19dc1437263", func := "replevin/replevinlaw05.StateApplies", spec := "stateApplies", unfollowed := true, recurses := true, named := ["replevin/object.usages"], apart := false, laid := [("replevin/object.usages", laid_replevin_object_usages)], narrowed := true }
def StateAppliesUptoSaid : Prop := stateAppliesUptoRow.holds Tryd.pinned (OpenSpec.upto stateAppliesSpec)

/-- 'replevinlaw05.StateEquals', WHERE WHAT IT READS IS OF BULK AT MOST 1048576: true; the input reads as it did. -/
def stateEqualsUptoRow : OpenClaim := { program := "ytpnchdgplpdefaadoor", sum := "8a1d7679d3af0b191b024dd0325be58fa2d798706f0c3ca3e901c19dc1437263", func := "replevin/replevinlaw05.StateEquals", spec := "stateEquals", unfollowed := true, recurses := true, named := ["replevin/object.usages"], apart := false, laid := [("replevin/object.usages", laid_replevin_object_usages)], narrowed := true }
def StateEqualsUptoSaid : Prop := stateEqualsUptoRow.holds Tryd.pinned (OpenSpec.upto stateEqualsSpec)

/-- 'replevinlaw05.StateOrder', WHERE WHAT IT READS IS OF BULK AT MOST 1048576: true; the input reads as it did. -/
def stateOrderUptoRow : OpenClaim := { program := "ytpnchdgplpdefaadoor", sum := "8a1d7679d3af0b191b024dd0325be58fa2d798706f0c3ca3e901c19dc1437263", func := "replevin/replevinlaw05.StateOrder", spec := "stateOrder", unfollowed := true, recurses := true, named := ["replevin/object.usages"], apart := false, laid := [("replevin/object.usages", laid_replevin_object_usages)], narrowed := true }
def StateOrderUptoSaid : Prop := stateOrderUptoRow.holds Tryd.pinned (OpenSpec.upto stateOrderSpec)

/-- 'replevinlaw05.StateNil', WHERE WHAT IT READS IS OF BULK AT MOST 1048576: true; the input reads as it did. -/
def stateNilUptoRow : OpenClaim := { program := "ytpnchdgplpdefaadoor", sum := "8a1d7679d3af0b191b024dd0325be58fa2d798706f0c3ca3e901c19dc1437263", func := "replevin/replevinlaw05.StateNil", spec := "stateNil", unfollowed := true, recurses := true, named := ["replevin/object.usages", "replevin/sha256.initial", "replevin/sha256.constants"], apart := false, laid := [("replevin/sha256.initial", laid_replevin_sha256_initial), ("replevin/sha256.constants", laid_replevin_sha256_constants), ("replevin/object.usages", laid_replevin_object_usages)], narrowed := true }
def StateNilUptoSaid : Prop := stateNilUptoRow.holds Tryd.pinned (OpenSpec.upto stateNilSpec)

/-- 'replevinlaw05.StateLimits', WHERE WHAT IT READS IS OF BULK AT MOST 1048576: true; the input reads as it did. -/
def stateLimitsUptoRow : OpenClaim := { program := "ytpnchdgplpdefaadoor", sum := "8a1d7679d3af0b191b024dd0325be58fa2d798706f0c3ca3e901c19dc1437263", func := "replevin/replevinlaw05.StateLimits", spec := "stateLimits", unfollowed := true, recurses := true, named := ["replevin/object.usages"], apart := false, laid := [("replevin/object.usages", laid_replevin_object_usages)], narrowed := true }
def StateLimitsUptoSaid : Prop := stateLimitsUptoRow.holds Tryd.pinned (OpenSpec.upto stateLimitsSpec)

/-- 'replevinlaw05.StateDecodes', WHERE WHAT IT READS IS OF BULK AT MOST 1048576: true; the input reads as it did. -/
def stateDecodesUptoRow : OpenClaim := { program := "ytpnchdgplpdefaadoor", sum := "8a1d7679d3af0b191b024dd0325be58fa2d798706f0c3ca3e901c19dc1437263", func := "replevin/replevinlaw05.StateDecodes", spec := "stateDecodes", unfollowed := true, recurses := true, named := ["replevin/object.usages"], apart := false, laid := [("replevin/object.usages", laid_replevin_object_usages)], narrowed := true }
def StateDecodesUptoSaid : Prop := stateDecodesUptoRow.holds Tryd.pinned (OpenSpec.upto stateDecodesSpec)

end Rows
end Go.Proofs.YtpnchdgplpdefaaDoor
