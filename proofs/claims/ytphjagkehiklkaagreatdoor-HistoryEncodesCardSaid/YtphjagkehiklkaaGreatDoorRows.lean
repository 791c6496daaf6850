/-
  NARROWER THAN 'FOR EVERY INPUT', by the rows' own cells (each row's printed sentence says how): HistoryProofs: laid · HistoryVerifies: laid · HistoryRoots: laid · HistoryForged: laid · HistoryAppends: laid · HistoryExtends: laid · HistoryFinds: laid · HistoryTruncates: laid · HistoryEquals: laid · HistoryEncodes: laid.
  DERIVED. THE GIVEN ROWS OF THIS SEAT. 10 by the template 'for every input the law returns true; each argument reads behind the call as it read before'; 0 by the template 'total and deterministic' (their statements: YtphjagkehiklkaaGreatDoorTotals.lean).
  GIVEN WITH THE SEED: the statements are not yours to turn. If you find one false, say at which input.
  Laid BY PROGRAM, IN A SANDBOX (cutbox-rows.mjs): the forced cells as the released guide's own fill.sh prints them over the translation 37e4ffe656f2451a… (all of the seat's roots in one cut). By AI agents, Wed Nov 11 2026. No macro, syntax, notation, axiom, sorry.
-/
import Derived.Test.YtphjagkehiklkaaGreatDoorChecked
import GoSem.Claim
import GoSem.ClaimJoined
import GoSem.ClaimMapViews
import Derived.JoinedTies
import Derived.KernelRfl
namespace Go.Proofs.YtphjagkehiklkaaGreatDoor
/- THE CELL 'sum', in the pinned program and in every row, IS THE sha256 OF THE DUMP (.gsa) THAT YtphjagkehiklkaaGreatDoorProg.lean LOADS. Nothing in Lean hashes anything: it is a label: what it is worth is what the hold of that sum in a sandbox is worth. -/
noncomputable def Tryz.pinned : Pinned := { name := "ytphjagkehiklkaagreatdoor", sum := "37e4ffe656f2451ae8e33cf7a646188aa52a47c36bcfac4990a509bb6efec7e2", checked := Tryz.checked }
namespace Rows
def none {H : Type} : Left H := { results := [], args := [] }

/- WHAT THE LISTED PACKAGE-LEVEL VARIABLES READ AS WHEN THE CALL BEGINS. Each datum BY PROGRAM (the guide's laid-datum.mjs) off the statement by which the dump's own 'gosem.cut.vars' lays the variable. In a bare row this is a premise. The card (YtphjagkehiklkaaGreatDoorCards.lean) ties it to the program's text. -/
def laid_replevin_sha256_initial {H : Type} : DataW H := .agg [.lit (.int .u32 1779033703), .lit (.int .u32 3144134277), .lit (.int .u32 1013904242), .lit (.int .u32 2773480762), .lit (.int .u32 1359893119), .lit (.int .u32 2600822924), .lit (.int .u32 528734635), .lit (.int .u32 1541459225)]
def laid_replevin_sha256_constants {H : Type} : DataW H := .agg [.lit (.int .u32 1116352408), .lit (.int .u32 1899447441), .lit (.int .u32 3049323471), .lit (.int .u32 3921009573), .lit (.int .u32 961987163), .lit (.int .u32 1508970993), .lit (.int .u32 2453635748), .lit (.int .u32 2870763221), .lit (.int .u32 3624381080), .lit (.int .u32 310598401), .lit (.int .u32 607225278), .lit (.int .u32 1426881987), .lit (.int .u32 1925078388), .lit (.int .u32 2162078206), .lit (.int .u32 2614888103), .lit (.int .u32 3248222580), .lit (.int .u32 3835390401), .lit (.int .u32 4022224774), .lit (.int .u32 264347078), .lit (.int .u32 604807628), .lit (.int .u32 770255983), .lit (.int .u32 1249150122), .lit (.int .u32 1555081692), .lit (.int .u32 1996064986), .lit (.int .u32 2554220882), .lit (.int .u32 2821834349), .lit (.int .u32 2952996808), .lit (.int .u32 3210313671), .lit (.int .u32 3336571891), .lit (.int .u32 3584528711), .lit (.int .u32 113926993), .lit (.int .u32 338241895), .lit (.int .u32 666307205), .lit (.int .u32 773529912), .lit (.int .u32 1294757372), .lit (.int .u32 1396182291), .lit (.int .u32 1695183700), .lit (.int .u32 1986661051), .lit (.int .u32 2177026350), .lit (.int .u32 2456956037), .lit (.int .u32 2730485921), .lit (.int .u32 2820302411), .lit (.int .u32 3259730800), .lit (.int .u32 3345764771), .lit (.int .u32 3516065817), .lit (.int .u32 3600352804), .lit (.int .u32 4094571909), .lit (.int .u32 275423344), .lit (.int .u32 430227734), .lit (.int .u32 506948616), .lit (.int .u32 659060556), .lit (.int .u32 883997877), .lit (.int .u32 958139571), .lit (.int .u32 1322822218), .lit (.int .u32 1537002063), .lit (.int .u32 1747873779), .lit (.int .u32 1955562222), .lit (.int .u32 2024104815), .lit (.int .u32 2227730452), .lit (.int .u32 2361852424), .lit (.int .u32 2428436474), .lit (.int .u32 2756734187), .lit (.int .u32 3204031479), .lit (.int .u32 3329325298)]
def laid_replevin_object_usages {H : Type} : DataW H := .agg [.agg [.lit (.string []), .lit (.bool false), .lit (.bool false), .lit (.bool false), .lit (.bool false), .lit (.int .i64 0)], .agg [.lit (.string [112, 114, 111, 99, 101, 115, 115]), .lit (.bool true), .lit (.bool false), .lit (.bool false), .lit (.bool false), .lit (.int .i64 0)], .agg [.lit (.string [114, 101, 103, 105, 115, 116, 101, 114, 115]), .lit (.bool true), .lit (.bool false), .lit (.bool false), .lit (.bool false), .lit (.int .i64 0)], .agg [.lit (.string [112, 97, 103, 101]), .lit (.bool true), .lit (.bool false), .lit (.bool true), .lit (.bool false), .lit (.int .i64 63)], .agg [.lit (.string [116, 97, 98, 108, 101]), .lit (.bool true), .lit (.bool false), .lit (.bool false), .lit (.bool false), .lit (.int .i64 0)], .agg [.lit (.string [99, 111, 117, 110, 116, 101, 114]), .lit (.bool true), .lit (.bool false), .lit (.bool false), .lit (.bool false), .lit (.int .i64 0)], .agg [.lit (.string [112, 101, 110, 100, 105, 110, 103]), .lit (.bool true), .lit (.bool false), .lit (.bool false), .lit (.bool false), .lit (.int .i64 0)], .agg [.lit (.string [110, 111, 100, 101]), .lit (.bool true), .lit (.bool true), .lit (.bool false), .lit (.bool false), .lit (.int .i64 0)], .agg [.lit (.string [98, 108, 111, 99, 107]), .lit (.bool true), .lit (.bool true), .lit (.bool true), .lit (.bool false), .lit (.int .i64 63)], .agg [.lit (.string [101, 110, 116, 114, 121]), .lit (.bool true), .lit (.bool true), .lit (.bool false), .lit (.bool true), .lit (.int .i64 0)], .agg [.lit (.string [108, 105, 115, 116, 105, 110, 103]), .lit (.bool true), .lit (.bool true), .lit (.bool false), .lit (.bool false), .lit (.int .i64 0)], .agg [.lit (.string [112, 105, 112, 101]), .lit (.bool true), .lit (.bool true), .lit (.bool false), .lit (.bool false), .lit (.int .i64 0)], .agg [.lit (.string [108, 111, 99, 107]), .lit (.bool true), .lit (.bool true), .lit (.bool false), .lit (.bool false), .lit (.int .i64 0)], .agg [.lit (.string [116, 101, 114, 109, 105, 110, 97, 108]), .lit (.bool false), .lit (.bool true), .lit (.bool false), .lit (.bool false), .lit (.int .i64 0)], .agg [.lit (.string [97, 99, 99, 111, 117, 110, 116]), .lit (.bool false), .lit (.bool false), .lit (.bool false), .lit (.bool true), .lit (.int .i64 0)], .agg [.lit (.string [99, 108, 111, 99, 107]), .lit (.bool false), .lit (.bool false), .lit (.bool false), .lit (.bool false), .lit (.int .i64 0)], .agg [.lit (.string [112, 111, 114, 116]), .lit (.bool false), .lit (.bool true), .lit (.bool false), .lit (.bool false), .lit (.int .i64 0)], .agg [.lit (.string [98, 111, 120]), .lit (.bool false), .lit (.bool false), .lit (.bool false), .lit (.bool true), .lit (.int .i64 0)], .agg [.lit (.string [111, 117, 116]), .lit (.bool true), .lit (.bool true), .lit (.bool true), .lit (.bool false), .lit (.int .i64 1073741824)], .agg [.lit (.string [115, 104, 101, 108, 108]), .lit (.bool true), .lit (.bool false), .lit (.bool false), .lit (.bool false), .lit (.int .i64 0)], .agg [.lit (.string [101, 112, 111, 99, 104]), .lit (.bool false), .lit (.bool false), .lit (.bool false), .lit (.bool false), .lit (.int .i64 0)]]

/-- 'replevinlaw45.HistoryProofs': WHATEVER THE INPUT: true; the input reads as it did. -/
def historyProofsSpec : ChangeSpec := { name := "historyProofs", fn := fun _ => fun
  | [d1, d2, d3] => { results := [.lit (.bool true)], args := [d1, d2, d3] }
  | _ => none }
def historyProofsRow : OpenClaim := { program := "ytphjagkehiklkaagreatdoor", sum := "37e4ffe656f2451ae8e33cf7a646188aa52a47c36bcfac4990a509bb6efec7e2", func := "replevin/replevinlaw45.HistoryProofs", spec := "historyProofs", unfollowed := true, recurses := true, named := ["replevin/object.usages", "replevin/sha256.initial", "replevin/sha256.constants"], plainKeys := false, apart := false, laid := [("replevin/sha256.initial", laid_replevin_sha256_initial), ("replevin/sha256.constants", laid_replevin_sha256_constants), ("replevin/object.usages", laid_replevin_object_usages)] }
def HistoryProofsSaid : Prop := historyProofsRow.holds Tryz.pinned (OpenSpec.ofChange historyProofsSpec)

/-- ITS FALSE NEIGHBOUR: 'it returns false'. Refute it at one input. -/
def historyProofsWrong : ChangeSpec := { name := "historyProofs", fn := fun _ => fun
  | [d1, d2, d3] => { results := [.lit (.bool false)], args := [d1, d2, d3] }
  | _ => none }
def HistoryProofsWrongFalsely : Prop := historyProofsRow.holds Tryz.pinned (OpenSpec.ofChange historyProofsWrong)

/-- 'replevinlaw45.HistoryVerifies': WHATEVER THE INPUT: true; the input reads as it did. -/
def historyVerifiesSpec : ChangeSpec := { name := "historyVerifies", fn := fun _ => fun
  | [d1, d2] => { results := [.lit (.bool true)], args := [d1, d2] }
  | _ => none }
def historyVerifiesRow : OpenClaim := { program := "ytphjagkehiklkaagreatdoor", sum := "37e4ffe656f2451ae8e33cf7a646188aa52a47c36bcfac4990a509bb6efec7e2", func := "replevin/replevinlaw45.HistoryVerifies", spec := "historyVerifies", unfollowed := true, recurses := true, named := ["replevin/object.usages", "replevin/sha256.initial", "replevin/sha256.constants"], plainKeys := false, apart := false, laid := [("replevin/sha256.initial", laid_replevin_sha256_initial), ("replevin/sha256.constants", laid_replevin_sha256_constants), ("replevin/object.usages", laid_replevin_object_usages)] }
def HistoryVerifiesSaid : Prop := historyVerifiesRow.holds Tryz.pinned (OpenSpec.ofChange historyVerifiesSpec)

/-- ITS FALSE NEIGHBOUR: 'it returns false'. Refute it at one input. -/
def historyVerifiesWrong : ChangeSpec := { name := "historyVerifies", fn := fun _ => fun
  | [d1, d2] => { results := [.lit (.bool false)], args := [d1, d2] }
  | _ => none }
def HistoryVerifiesWrongFalsely : Prop := historyVerifiesRow.holds Tryz.pinned (OpenSpec.ofChange historyVerifiesWrong)

/-- 'replevinlaw45.HistoryRoots': WHATEVER THE INPUT: true; the input reads as it did. -/
def historyRootsSpec : ChangeSpec := { name := "historyRoots", fn := fun _ => fun
  | [d1, d2, d3] => { results := [.lit (.bool true)], args := [d1, d2, d3] }
  | _ => none }
def historyRootsRow : OpenClaim := { program := "ytphjagkehiklkaagreatdoor", sum := "37e4ffe656f2451ae8e33cf7a646188aa52a47c36bcfac4990a509bb6efec7e2", func := "replevin/replevinlaw45.HistoryRoots", spec := "historyRoots", unfollowed := true, recurses := true, named := ["replevin/object.usages", "replevin/sha256.initial", "replevin/sha256.constants"], plainKeys := false, apart := false, laid := [("replevin/sha256.initial", laid_replevin_sha256_initial), ("replevin/sha256.constants", laid_replevin_sha256_constants), ("replevin/object.usages", laid_replevin_object_usages)] }
def HistoryRootsSaid : Prop := historyRootsRow.holds Tryz.pinned (OpenSpec.ofChange historyRootsSpec)

/-- ITS FALSE NEIGHBOUR: 'it returns false'. Refute it at one input. -/
def historyRootsWrong : ChangeSpec := { name := "historyRoots", fn := fun _ => fun
  | [d1, d2, d3] => { results := [.lit (.bool false)], args := [d1, d2, d3] }
  | _ => none }
def HistoryRootsWrongFalsely : Prop := historyRootsRow.holds Tryz.pinned (OpenSpec.ofChange historyRootsWrong)

/-- 'replevinlaw45.HistoryForged': WHATEVER THE INPUT: true; the input reads as it did. -/
def historyForgedSpec : ChangeSpec := { name := "historyForged", fn := fun _ => fun
  | [d1, d2, d3] => { results := [.lit (.bool true)], args := [d1, d2, d3] }
  | _ => none }
def historyForgedRow : OpenClaim := { program := "ytphjagkehiklkaagreatdoor", sum := "37e4ffe656f2451ae8e33cf7a646188aa52a47c36bcfac4990a509bb6efec7e2", func := "replevin/replevinlaw45.HistoryForged", spec := "historyForged", unfollowed := true, recurses := true, named := ["replevin/object.usages", "replevin/sha256.initial", "replevin/sha256.constants"], plainKeys := false, apart := false, laid := [("replevin/sha256.initial", laid_replevin_sha256_initial), ("replevin/sha256.constants", laid_replevin_sha256_constants), ("replevin/object.usages", laid_replevin_object_usages)] }
def HistoryForgedSaid : Prop := historyForgedRow.holds Tryz.pinned (OpenSpec.ofChange historyForgedSpec)

/-- ITS FALSE NEIGHBOUR: 'it returns false'. Refute it at one input. -/
def historyForgedWrong : ChangeSpec := { name := "historyForged", fn := fun _ => fun
  | [d1, d2, d3] => { results := [.lit (.bool false)], args := [d1, d2, d3] }
  | _ => none }
def HistoryForgedWrongFalsely : Prop := historyForgedRow.holds Tryz.pinned (OpenSpec.ofChange historyForgedWrong)

/-- 'replevinlaw45.HistoryAppends': WHATEVER THE INPUT: true; the input reads as it did. -/
def historyAppendsSpec : ChangeSpec := { name := "historyAppends", fn := fun _ => fun
  | [d1, d2] => { results := [.lit (.bool true)], args := [d1, d2] }
  | _ => none }
def historyAppendsRow : OpenClaim := { program := "ytphjagkehiklkaagreatdoor", sum := "37e4ffe656f2451ae8e33cf7a646188aa52a47c36bcfac4990a509bb6efec7e2", func := "replevin/replevinlaw45.HistoryAppends", spec := "historyAppends", unfollowed := true, recurses := true, named := ["replevin/object.usages", "replevin/sha256.initial", "replevin/sha256.constants"], plainKeys := false, apart := false, laid := [("replevin/sha256.initial", laid_replevin_sha256_initial), ("replevin/sha256.constants", laid_replevin_sha256_constants), ("replevin/object.usages", laid_replevin_object_usages)] }
def HistoryAppendsSaid : Prop := historyAppendsRow.holds Tryz.pinned (OpenSpec.ofChange historyAppendsSpec)

/-- ITS FALSE NEIGHBOUR: 'it returns false'. Refute it at one input. -/
def historyAppendsWrong : ChangeSpec := { name := "historyAppends", fn := fun _ => fun
  | [d1, d2] => { results := [.lit (.bool false)], args := [d1, d2] }
  | _ => none }
def HistoryAppendsWrongFalsely : Prop := historyAppendsRow.holds Tryz.pinned (OpenSpec.ofChange historyAppendsWrong)

/-- 'replevinlaw45.HistoryExtends': WHATEVER THE INPUT: true; the input reads as it did. -/
def historyExtendsSpec : ChangeSpec := { name := "historyExtends", fn := fun _ => fun
  | [d1, d2, d3] => { results := [.lit (.bool true)], args := [d1, d2, d3] }
  | _ => none }
def historyExtendsRow : OpenClaim := { program := "ytphjagkehiklkaagreatdoor", sum := "37e4ffe656f2451ae8e33cf7a646188aa52a47c36bcfac4990a509bb6efec7e2", func := "replevin/replevinlaw45.HistoryExtends", spec := "historyExtends", unfollowed := true, recurses := true, named := ["replevin/object.usages", "replevin/sha256.initial", "replevin/sha256.constants"], plainKeys := false, apart := false, laid := [("replevin/sha256.initial", laid_replevin_sha256_initial), ("replevin/sha256.constants", laid_replevin_sha256_constants), ("replevin/object.usages", laid_replevin_object_usages)] }
def HistoryExtendsSaid : Prop := historyExtendsRow.holds Tryz.pinned (OpenSpec.ofChange historyExtendsSpec)

/-- ITS FALSE NEIGHBOUR: 'it returns false'. Refute it at one input. -/
def historyExtendsWrong : ChangeSpec := { name := "historyExtends", fn := fun _ => fun
  | [d1, d2, d3] => { results := [.lit (.bool false)], args := [d1, d2, d3] }
  | _ => none }
def HistoryExtendsWrongFalsely : Prop := historyExtendsRow.holds Tryz.pinned (OpenSpec.ofChange historyExtendsWrong)

/-- 'replevinlaw45.HistoryFinds': WHATEVER THE INPUT: true; the input reads as it did. -/
def historyFindsSpec : ChangeSpec := { name := "historyFinds", fn := fun _ => fun
  | [d1, d2, d3] => { results := [.lit (.bool true)], args := [d1, d2, d3] }
  | _ => none }
def historyFindsRow : OpenClaim := { program := "ytphjagkehiklkaagreatdoor", sum := "37e4ffe656f2451ae8e33cf7a646188aa52a47c36bcfac4990a509bb6efec7e2", func := "replevin/replevinlaw45.HistoryFinds", spec := "historyFinds", unfollowed := true, recurses := true, named := ["replevin/object.usages", "replevin/sha256.initial", "replevin/sha256.constants"], plainKeys := false, apart := false, laid := [("replevin/sha256.initial", laid_replevin_sha256_initial), ("replevin/sha256.constants", laid_replevin_sha256_constants), ("replevin/object.usages", laid_replevin_object_usages)] }
def HistoryFindsSaid : Prop := historyFindsRow.holds Tryz.pinned (OpenSpec.ofChange historyFindsSpec)

/-- ITS FALSE NEIGHBOUR: 'it returns false'. Refute it at one input. -/
def historyFindsWrong : ChangeSpec := { name := "historyFinds", fn := fun _ => fun
  | [d1, d2, d3] => { results := [.lit (.bool false)], args := [d1, d2, d3] }
  | _ => none }
def HistoryFindsWrongFalsely : Prop := historyFindsRow.holds Tryz.pinned (OpenSpec.ofChange historyFindsWrong)

/-- 'replevinlaw45.HistoryTruncates': WHATEVER THE INPUT: true; the input reads as it did. -/
def historyTruncatesSpec : ChangeSpec := { name := "historyTruncates", fn := fun _ => fun
  | [d1, d2] => { results := [.lit (.bool true)], args := [d1, d2] }
  | _ => none }
def historyTruncatesRow : OpenClaim := { program := "ytphjagkehiklkaagreatdoor", sum := "37e4ffe656f2451ae8e33cf7a646188aa52a47c36bcfac4990a509bb6efec7e2", func := "replevin/replevinlaw45.HistoryTruncates", spec := "historyTruncates", unfollowed := true, recurses := true, named := ["replevin/object.usages", "replevin/sha256.initial", "replevin/sha256.constants"], plainKeys := false, apart := false, laid := [("replevin/sha256.initial", laid_replevin_sha256_initial), ("replevin/sha256.constants", laid_replevin_sha256_constants), ("replevin/object.usages", laid_replevin_object_usages)] }
def HistoryTruncatesSaid : Prop := historyTruncatesRow.holds Tryz.pinned (OpenSpec.ofChange historyTruncatesSpec)

/-- ITS FALSE NEIGHBOUR: 'it returns false'. Refute it at one input. -/
def historyTruncatesWrong : ChangeSpec := { name := "historyTruncates", fn := fun _ => fun
  | [d1, d2] => { results := [.lit (.bool false)], args := [d1, d2] }
  | _ => none }
def HistoryTruncatesWrongFalsely : Prop := historyTruncatesRow.holds Tryz.pinned (OpenSpec.ofChange historyTruncatesWrong)

/-- 'replevinlaw45.HistoryEquals': WHATEVER THE INPUT: true; the input reads as it did. -/
def historyEqualsSpec : ChangeSpec := { name := "historyEquals", fn := fun _ => fun
  | [d1, d2, d3] => { results := [.lit (.bool true)], args := [d1, d2, d3] }
  | _ => none }
def historyEqualsRow : OpenClaim := { program := "ytphjagkehiklkaagreatdoor", sum := "37e4ffe656f2451ae8e33cf7a646188aa52a47c36bcfac4990a509bb6efec7e2", func := "replevin/replevinlaw45.HistoryEquals", spec := "historyEquals", inPlace := ["maps.clone"], unfollowed := true, recurses := true, named := ["replevin/object.usages", "replevin/sha256.initial", "replevin/sha256.constants"], plainKeys := false, apart := false, laid := [("replevin/sha256.initial", laid_replevin_sha256_initial), ("replevin/sha256.constants", laid_replevin_sha256_constants), ("replevin/object.usages", laid_replevin_object_usages)] }
def HistoryEqualsSaid : Prop := historyEqualsRow.holds Tryz.pinned (OpenSpec.ofChange historyEqualsSpec)

/-- ITS FALSE NEIGHBOUR: 'it returns false'. Refute it at one input. -/
def historyEqualsWrong : ChangeSpec := { name := "historyEquals", fn := fun _ => fun
  | [d1, d2, d3] => { results := [.lit (.bool false)], args := [d1, d2, d3] }
  | _ => none }
def HistoryEqualsWrongFalsely : Prop := historyEqualsRow.holds Tryz.pinned (OpenSpec.ofChange historyEqualsWrong)

/-- 'replevinlaw45.HistoryEncodes': WHATEVER THE INPUT: true; the input reads as it did. -/
def historyEncodesSpec : ChangeSpec := { name := "historyEncodes", fn := fun _ => fun
  | [d1, d2, d3, d4] => { results := [.lit (.bool true)], args := [d1, d2, d3, d4] }
  | _ => none }
def historyEncodesRow : OpenClaim := { program := "ytphjagkehiklkaagreatdoor", sum := "37e4ffe656f2451ae8e33cf7a646188aa52a47c36bcfac4990a509bb6efec7e2", func := "replevin/replevinlaw45.HistoryEncodes", spec := "historyEncodes", unfollowed := true, recurses := true, named := ["replevin/object.usages", "replevin/sha256.initial", "replevin/sha256.constants"], plainKeys := false, apart := false, laid := [("replevin/sha256.initial", laid_replevin_sha256_initial), ("replevin/sha256.constants", laid_replevin_sha256_constants), ("replevin/object.usages", laid_replevin_object_usages)] }
def HistoryEncodesSaid : Prop := historyEncodesRow.holds Tryz.pinned (OpenSpec.ofChange historyEncodesSpec)

/-- ITS FALSE NEIGHBOUR: 'it returns false'. Refute it at one input. -/
def historyEncodesWrong : ChangeSpec := { name := "historyEncodes", fn := fun _ => fun
  | [d1, d2, d3, d4] => { results := [.lit (.bool false)], args := [d1, d2, d3, d4] }
  | _ => none }
def HistoryEncodesWrongFalsely : Prop := historyEncodesRow.holds Tryz.pinned (OpenSpec.ofChange historyEncodesWrong)

/- THE SECOND FORM. 'bulk': how many values and letters a reading holds, each counted each time it is reached (what is shared counts as often as it is met; a slice's spare places count too). A statement '..UptoSaid' is the law's where the arguments, and the package variables that the reading takes, are together of bulk at most 1048576: NARROWER than '..Said'. Prove '..Said' where nothing that the law and all that it calls make is longer than what came in: it says more and counts as full. Else prove '..UptoSaid'. A law counts once. -/
mutual
def uptoBulk {H : Type} : DataW H → Nat
  | .lit (.string bytes) => bytes.length + 1
  | .lit _ => 1
  | .nil => 1
  | .ptr d => uptoBulk d + 1
  | .slice elems spare => uptoBulkAll elems + uptoBulkAll spare + 1
  | .agg parts => uptoBulkAll parts + 1
  | .iface _ d => uptoBulk d + 1
  | .map entries => uptoBulkEntries entries + 1
  | .held _ => 1
def uptoBulkAll {H : Type} : List (DataW H) → Nat
  | [] => 0
  | d :: r => uptoBulk d + uptoBulkAll r
def uptoBulkEntries {H : Type} : List (Lit × DataW H) → Nat
  | [] => 0
  | x :: r => uptoBulkEntry x + uptoBulkEntries r
def uptoBulkEntry {H : Type} : Lit × DataW H → Nat
  | (.string bytes, d) => bytes.length + uptoBulk d + 1
  | (_, d) => uptoBulk d + 1
 end
def uptoSmall : (H : Type) → List (DataW H) → Bool := fun _ ds => decide (uptoBulkAll ds ≤ 1048576)
def OpenSpec.upto (s : _root_.Go.ChangeSpec) : _root_.Go.OpenSpec := { _root_.Go.OpenSpec.ofChange s with cond := some uptoSmall }

/-- 'replevinlaw45.HistoryProofs', WHERE WHAT IT READS IS OF BULK AT MOST 1048576: true; the input reads as it did. -/
def historyProofsUptoRow : OpenClaim := { program := "ytphjagkehiklkaagreatdoor", sum := "37e4ffe656f2451ae8e33cf7a646188aa52a47c36bcfac4990a509bb6efec7e2", func := "replevin/replevinlaw45.HistoryProofs", spec := "historyProofs", unfollowed := true, recurses := true, named := ["replevin/object.usages", "replevin/sha256.initial", "replevin/sha256.constants"], plainKeys := false, apart := false, laid := [("replevin/sha256.initial", laid_replevin_sha256_initial), ("replevin/sha256.constants", laid_replevin_sha256_constants), ("replevin/object.usages", laid_replevin_object_usages)], narrowed := true }
def HistoryProofsUptoSaid : Prop := historyProofsUptoRow.holds Tryz.pinned (OpenSpec.upto historyProofsSpec)

/-- 'replevinlaw45.HistoryVerifies', WHERE WHAT IT READS IS OF BULK AT MOST 1048576: true; the input reads as it did. -/
def historyVerifiesUptoRow : OpenClaim := { program := "ytphjagkehiklkaagreatdoor", sum := "37e4ffe656f2451ae8e33cf7a646188aa52a47c36bcfac4990a509bb6efec7e2", func := "replevin/replevinlaw45.HistoryVerifies", spec := "historyVerifies", unfollowed := true, recurses := true, named := ["replevin/object.usages", "replevin/sha256.initial", "replevin/sha256.constants"], plainKeys := false, apart := false, laid := [("replevin/sha256.initial", laid_replevin_sha256_initial), ("replevin/sha256.constants", laid_replevin_sha256_constants), ("replevin/object.usages", laid_replevin_object_usages)], narrowed := true }
def HistoryVerifiesUptoSaid : Prop := historyVerifiesUptoRow.holds Tryz.pinned (OpenSpec.upto historyVerifiesSpec)

/-- 'replevinlaw45.HistoryRoots', WHERE WHAT IT READS IS OF BULK AT MOST 1048576: true; the input reads as it did. -/
def historyRootsUptoRow : OpenClaim := { program := "ytphjagkehiklkaagreatdoor", sum := "37e4ffe656f2451ae8e33cf7a646188aa52a47c36bcfac4990a509bb6efec7e2", func := "replevin/replevinlaw45.HistoryRoots", spec := "historyRoots", unfollowed := true, recurses := true, named := ["replevin/object.usages", "replevin/sha256.initial", "replevin/sha256.constants"], plainKeys := false, apart := false, laid := [("replevin/sha256.initial", laid_replevin_sha256_initial), ("replevin/sha256.constants", laid_replevin_sha256_constants), ("replevin/object.usages", laid_replevin_object_usages)], narrowed := true }
def HistoryRootsUptoSaid : Prop := historyRootsUptoRow.holds Tryz.pinned (OpenSpec.upto historyRootsSpec)

/-- 'replevinlaw45.HistoryForged', WHERE WHAT IT READS IS OF BULK AT MOST 1048576: true; the input reads as it did. -/
def historyForgedUptoRow : OpenClaim := { program := "ytphjagkehiklkaagreatdoor", sum := "37e4ffe656f2451ae8e33cf7a646188aa52a47c36bcfac4990a509bb6efec7e2", func := "replevin/replevinlaw45.HistoryForged", spec := "historyForged", unfollowed := true, recurses := true, named := ["replevin/object.usages", "replevin/sha256.initial", "replevin/sha256.constants"], plainKeys := false, apart := false, laid := [("replevin/sha256.initial", laid_replevin_sha256_initial), ("replevin/sha256.constants", laid_replevin_sha256_constants), ("replevin/object.usages", laid_replevin_object_usages)], narrowed := true }
def HistoryForgedUptoSaid : Prop := historyForgedUptoRow.holds Tryz.pinned (OpenSpec.upto historyForgedSpec)

/-- 'replevinlaw45.HistoryAppends', WHERE WHAT IT READS IS OF BULK AT MOST 1048576: true; the input reads as it did. -/
def historyAppendsUptoRow : OpenClaim := { program := "ytphjagkehiklkaagreatdoor", sum := "37e4ffe656f2451ae8e33cf7a646188aa52a47c36bcfac4990a509bb6efec7e2", func := "replevin/replevinlaw45.HistoryAppends", spec := "historyAppends", unfollowed := true, recurses := true, named := ["replevin/object.usages", "replevin/sha256.initial", "replevin/sha256.constants"], plainKeys := false, apart := false, laid := [("replevin/sha256.initial", laid_replevin_sha256_initial), ("replevin/sha256.constants", laid_replevin_sha256_constants), ("replevin/object.usages", laid_replevin_object_usages)], narrowed := true }
def HistoryAppendsUptoSaid : Prop := historyAppendsUptoRow.holds Tryz.pinned (OpenSpec.upto historyAppendsSpec)

/-- 'replevinlaw45.HistoryExtends', WHERE WHAT IT READS IS OF BULK AT MOST 1048576: true; the input reads as it did. -/
def historyExtendsUptoRow : OpenClaim := { program := "ytphjagkehiklkaagreatdoor", sum := "37e4ffe656f2451ae8e33cf7a646188aa52a47c36bcfac4990a509bb6efec7e2", func := "replevin/replevinlaw45.HistoryExtends", spec := "historyExtends", unfollowed := true, recurses := true, named := ["replevin/object.usages", "replevin/sha256.initial", "replevin/sha256.constants"], plainKeys := false, apart := false, laid := [("replevin/sha256.initial", laid_replevin_sha256_initial), ("replevin/sha256.constants", laid_replevin_sha256_constants), ("replevin/object.usages", laid_replevin_object_usages)], narrowed := true }
def HistoryExtendsUptoSaid : Prop := historyExtendsUptoRow.holds Tryz.pinned (OpenSpec.upto historyExtendsSpec)

/-- 'replevinlaw45.HistoryFinds', WHERE WHAT IT READS IS OF BULK AT MOST 1048576: true; the input reads as it did. -/
def historyFindsUptoRow : OpenClaim := { program := "ytphjagkehiklkaagreatdoor", sum := "37e4ffe656f2451ae8e33cf7a646188aa52a47c36bcfac4990a509bb6efec7e2", func := "replevin/replevinlaw45.HistoryFinds", spec := "historyFinds", unfollowed := true, recurses := true, named := ["replevin/object.usages", "replevin/sha256.initial", "replevin/sha256.constants"], plainKeys := false, apart := false, laid := [("replevin/sha256.initial", laid_replevin_sha256_initial), ("replevin/sha256.constants", laid_replevin_sha256_constants), ("replevin/object.usages", laid_replevin_object_usages)], narrowed := true }
def HistoryFindsUptoSaid : Prop := historyFindsUptoRow.holds Tryz.pinned (OpenSpec.upto historyFindsSpec)

/-- 'replevinlaw45.HistoryTruncates', WHERE WHAT IT READS IS OF BULK AT MOST 1048576: true; the input reads as it did. -/
def historyTruncatesUptoRow : OpenClaim := { program := "ytphjagkehiklkaagreatdoor", sum := "37e4ffe656f2451ae8e33cf7a646188aa52a47c36bcfac4990a509bb6efec7e2", func := "replevin/replevinlaw45.HistoryTruncates", spec := "historyTruncates", unfollowed := true, recurses := true, named := ["replevin/object.usages", "replevin/sha256.initial", "replevin/sha256.constants"], plainKeys := false, apart := false, laid := [("replevin/sha256.initial", laid_replevin_sha256_initial), ("replevin/sha256.constants", laid_replevin_sha256_constants), ("replevin/object.usages", laid_replevin_object_usages)], narrowed := true }
def HistoryTruncatesUptoSaid : Prop := historyTruncatesUptoRow.holds Tryz.pinned (OpenSpec.upto historyTruncatesSpec)

/-- 'replevinlaw45.HistoryEquals', WHERE WHAT IT READS IS OF BULK AT MOST 1048576: true; the input reads as it did. -/
def historyEqualsUptoRow : OpenClaim := { program := "ytphjagkehiklkaagreatdoor", sum := "37e4ffe656f2451ae8e33cf7a646188aa52a47c36bcfac4990a509bb6efec7e2", func := "replevin/replevinlaw45.HistoryEquals", spec := "historyEquals", inPlace := ["maps.clone"], unfollowed := true, recurses := true, named := ["replevin/object.usages", "replevin/sha256.initial", "replevin/sha256.constants"], plainKeys := false, apart := false, laid := [("replevin/sha256.initial", laid_replevin_sha256_initial), ("replevin/sha256.constants", laid_replevin_sha256_constants), ("replevin/object.usages", laid_replevin_object_usages)], narrowed := true }
def HistoryEqualsUptoSaid : Prop := historyEqualsUptoRow.holds Tryz.pinned (OpenSpec.upto historyEqualsSpec)

/-- 'replevinlaw45.HistoryEncodes', WHERE WHAT IT READS IS OF BULK AT MOST 1048576: true; the input reads as it did. -/
def historyEncodesUptoRow : OpenClaim := { program := "ytphjagkehiklkaagreatdoor", sum := "37e4ffe656f2451ae8e33cf7a646188aa52a47c36bcfac4990a509bb6efec7e2", func := "replevin/replevinlaw45.HistoryEncodes", spec := "historyEncodes", unfollowed := true, recurses := true, named := ["replevin/object.usages", "replevin/sha256.initial", "replevin/sha256.constants"], plainKeys := false, apart := false, laid := [("replevin/sha256.initial", laid_replevin_sha256_initial), ("replevin/sha256.constants", laid_replevin_sha256_constants), ("replevin/object.usages", laid_replevin_object_usages)], narrowed := true }
def HistoryEncodesUptoSaid : Prop := historyEncodesUptoRow.holds Tryz.pinned (OpenSpec.upto historyEncodesSpec)

end Rows
end Go.Proofs.YtphjagkehiklkaaGreatDoor
