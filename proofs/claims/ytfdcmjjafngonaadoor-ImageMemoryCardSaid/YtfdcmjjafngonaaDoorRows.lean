/-
  NARROWER THAN 'FOR EVERY INPUT', by the rows' own cells (each row's printed sentence says how): ImageChecks: laid · ImagePlaces: laid · ImageEncodes: laid · ImageDecodes: laid · ImageSpoils: laid · ImageCuts: laid · ImageMemory: laid · ImageLoads: laid.
  DERIVED. THE GIVEN ROWS OF THIS SEAT. 8 by the template 'for every input the law returns true; each argument reads behind the call as it read before'; 0 by the template 'total and deterministic' (their statements: YtfdcmjjafngonaaDoorTotals.lean).
  GIVEN WITH THE SEED: the statements are not yours to turn. If you find one false, say at which input.
  Laid BY PROGRAM, IN A SANDBOX (cutbox-rows.mjs): the forced cells as the released guide's own fill.sh prints them over the translation 53c6b9a894e3120c… (all of the seat's roots in one cut). By AI agents, Wed Nov 11 2026. No macro, syntax, notation, axiom, sorry.
-/
import Derived.Test.YtfdcmjjafngonaaDoorChecked
import GoSem.Claim
import GoSem.ClaimJoined
import GoSem.ClaimMapViews
import Derived.JoinedTies
import Derived.KernelRfl
namespace Go.Proofs.YtfdcmjjafngonaaDoor
/- THE CELL 'sum', in the pinned program and in every row, IS THE sha256 OF THE DUMP (.gsa) THAT YtfdcmjjafngonaaDoorProg.lean LOADS. Nothing in Lean hashes anything: it is a label: what it is worth is what the hold of that sum in a sandbox is worth. -/
noncomputable def Tryd.pinned : Pinned := { name := "ytfdcmjjafngonaadoor", sum := "53c6b9a894e3120c621486f206687adc5e8af59d0dcc2fdddd4879446b6b278e", checked := Tryd.checked }
namespace Rows
def none {H : Type} : Left H := { results := [], args := [] }

/- WHAT THE LISTED PACKAGE-LEVEL VARIABLES READ AS WHEN THE CALL BEGINS. Each datum BY PROGRAM (the guide's laid-datum.mjs) off the statement by which the dump's own 'gosem.cut.vars' lays the variable. In a bare row this is a premise. The card (YtfdcmjjafngonaaDoorCards.lean) ties it to the program's text. -/
def laid_replevin_sha256_initial {H : Type} : DataW H := .agg [.lit (.int .u32 1779033703), .lit (.int .u32 3144134277), .lit (.int .u32 1013904242), .lit (.int .u32 2773480762), .lit (.int .u32 1359893119), .lit (.int .u32 2600822924), .lit (.int .u32 528734635), .lit (.int .u32 1541459225)]
def laid_replevin_sha256_constants {H : Type} : DataW H := .agg [.lit (.int .u32 1116352408), .lit (.int .u32 1899447441), .lit (.int .u32 3049323471), .lit (.int .u32 3921009573), .lit (.int .u32 961987163), .lit (.int .u32 1508970993), .lit (.int .u32 2453635748), .lit (.int .u32 2870763221), .lit (.int .u32 3624381080), .lit (.int .u32 310598401), .lit (.int .u32 607225278), .lit (.int .u32 1426881987), .lit (.int .u32 1925078388), .lit (.int .u32 2162078206), .lit (.int .u32 2614888103), .lit (.int .u32 3248222580), .lit (.int .u32 3835390401), .lit (.int .u32 4022224774), .lit (.int .u32 264347078), .lit (.int .u32 604807628), .lit (.int .u32 770255983), .lit (.int .u32 1249150122), .lit (.int .u32 1555081692), .lit (.int .u32 1996064986), .lit (.int .u32 2554220882), .lit (.int .u32 2821834349), .lit (.int .u32 2952996808), .lit (.int .u32 3210313671), .lit (.int .u32 3336571891), .lit (.int .u32 3584528711), .lit (.int .u32 113926993), .lit (.int .u32 338241895), .lit (.int .u32 666307205), .lit (.int .u32 773529912), .lit (.int .u32 1294757372), .lit (.int .u32 1396182291), .lit (.int .u32 1695183700), .lit (.int .u32 1986661051), .lit (.int .u32 2177026350), .lit (.int .u32 2456956037), .lit (.int .u32 2730485921), .lit (.int .u32 2820302411), .lit (.int .u32 3259730800), .lit (.int .u32 3345764771), .lit (.int .u32 3516065817), .lit (.int .u32 3600352804), .lit (.int .u32 4094571909), .lit (.int .u32 275423344), .lit (.int .u32 430227734), .lit (.int .u32 506948616), .lit (.int .u32 659060556), .lit (.int .u32 883997877), .lit (.int .u32 958139571), .lit (.int .u32 1322822218), .lit (.int .u32 1537002063), .lit (.int .u32 1747873779), .lit (.int .u32 1955562222), .lit (.int .u32 2024104815), .lit (.int .u32 2227730452), .lit (.int .u32 2361852424), .lit (.int .u32 2428436474), .lit (.int .u32 2756734187), .lit (.int .u32 3204031479), .lit (.int .u32 3329325298)]

/-- 'replevinlaw20.ImageChecks': WHATEVER THE INPUT: true; the input reads as it did. -/
def imageChecksSpec : ChangeSpec := { name := "imageChecks", fn := fun _ => fun
  | [d] => { results := [.lit (.bool true)], args := [d] }
  | _ => none }
def imageChecksRow : OpenClaim := { program := "ytfdcmjjafngonaadoor", sum := "53c6b9a894e3120c621486f206687adc5e8af59d0dcc2fdddd4879446b6b278e", func := "replevin/replevinlaw20.ImageChecks", spec := "imageChecks", inPlace := ["internal/abi.NoEscape", "internal/bytealg.MakeNoZero"], unfollowed := true, recurses := true, named := ["replevin/sha256.initial", "replevin/sha256.constants"], apart := false, laid := [("replevin/sha256.initial", laid_replevin_sha256_initial), ("replevin/sha256.constants", laid_replevin_sha256_constants)] }
def ImageChecksSaid : Prop := imageChecksRow.holds Tryd.pinned (OpenSpec.ofChange imageChecksSpec)

/-- ITS FALSE NEIGHBOUR: 'it returns false'. Refute it at one input. -/
def imageChecksWrong : ChangeSpec := { name := "imageChecks", fn := fun _ => fun
  | [d] => { results := [.lit (.bool false)], args := [d] }
  | _ => none }
def ImageChecksWrongFalsely : Prop := imageChecksRow.holds Tryd.pinned (OpenSpec.ofChange imageChecksWrong)

/-- 'replevinlaw20.ImagePlaces': WHATEVER THE INPUT: true; the input reads as it did. -/
def imagePlacesSpec : ChangeSpec := { name := "imagePlaces", fn := fun _ => fun
  | [d] => { results := [.lit (.bool true)], args := [d] }
  | _ => none }
def imagePlacesRow : OpenClaim := { program := "ytfdcmjjafngonaadoor", sum := "53c6b9a894e3120c621486f206687adc5e8af59d0dcc2fdddd4879446b6b278e", func := "replevin/replevinlaw20.ImagePlaces", spec := "imagePlaces", inPlace := ["internal/abi.NoEscape", "internal/bytealg.MakeNoZero"], unfollowed := true, recurses := true, named := ["replevin/sha256.initial", "replevin/sha256.constants"], apart := false, laid := [("replevin/sha256.initial", laid_replevin_sha256_initial), ("replevin/sha256.constants", laid_replevin_sha256_constants)] }
def ImagePlacesSaid : Prop := imagePlacesRow.holds Tryd.pinned (OpenSpec.ofChange imagePlacesSpec)

/-- ITS FALSE NEIGHBOUR: 'it returns false'. Refute it at one input. -/
def imagePlacesWrong : ChangeSpec := { name := "imagePlaces", fn := fun _ => fun
  | [d] => { results := [.lit (.bool false)], args := [d] }
  | _ => none }
def ImagePlacesWrongFalsely : Prop := imagePlacesRow.holds Tryd.pinned (OpenSpec.ofChange imagePlacesWrong)

/-- 'replevinlaw20.ImageEncodes': WHATEVER THE INPUT: true; the input reads as it did. -/
def imageEncodesSpec : ChangeSpec := { name := "imageEncodes", fn := fun _ => fun
  | [d] => { results := [.lit (.bool true)], args := [d] }
  | _ => none }
def imageEncodesRow : OpenClaim := { program := "ytfdcmjjafngonaadoor", sum := "53c6b9a894e3120c621486f206687adc5e8af59d0dcc2fdddd4879446b6b278e", func := "replevin/replevinlaw20.ImageEncodes", spec := "imageEncodes", inPlace := ["internal/abi.NoEscape", "internal/bytealg.MakeNoZero"], unfollowed := true, recurses := true, named := ["replevin/sha256.initial", "replevin/sha256.constants"], apart := false, laid := [("replevin/sha256.initial", laid_replevin_sha256_initial), ("replevin/sha256.constants", laid_replevin_sha256_constants)] }
def ImageEncodesSaid : Prop := imageEncodesRow.holds Tryd.pinned (OpenSpec.ofChange imageEncodesSpec)

/-- ITS FALSE NEIGHBOUR: 'it returns false'. Refute it at one input. -/
def imageEncodesWrong : ChangeSpec := { name := "imageEncodes", fn := fun _ => fun
  | [d] => { results := [.lit (.bool false)], args := [d] }
  | _ => none }
def ImageEncodesWrongFalsely : Prop := imageEncodesRow.holds Tryd.pinned (OpenSpec.ofChange imageEncodesWrong)

/-- 'replevinlaw20.ImageDecodes': WHATEVER THE INPUT: true; the input reads as it did. -/
def imageDecodesSpec : ChangeSpec := { name := "imageDecodes", fn := fun _ => fun
  | [d] => { results := [.lit (.bool true)], args := [d] }
  | _ => none }
def imageDecodesRow : OpenClaim := { program := "ytfdcmjjafngonaadoor", sum := "53c6b9a894e3120c621486f206687adc5e8af59d0dcc2fdddd4879446b6b278e", func := "replevin/replevinlaw20.ImageDecodes", spec := "imageDecodes", inPlace := ["internal/abi.NoEscape", "internal/bytealg.MakeNoZero"], unfollowed := true, recurses := true, named := ["replevin/sha256.initial", "replevin/sha256.constants"], apart := false, laid := [("replevin/sha256.initial", laid_replevin_sha256_initial), ("replevin/sha256.constants", laid_replevin_sha256_constants)] }
def ImageDecodesSaid : Prop := imageDecodesRow.holds Tryd.pinned (OpenSpec.ofChange imageDecodesSpec)

/-- ITS FALSE NEIGHBOUR: 'it returns false'. Refute it at one input. -/
def imageDecodesWrong : ChangeSpec := { name := "imageDecodes", fn := fun _ => fun
  | [d] => { results := [.lit (.bool false)], args := [d] }
  | _ => none }
def ImageDecodesWrongFalsely : Prop := imageDecodesRow.holds Tryd.pinned (OpenSpec.ofChange imageDecodesWrong)

/-- 'replevinlaw20.ImageSpoils': WHATEVER THE INPUT: true; the input reads as it did. -/
def imageSpoilsSpec : ChangeSpec := { name := "imageSpoils", fn := fun _ => fun
  | [d1, d2, d3] => { results := [.lit (.bool true)], args := [d1, d2, d3] }
  | _ => none }
def imageSpoilsRow : OpenClaim := { program := "ytfdcmjjafngonaadoor", sum := "53c6b9a894e3120c621486f206687adc5e8af59d0dcc2fdddd4879446b6b278e", func := "replevin/replevinlaw20.ImageSpoils", spec := "imageSpoils", inPlace := ["internal/abi.NoEscape", "internal/bytealg.MakeNoZero"], unfollowed := true, recurses := true, named := ["replevin/sha256.initial", "replevin/sha256.constants"], apart := false, laid := [("replevin/sha256.initial", laid_replevin_sha256_initial), ("replevin/sha256.constants", laid_replevin_sha256_constants)] }
def ImageSpoilsSaid : Prop := imageSpoilsRow.holds Tryd.pinned (OpenSpec.ofChange imageSpoilsSpec)

/-- ITS FALSE NEIGHBOUR: 'it returns false'. Refute it at one input. -/
def imageSpoilsWrong : ChangeSpec := { name := "imageSpoils", fn := fun _ => fun
  | [d1, d2, d3] => { results := [.lit (.bool false)], args := [d1, d2, d3] }
  | _ => none }
def ImageSpoilsWrongFalsely : Prop := imageSpoilsRow.holds Tryd.pinned (OpenSpec.ofChange imageSpoilsWrong)

/-- 'replevinlaw20.ImageCuts': WHATEVER THE INPUT: true; the input reads as it did. -/
def imageCutsSpec : ChangeSpec := { name := "imageCuts", fn := fun _ => fun
  | [d1, d2, d3] => { results := [.lit (.bool true)], args := [d1, d2, d3] }
  | _ => none }
def imageCutsRow : OpenClaim := { program := "ytfdcmjjafngonaadoor", sum := "53c6b9a894e3120c621486f206687adc5e8af59d0dcc2fdddd4879446b6b278e", func := "replevin/replevinlaw20.ImageCuts", spec := "imageCuts", inPlace := ["internal/abi.NoEscape", "internal/bytealg.MakeNoZero"], unfollowed := true, recurses := true, named := ["replevin/sha256.initial", "replevin/sha256.constants"], apart := false, laid := [("replevin/sha256.initial", laid_replevin_sha256_initial), ("replevin/sha256.constants", laid_replevin_sha256_constants)] }
def ImageCutsSaid : Prop := imageCutsRow.holds Tryd.pinned (OpenSpec.ofChange imageCutsSpec)

/-- ITS FALSE NEIGHBOUR: 'it returns false'. Refute it at one input. -/
def imageCutsWrong : ChangeSpec := { name := "imageCuts", fn := fun _ => fun
  | [d1, d2, d3] => { results := [.lit (.bool false)], args := [d1, d2, d3] }
  | _ => none }
def ImageCutsWrongFalsely : Prop := imageCutsRow.holds Tryd.pinned (OpenSpec.ofChange imageCutsWrong)

/-- 'replevinlaw20.ImageMemory': WHATEVER THE INPUT: true; the input reads as it did. -/
def imageMemorySpec : ChangeSpec := { name := "imageMemory", fn := fun _ => fun
  | [d] => { results := [.lit (.bool true)], args := [d] }
  | _ => none }
def imageMemoryRow : OpenClaim := { program := "ytfdcmjjafngonaadoor", sum := "53c6b9a894e3120c621486f206687adc5e8af59d0dcc2fdddd4879446b6b278e", func := "replevin/replevinlaw20.ImageMemory", spec := "imageMemory", inPlace := ["internal/abi.NoEscape", "internal/bytealg.MakeNoZero"], unfollowed := true, recurses := true, named := ["replevin/sha256.initial", "replevin/sha256.constants"], apart := false, laid := [("replevin/sha256.initial", laid_replevin_sha256_initial), ("replevin/sha256.constants", laid_replevin_sha256_constants)] }
def ImageMemorySaid : Prop := imageMemoryRow.holds Tryd.pinned (OpenSpec.ofChange imageMemorySpec)

/-- ITS FALSE NEIGHBOUR: 'it returns false'. Refute it at one input. -/
def imageMemoryWrong : ChangeSpec := { name := "imageMemory", fn := fun _ => fun
  | [d] => { results := [.lit (.bool false)], args := [d] }
  | _ => none }
def ImageMemoryWrongFalsely : Prop := imageMemoryRow.holds Tryd.pinned (OpenSpec.ofChange imageMemoryWrong)

/-- 'replevinlaw20.ImageLoads': WHATEVER THE INPUT: true; the input reads as it did. -/
def imageLoadsSpec : ChangeSpec := { name := "imageLoads", fn := fun _ => fun
  | [d] => { results := [.lit (.bool true)], args := [d] }
  | _ => none }
def imageLoadsRow : OpenClaim := { program := "ytfdcmjjafngonaadoor", sum := "53c6b9a894e3120c621486f206687adc5e8af59d0dcc2fdddd4879446b6b278e", func := "replevin/replevinlaw20.ImageLoads", spec := "imageLoads", inPlace := ["internal/abi.NoEscape", "internal/bytealg.MakeNoZero"], unfollowed := true, recurses := true, named := ["replevin/sha256.initial", "replevin/sha256.constants"], apart := false, laid := [("replevin/sha256.initial", laid_replevin_sha256_initial), ("replevin/sha256.constants", laid_replevin_sha256_constants)] }
def ImageLoadsSaid : Prop := imageLoadsRow.holds Tryd.pinned (OpenSpec.ofChange imageLoadsSpec)

/-- ITS FALSE NEIGHBOUR: 'it returns false'. Refute it at one input. -/
def imageLoadsWrong : ChangeSpec := { name := "imageLoads", fn := fun _ => fun
  | [d] => { results := [.lit (.bool false)], args := [d] }
  | _ => none }
def ImageLoadsWrongFalsely : Prop := imageLoadsRow.holds Tryd.pinned (OpenSpec.ofChange imageLoadsWrong)

/- THE SECOND FORM. 'bulk': how many values and letters a reading holds, each counted each time it is reached (what is shared counts as often as it is met; a slice's spare places count too). A statement '..UptoSaid' is the law's where the arguments, and the package variables that the reading takes, are together of bulk at most 1048576: NARROWER than '..Said'. Prove '..Said' where nothing that the law and all that it calls make is longer than what came in: it says more and counts as full. Else prove '..UptoSaid'. A law counts once. -/
mutual
def uptoBulk {H : Type} : DataW H → Nat
  | .lit (.string bytes) => bytes.length + 1
  | .lit _ => 1
  | .nil => 1
  | .ptr d => uptoBulk d + 1
  | .slice elems spare => uptoBulkAll elems + uptoBulkAll spare + 1
  | .agg parts => uptoBulkAll parts + 1
  | .iface _ d => uptoBulk d + 1
  | .map entries => uptoBulkEntries entries + 1
  | .held _ => 1
def uptoBulkAll {H : Type} : List (DataW H) → Nat
  | [] => 0
  | d :: r => uptoBulk d + uptoBulkAll r
def uptoBulkEntries {H : Type} : List (Lit × DataW H) → Nat
  | [] => 0
  | x :: r => uptoBulkEntry x + uptoBulkEntries r
def uptoBulkEntry {H : Type} : Lit × DataW H → Nat
  | (.string bytes, d) => bytes.length + uptoBulk d + 1
  | (_, d) => uptoBulk d + 1
 end
def uptoSmall : (H : Type) → List (DataW H) → Bool := fun _ ds => decide (uptoBulkAll ds ≤ 1048576)
def OpenSpec.upto (s : _root_.Go.ChangeSpec) : _root_.Go.OpenSpec := { _root_.Go.OpenSpec.ofChange s with cond := some uptoSmall }

/-- 'replevinlaw20.ImageChecks', WHERE WHAT IT READS IS OF BULK AT MOST 1048576: true; the input reads as it did. -/
def imageChecksUptoRow : OpenClaim := { program := "ytfdcmjjafngonaadoor", sum := "53c6b9a894e3120c621486f206687adc5e8af59d0dcc2fdddd4879446b6b278e", func := "replevin/replevinlaw20.ImageChecks", spec := "imageChecks", inPlace := ["internal/abi.NoEscape", "internal/bytealg.MakeNoZero"], unfollowed := true, recurses := true, named := ["replevin/sha256.initial", "replevin/sha256.constants"], apart := false, laid := [("replevin/sha256.initial", laid_replevin_sha256_initial), ("replevin/sha256.constants", laid_replevin_sha256_constants)], narrowed := true }
def ImageChecksUptoSaid : Prop := imageChecksUptoRow.holds Tryd.pinned (OpenSpec.upto imageChecksSpec)

/-- 'replevinlaw20.ImagePlaces', WHERE WHAT IT READS IS OF BULK AT MOST 1048576: true; the input reads as it did. -/
def imagePlacesUptoRow : OpenClaim := { program := "ytfdcmjjafngonaadoor", sum := "53c6b9a894e3120c621486f206687adc5e8af59d0dcc2fdddd4879446b6b278e", func := "replevin/replevinlaw20.ImagePlaces", spec := "imagePlaces", inPlace := ["internal/abi.NoEscape", "internal/bytealg.MakeNoZero"], unfollowed := true, recurses := true, named := ["replevin/sha256.initial", "replevin/sha256.constants"], apart := false, laid := [("replevin/sha256.initial", laid_replevin_sha256_initial), ("replevin/sha256.constants", laid_replevin_sha256_constants)], narrowed := true }
def ImagePlacesUptoSaid : Prop := imagePlacesUptoRow.holds Tryd.pinned (OpenSpec.upto imagePlacesSpec)

/-- 'replevinlaw20.ImageEncodes', WHERE WHAT IT READS IS OF BULK AT MOST 1048576: true; the input reads as it did. -/
def imageEncodesUptoRow : OpenClaim := { program := "ytfdcmjjafngonaadoor", sum := "53c6b9a894e3120c621486f206687adc5e8af59d0dcc2fdddd4879446b6b278e", func := "replevin/replevinlaw20.ImageEncodes", spec := "imageEncodes", inPlace := ["internal/abi.NoEscape", "internal/bytealg.MakeNoZero"], unfollowed := true, recurses := true, named := ["replevin/sha256.initial", "replevin/sha256.constants"], apart := false, laid := [("replevin/sha256.initial", laid_replevin_sha256_initial), ("replevin/sha256.constants", laid_replevin_sha256_constants)], narrowed := true }
def ImageEncodesUptoSaid : Prop := imageEncodesUptoRow.holds Tryd.pinned (OpenSpec.upto imageEncodesSpec)

/-- 'replevinlaw20.ImageDecodes', WHERE WHAT IT READS IS OF BULK AT MOST 1048576: true; the input reads as it did. -/
def imageDecodesUptoRow : OpenClaim := { program := "ytfdcmjjafngonaadoor", sum := "53c6b9a894e3120c621486f206687adc5e8af59d0dcc2fdddd4879446b6b278e", func := "replevin/replevinlaw20.ImageDecodes", spec := "imageDecodes", inPlace := ["internal/abi.NoEscape", "internal/bytealg.MakeNoZero"], unfollowed := true, recurses := true, named := ["replevin/sha256.initial", "replevin/sha256.constants"], apart := false, laid := [("replevin/sha256.initial", laid_replevin_sha256_initial), ("replevin/sha256.constants", laid_replevin_sha256_constants)], narrowed := true }
def ImageDecodesUptoSaid : Prop := imageDecodesUptoRow.holds Tryd.pinned (OpenSpec.upto imageDecodesSpec)

/-- 'replevinlaw20.ImageSpoils', WHERE WHAT IT READS IS OF BULK AT MOST 1048576: true; the input reads as it did. -/
def imageSpoilsUptoRow : OpenClaim := { program := "ytfdcmjjafngonaadoor", sum := "53c6b9a894e3120c621486f206687adc5e8af59d0dcc2fdddd4879446b6b278e", func := "replevin/replevinlaw20.ImageSpoils", spec := "imageSpoils", inPlace := ["internal/abi.NoEscape", "internal/bytealg.MakeNoZero"], unfollowed := true, recurses := true, named := ["replevin/sha256.initial", "replevin/sha256.constants"], apart := false, laid := [("replevin/sha256.initial", laid_replevin_sha256_initial), ("replevin/sha256.constants", laid_replevin_sha256_constants)], narrowed := true }
def ImageSpoilsUptoSaid : Prop := imageSpoilsUptoRow.holds Tryd.pinned (OpenSpec.upto imageSpoilsSpec)

/-- 'replevinlaw20.ImageCuts', WHERE WHAT IT READS IS OF BULK AT MOST 1048576: true; the input reads as it did. -/
def imageCutsUptoRow : OpenClaim := { program := "ytfdcmjjafngonaadoor", sum := "53c6b9a894e3120c621486f206687adc5e8af59d0dcc2fdddd4879446b6b278e", func := "replevin/replevinlaw20.ImageCuts", spec := "imageCuts", inPlace := ["internal/abi.NoEscape", "internal/bytealg.MakeNoZero"], unfollowed := true, recurses := true, named := ["replevin/sha256.initial", "replevin/sha256.constants"], apart := false, laid := [("replevin/sha256.initial", laid_replevin_sha256_initial), ("replevin/sha256.constants", laid_replevin_sha256_constants)], narrowed := true }
def ImageCutsUptoSaid : Prop := imageCutsUptoRow.holds Tryd.pinned (OpenSpec.upto imageCutsSpec)

/-- 'replevinlaw20.ImageMemory', WHERE WHAT IT READS IS OF BULK AT MOST 1048576: true; the input reads as it did. -/
def imageMemoryUptoRow : OpenClaim := { program := "ytfdcmjjafngonaadoor", sum := "53c6b9a894e3120c621486f206687adc5e8af59d0dcc2fdddd4879446b6b278e", func := "replevin/replevinlaw20.ImageMemory", spec := "imageMemory", inPlace := ["internal/abi.NoEscape", "internal/bytealg.MakeNoZero"], unfollowed := true, recurses := true, named := ["replevin/sha256.initial", "replevin/sha256.constants"], apart := false, laid := [("replevin/sha256.initial", laid_replevin_sha256_initial), ("replevin/sha256.constants", laid_replevin_sha256_constants)], narrowed := true }
def ImageMemoryUptoSaid : Prop := imageMemoryUptoRow.holds Tryd.pinned (OpenSpec.upto imageMemorySpec)

/-- 'replevinlaw20.ImageLoads', WHERE WHAT IT READS IS OF BULK AT MOST 1048576: true; the input reads as it did. -/
def imageLoadsUptoRow : OpenClaim := { program := "ytfdcmjjafngonaadoor", sum := "53c6b9a894e3120c621486f206687adc5e8af59d0dcc2fdddd4879446b6b278e", func := "replevin/replevinlaw20.ImageLoads", spec := "imageLoads", inPlace := ["internal/abi.NoEscape", "internal/bytealg.MakeNoZero"], unfollowed := true, recurses := true, named := ["replevin/sha256.initial", "replevin/sha256.constants"], apart := false, laid := [("replevin/sha256.initial", laid_replevin_sha256_initial), ("replevin/sha256.constants", laid_replevin_sha256_constants)], narrowed := true }
def ImageLoadsUptoSaid : Prop := imageLoadsUptoRow.holds Tryd.pinned (OpenSpec.upto imageLoadsSpec)

end Rows
end Go.Proofs.YtfdcmjjafngonaaDoor
