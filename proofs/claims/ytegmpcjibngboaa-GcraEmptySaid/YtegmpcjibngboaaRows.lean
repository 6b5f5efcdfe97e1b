/-
  No cell of these rows narrows 'for every input' (looked for: loops, veiled, ifaces, maps, wideKeys, modest, calm, conditions, laid).
  DERIVED. THE GIVEN ROWS OF THIS SEAT. 18 by the template 'for every input the law returns true; each argument reads behind the call as it read before'; 0 by the template 'total and deterministic' (their statements: YtegmpcjibngboaaTotals.lean).
  GIVEN WITH THE SEED: the statements are not yours to turn. If you find one false, say at which input.
  Laid BY PROGRAM, IN A SANDBOX (cutbox-rows.mjs): the forced cells as the released guide's own fill.sh prints them over the translation 7612289978b9a6e3… (all of the seat's roots in one cut). By AI agents, Wed Nov 11 2026. No macro, syntax, notation, axiom, sorry.
-/
import Derived.Test.YtegmpcjibngboaaChecked
import GoSem.Claim
import GoSem.ClaimJoined
import GoSem.ClaimMapViews
import Derived.JoinedTies
import Derived.KernelRfl
namespace Go.Proofs.Ytegmpcjibngboaa
/- THE CELL 'sum', in the pinned program and in every row, IS THE sha256 OF THE DUMP (.gsa) THAT YtegmpcjibngboaaProg.lean LOADS. Nothing in Lean hashes anything: it is a label: what it is worth is what the hold of that sum in a sandbox is worth. -/
noncomputable def Try.pinned : Pinned := { name := "ytegmpcjibngboaa", sum := "7612289978b9a6e30e08607d1e97a1ebbdbd99d0e3480b0d84f0f5ba27e561da", checked := Try.checked }
namespace Rows
def none {H : Type} : Left H := { results := [], args := [] }

/-- 'tollerlaw05.BucketAsks': WHATEVER THE INPUT: true; the input reads as it did. -/
def bucketAsksSpec : ChangeSpec := { name := "bucketAsks", fn := fun _ => fun
  | [d1, d2, d3, d4, d5, d6, d7, d8, d9] => { results := [.lit (.bool true)], args := [d1, d2, d3, d4, d5, d6, d7, d8, d9] }
  | _ => none }
def bucketAsksRow : OpenClaim := { program := "ytegmpcjibngboaa", sum := "7612289978b9a6e30e08607d1e97a1ebbdbd99d0e3480b0d84f0f5ba27e561da", func := "toller/tollerlaw05.BucketAsks", spec := "bucketAsks", unfollowed := true, recurses := true, apart := false }
def BucketAsksSaid : Prop := bucketAsksRow.holds Try.pinned (OpenSpec.ofChange bucketAsksSpec)

/-- ITS FALSE NEIGHBOUR: 'it returns false'. Refute it at one input. -/
def bucketAsksWrong : ChangeSpec := { name := "bucketAsks", fn := fun _ => fun
  | [d1, d2, d3, d4, d5, d6, d7, d8, d9] => { results := [.lit (.bool false)], args := [d1, d2, d3, d4, d5, d6, d7, d8, d9] }
  | _ => none }
def BucketAsksWrongFalsely : Prop := bucketAsksRow.holds Try.pinned (OpenSpec.ofChange bucketAsksWrong)

/-- 'tollerlaw05.BucketTime': WHATEVER THE INPUT: true; the input reads as it did. -/
def bucketTimeSpec : ChangeSpec := { name := "bucketTime", fn := fun _ => fun
  | [d1, d2, d3, d4, d5] => { results := [.lit (.bool true)], args := [d1, d2, d3, d4, d5] }
  | _ => none }
def bucketTimeRow : OpenClaim := { program := "ytegmpcjibngboaa", sum := "7612289978b9a6e30e08607d1e97a1ebbdbd99d0e3480b0d84f0f5ba27e561da", func := "toller/tollerlaw05.BucketTime", spec := "bucketTime", unfollowed := true, recurses := true, apart := false }
def BucketTimeSaid : Prop := bucketTimeRow.holds Try.pinned (OpenSpec.ofChange bucketTimeSpec)

/-- ITS FALSE NEIGHBOUR: 'it returns false'. Refute it at one input. -/
def bucketTimeWrong : ChangeSpec := { name := "bucketTime", fn := fun _ => fun
  | [d1, d2, d3, d4, d5] => { results := [.lit (.bool false)], args := [d1, d2, d3, d4, d5] }
  | _ => none }
def BucketTimeWrongFalsely : Prop := bucketTimeRow.holds Try.pinned (OpenSpec.ofChange bucketTimeWrong)

/-- 'tollerlaw05.BucketComes': WHATEVER THE INPUT: true; the input reads as it did. -/
def bucketComesSpec : ChangeSpec := { name := "bucketComes", fn := fun _ => fun
  | [d1, d2, d3, d4, d5] => { results := [.lit (.bool true)], args := [d1, d2, d3, d4, d5] }
  | _ => none }
def bucketComesRow : OpenClaim := { program := "ytegmpcjibngboaa", sum := "7612289978b9a6e30e08607d1e97a1ebbdbd99d0e3480b0d84f0f5ba27e561da", func := "toller/tollerlaw05.BucketComes", spec := "bucketComes", unfollowed := true, recurses := true, apart := false }
def BucketComesSaid : Prop := bucketComesRow.holds Try.pinned (OpenSpec.ofChange bucketComesSpec)

/-- ITS FALSE NEIGHBOUR: 'it returns false'. Refute it at one input. -/
def bucketComesWrong : ChangeSpec := { name := "bucketComes", fn := fun _ => fun
  | [d1, d2, d3, d4, d5] => { results := [.lit (.bool false)], args := [d1, d2, d3, d4, d5] }
  | _ => none }
def BucketComesWrongFalsely : Prop := bucketComesRow.holds Try.pinned (OpenSpec.ofChange bucketComesWrong)

/-- 'tollerlaw05.BucketParts': WHATEVER THE INPUT: true; the input reads as it did. -/
def bucketPartsSpec : ChangeSpec := { name := "bucketParts", fn := fun _ => fun
  | [d1, d2, d3, d4, d5, d6] => { results := [.lit (.bool true)], args := [d1, d2, d3, d4, d5, d6] }
  | _ => none }
def bucketPartsRow : OpenClaim := { program := "ytegmpcjibngboaa", sum := "7612289978b9a6e30e08607d1e97a1ebbdbd99d0e3480b0d84f0f5ba27e561da", func := "toller/tollerlaw05.BucketParts", spec := "bucketParts", unfollowed := true, recurses := true, apart := false }
def BucketPartsSaid : Prop := bucketPartsRow.holds Try.pinned (OpenSpec.ofChange bucketPartsSpec)

/-- ITS FALSE NEIGHBOUR: 'it returns false'. Refute it at one input. -/
def bucketPartsWrong : ChangeSpec := { name := "bucketParts", fn := fun _ => fun
  | [d1, d2, d3, d4, d5, d6] => { results := [.lit (.bool false)], args := [d1, d2, d3, d4, d5, d6] }
  | _ => none }
def BucketPartsWrongFalsely : Prop := bucketPartsRow.holds Try.pinned (OpenSpec.ofChange bucketPartsWrong)

/-- 'tollerlaw05.BucketKind': WHATEVER THE INPUT: true; the input reads as it did. -/
def bucketKindSpec : ChangeSpec := { name := "bucketKind", fn := fun _ => fun
  | [d1, d2, d3, d4, d5] => { results := [.lit (.bool true)], args := [d1, d2, d3, d4, d5] }
  | _ => none }
def bucketKindRow : OpenClaim := { program := "ytegmpcjibngboaa", sum := "7612289978b9a6e30e08607d1e97a1ebbdbd99d0e3480b0d84f0f5ba27e561da", func := "toller/tollerlaw05.BucketKind", spec := "bucketKind", unfollowed := true, recurses := true, apart := false }
def BucketKindSaid : Prop := bucketKindRow.holds Try.pinned (OpenSpec.ofChange bucketKindSpec)

/-- ITS FALSE NEIGHBOUR: 'it returns false'. Refute it at one input. -/
def bucketKindWrong : ChangeSpec := { name := "bucketKind", fn := fun _ => fun
  | [d1, d2, d3, d4, d5] => { results := [.lit (.bool false)], args := [d1, d2, d3, d4, d5] }
  | _ => none }
def BucketKindWrongFalsely : Prop := bucketKindRow.holds Try.pinned (OpenSpec.ofChange bucketKindWrong)

/-- 'tollerlaw05.BucketEmpty': WHATEVER THE INPUT: true; the input reads as it did. -/
def bucketEmptySpec : ChangeSpec := { name := "bucketEmpty", fn := fun _ => fun
  | [d1, d2, d3] => { results := [.lit (.bool true)], args := [d1, d2, d3] }
  | _ => none }
def bucketEmptyRow : OpenClaim := { program := "ytegmpcjibngboaa", sum := "7612289978b9a6e30e08607d1e97a1ebbdbd99d0e3480b0d84f0f5ba27e561da", func := "toller/tollerlaw05.BucketEmpty", spec := "bucketEmpty", unfollowed := true, recurses := true, apart := false }
def BucketEmptySaid : Prop := bucketEmptyRow.holds Try.pinned (OpenSpec.ofChange bucketEmptySpec)

/-- ITS FALSE NEIGHBOUR: 'it returns false'. Refute it at one input. -/
def bucketEmptyWrong : ChangeSpec := { name := "bucketEmpty", fn := fun _ => fun
  | [d1, d2, d3] => { results := [.lit (.bool false)], args := [d1, d2, d3] }
  | _ => none }
def BucketEmptyWrongFalsely : Prop := bucketEmptyRow.holds Try.pinned (OpenSpec.ofChange bucketEmptyWrong)

/-- 'tollerlaw04.LeakyAsks': WHATEVER THE INPUT: true; the input reads as it did. -/
def leakyAsksSpec : ChangeSpec := { name := "leakyAsks", fn := fun _ => fun
  | [d1, d2, d3, d4, d5, d6, d7, d8, d9] => { results := [.lit (.bool true)], args := [d1, d2, d3, d4, d5, d6, d7, d8, d9] }
  | _ => none }
def leakyAsksRow : OpenClaim := { program := "ytegmpcjibngboaa", sum := "7612289978b9a6e30e08607d1e97a1ebbdbd99d0e3480b0d84f0f5ba27e561da", func := "toller/tollerlaw04.LeakyAsks", spec := "leakyAsks", unfollowed := true, recurses := true, apart := false }
def LeakyAsksSaid : Prop := leakyAsksRow.holds Try.pinned (OpenSpec.ofChange leakyAsksSpec)

/-- ITS FALSE NEIGHBOUR: 'it returns false'. Refute it at one input. -/
def leakyAsksWrong : ChangeSpec := { name := "leakyAsks", fn := fun _ => fun
  | [d1, d2, d3, d4, d5, d6, d7, d8, d9] => { results := [.lit (.bool false)], args := [d1, d2, d3, d4, d5, d6, d7, d8, d9] }
  | _ => none }
def LeakyAsksWrongFalsely : Prop := leakyAsksRow.holds Try.pinned (OpenSpec.ofChange leakyAsksWrong)

/-- 'tollerlaw04.LeakyTime': WHATEVER THE INPUT: true; the input reads as it did. -/
def leakyTimeSpec : ChangeSpec := { name := "leakyTime", fn := fun _ => fun
  | [d1, d2, d3, d4, d5] => { results := [.lit (.bool true)], args := [d1, d2, d3, d4, d5] }
  | _ => none }
def leakyTimeRow : OpenClaim := { program := "ytegmpcjibngboaa", sum := "7612289978b9a6e30e08607d1e97a1ebbdbd99d0e3480b0d84f0f5ba27e561da", func := "toller/tollerlaw04.LeakyTime", spec := "leakyTime", unfollowed := true, recurses := true, apart := false }
def LeakyTimeSaid : Prop := leakyTimeRow.holds Try.pinned (OpenSpec.ofChange leakyTimeSpec)

/-- ITS FALSE NEIGHBOUR: 'it returns false'. Refute it at one input. -/
def leakyTimeWrong : ChangeSpec := { name := "leakyTime", fn := fun _ => fun
  | [d1, d2, d3, d4, d5] => { results := [.lit (.bool false)], args := [d1, d2, d3, d4, d5] }
  | _ => none }
def LeakyTimeWrongFalsely : Prop := leakyTimeRow.holds Try.pinned (OpenSpec.ofChange leakyTimeWrong)

/-- 'tollerlaw04.LeakyComes': WHATEVER THE INPUT: true; the input reads as it did. -/
def leakyComesSpec : ChangeSpec := { name := "leakyComes", fn := fun _ => fun
  | [d1, d2, d3, d4, d5] => { results := [.lit (.bool true)], args := [d1, d2, d3, d4, d5] }
  | _ => none }
def leakyComesRow : OpenClaim := { program := "ytegmpcjibngboaa", sum := "7612289978b9a6e30e08607d1e97a1ebbdbd99d0e3480b0d84f0f5ba27e561da", func := "toller/tollerlaw04.LeakyComes", spec := "leakyComes", unfollowed := true, recurses := true, apart := false }
def LeakyComesSaid : Prop := leakyComesRow.holds Try.pinned (OpenSpec.ofChange leakyComesSpec)

/-- ITS FALSE NEIGHBOUR: 'it returns false'. Refute it at one input. -/
def leakyComesWrong : ChangeSpec := { name := "leakyComes", fn := fun _ => fun
  | [d1, d2, d3, d4, d5] => { results := [.lit (.bool false)], args := [d1, d2, d3, d4, d5] }
  | _ => none }
def LeakyComesWrongFalsely : Prop := leakyComesRow.holds Try.pinned (OpenSpec.ofChange leakyComesWrong)

/-- 'tollerlaw04.LeakyParts': WHATEVER THE INPUT: true; the input reads as it did. -/
def leakyPartsSpec : ChangeSpec := { name := "leakyParts", fn := fun _ => fun
  | [d1, d2, d3, d4, d5, d6] => { results := [.lit (.bool true)], args := [d1, d2, d3, d4, d5, d6] }
  | _ => none }
def leakyPartsRow : OpenClaim := { program := "ytegmpcjibngboaa", sum := "7612289978b9a6e30e08607d1e97a1ebbdbd99d0e3480b0d84f0f5ba27e561da", func := "toller/tollerlaw04.LeakyParts", spec := "leakyParts", unfollowed := true, recurses := true, apart := false }
def LeakyPartsSaid : Prop := leakyPartsRow.holds Try.pinned (OpenSpec.ofChange leakyPartsSpec)

/-- ITS FALSE NEIGHBOUR: 'it returns false'. Refute it at one input. -/
def leakyPartsWrong : ChangeSpec := { name := "leakyParts", fn := fun _ => fun
  | [d1, d2, d3, d4, d5, d6] => { results := [.lit (.bool false)], args := [d1, d2, d3, d4, d5, d6] }
  | _ => none }
def LeakyPartsWrongFalsely : Prop := leakyPartsRow.holds Try.pinned (OpenSpec.ofChange leakyPartsWrong)

/-- 'tollerlaw04.LeakyKind': WHATEVER THE INPUT: true; the input reads as it did. -/
def leakyKindSpec : ChangeSpec := { name := "leakyKind", fn := fun _ => fun
  | [d1, d2, d3, d4, d5] => { results := [.lit (.bool true)], args := [d1, d2, d3, d4, d5] }
  | _ => none }
def leakyKindRow : OpenClaim := { program := "ytegmpcjibngboaa", sum := "7612289978b9a6e30e08607d1e97a1ebbdbd99d0e3480b0d84f0f5ba27e561da", func := "toller/tollerlaw04.LeakyKind", spec := "leakyKind", unfollowed := true, recurses := true, apart := false }
def LeakyKindSaid : Prop := leakyKindRow.holds Try.pinned (OpenSpec.ofChange leakyKindSpec)

/-- ITS FALSE NEIGHBOUR: 'it returns false'. Refute it at one input. -/
def leakyKindWrong : ChangeSpec := { name := "leakyKind", fn := fun _ => fun
  | [d1, d2, d3, d4, d5] => { results := [.lit (.bool false)], args := [d1, d2, d3, d4, d5] }
  | _ => none }
def LeakyKindWrongFalsely : Prop := leakyKindRow.holds Try.pinned (OpenSpec.ofChange leakyKindWrong)

/-- 'tollerlaw04.LeakyEmpty': WHATEVER THE INPUT: true; the input reads as it did. -/
def leakyEmptySpec : ChangeSpec := { name := "leakyEmpty", fn := fun _ => fun
  | [d1, d2, d3] => { results := [.lit (.bool true)], args := [d1, d2, d3] }
  | _ => none }
def leakyEmptyRow : OpenClaim := { program := "ytegmpcjibngboaa", sum := "7612289978b9a6e30e08607d1e97a1ebbdbd99d0e3480b0d84f0f5ba27e561da", func := "toller/tollerlaw04.LeakyEmpty", spec := "leakyEmpty", unfollowed := true, recurses := true, apart := false }
def LeakyEmptySaid : Prop := leakyEmptyRow.holds Try.pinned (OpenSpec.ofChange leakyEmptySpec)

/-- ITS FALSE NEIGHBOUR: 'it returns false'. Refute it at one input. -/
def leakyEmptyWrong : ChangeSpec := { name := "leakyEmpty", fn := fun _ => fun
  | [d1, d2, d3] => { results := [.lit (.bool false)], args := [d1, d2, d3] }
  | _ => none }
def LeakyEmptyWrongFalsely : Prop := leakyEmptyRow.holds Try.pinned (OpenSpec.ofChange leakyEmptyWrong)

/-- 'tollerlaw06.GcraAsks': WHATEVER THE INPUT: true; the input reads as it did. -/
def gcraAsksSpec : ChangeSpec := { name := "gcraAsks", fn := fun _ => fun
  | [d1, d2, d3, d4, d5, d6, d7, d8, d9] => { results := [.lit (.bool true)], args := [d1, d2, d3, d4, d5, d6, d7, d8, d9] }
  | _ => none }
def gcraAsksRow : OpenClaim := { program := "ytegmpcjibngboaa", sum := "7612289978b9a6e30e08607d1e97a1ebbdbd99d0e3480b0d84f0f5ba27e561da", func := "toller/tollerlaw06.GcraAsks", spec := "gcraAsks", apart := false }
def GcraAsksSaid : Prop := gcraAsksRow.holds Try.pinned (OpenSpec.ofChange gcraAsksSpec)

/-- ITS FALSE NEIGHBOUR: 'it returns false'. Refute it at one input. -/
def gcraAsksWrong : ChangeSpec := { name := "gcraAsks", fn := fun _ => fun
  | [d1, d2, d3, d4, d5, d6, d7, d8, d9] => { results := [.lit (.bool false)], args := [d1, d2, d3, d4, d5, d6, d7, d8, d9] }
  | _ => none }
def GcraAsksWrongFalsely : Prop := gcraAsksRow.holds Try.pinned (OpenSpec.ofChange gcraAsksWrong)

/-- 'tollerlaw06.GcraTime': WHATEVER THE INPUT: true; the input reads as it did. -/
def gcraTimeSpec : ChangeSpec := { name := "gcraTime", fn := fun _ => fun
  | [d1, d2, d3, d4, d5] => { results := [.lit (.bool true)], args := [d1, d2, d3, d4, d5] }
  | _ => none }
def gcraTimeRow : OpenClaim := { program := "ytegmpcjibngboaa", sum := "7612289978b9a6e30e08607d1e97a1ebbdbd99d0e3480b0d84f0f5ba27e561da", func := "toller/tollerlaw06.GcraTime", spec := "gcraTime", apart := false }
def GcraTimeSaid : Prop := gcraTimeRow.holds Try.pinned (OpenSpec.ofChange gcraTimeSpec)

/-- ITS FALSE NEIGHBOUR: 'it returns false'. Refute it at one input. -/
def gcraTimeWrong : ChangeSpec := { name := "gcraTime", fn := fun _ => fun
  | [d1, d2, d3, d4, d5] => { results := [.lit (.bool false)], args := [d1, d2, d3, d4, d5] }
  | _ => none }
def GcraTimeWrongFalsely : Prop := gcraTimeRow.holds Try.pinned (OpenSpec.ofChange gcraTimeWrong)

/-- 'tollerlaw06.GcraComes': WHATEVER THE INPUT: true; the input reads as it did. -/
def gcraComesSpec : ChangeSpec := { name := "gcraComes", fn := fun _ => fun
  | [d1, d2, d3, d4, d5] => { results := [.lit (.bool true)], args := [d1, d2, d3, d4, d5] }
  | _ => none }
def gcraComesRow : OpenClaim := { program := "ytegmpcjibngboaa", sum := "7612289978b9a6e30e08607d1e97a1ebbdbd99d0e3480b0d84f0f5ba27e561da", func := "toller/tollerlaw06.GcraComes", spec := "gcraComes", apart := false }
def GcraComesSaid : Prop := gcraComesRow.holds Try.pinned (OpenSpec.ofChange gcraComesSpec)

/-- ITS FALSE NEIGHBOUR: 'it returns false'. Refute it at one input. -/
def gcraComesWrong : ChangeSpec := { name := "gcraComes", fn := fun _ => fun
  | [d1, d2, d3, d4, d5] => { results := [.lit (.bool false)], args := [d1, d2, d3, d4, d5] }
  | _ => none }
def GcraComesWrongFalsely : Prop := gcraComesRow.holds Try.pinned (OpenSpec.ofChange gcraComesWrong)

/-- 'tollerlaw06.GcraParts': WHATEVER THE INPUT: true; the input reads as it did. -/
def gcraPartsSpec : ChangeSpec := { name := "gcraParts", fn := fun _ => fun
  | [d1, d2, d3, d4, d5, d6] => { results := [.lit (.bool true)], args := [d1, d2, d3, d4, d5, d6] }
  | _ => none }
def gcraPartsRow : OpenClaim := { program := "ytegmpcjibngboaa", sum := "7612289978b9a6e30e08607d1e97a1ebbdbd99d0e3480b0d84f0f5ba27e561da", func := "toller/tollerlaw06.GcraParts", spec := "gcraParts", apart := false }
def GcraPartsSaid : Prop := gcraPartsRow.holds Try.pinned (OpenSpec.ofChange gcraPartsSpec)

/-- ITS FALSE NEIGHBOUR: 'it returns false'. Refute it at one input. -/
def gcraPartsWrong : ChangeSpec := { name := "gcraParts", fn := fun _ => fun
  | [d1, d2, d3, d4, d5, d6] => { results := [.lit (.bool false)], args := [d1, d2, d3, d4, d5, d6] }
  | _ => none }
def GcraPartsWrongFalsely : Prop := gcraPartsRow.holds Try.pinned (OpenSpec.ofChange gcraPartsWrong)

/-- 'tollerlaw06.GcraKind': WHATEVER THE INPUT: true; the input reads as it did. -/
def gcraKindSpec : ChangeSpec := { name := "gcraKind", fn := fun _ => fun
  | [d1, d2, d3, d4, d5, d6] => { results := [.lit (.bool true)], args := [d1, d2, d3, d4, d5, d6] }
  | _ => none }
def gcraKindRow : OpenClaim := { program := "ytegmpcjibngboaa", sum := "7612289978b9a6e30e08607d1e97a1ebbdbd99d0e3480b0d84f0f5ba27e561da", func := "toller/tollerlaw06.GcraKind", spec := "gcraKind", apart := false }
def GcraKindSaid : Prop := gcraKindRow.holds Try.pinned (OpenSpec.ofChange gcraKindSpec)

/-- ITS FALSE NEIGHBOUR: 'it returns false'. Refute it at one input. -/
def gcraKindWrong : ChangeSpec := { name := "gcraKind", fn := fun _ => fun
  | [d1, d2, d3, d4, d5, d6] => { results := [.lit (.bool false)], args := [d1, d2, d3, d4, d5, d6] }
  | _ => none }
def GcraKindWrongFalsely : Prop := gcraKindRow.holds Try.pinned (OpenSpec.ofChange gcraKindWrong)

/-- 'tollerlaw06.GcraEmpty': WHATEVER THE INPUT: true; the input reads as it did. -/
def gcraEmptySpec : ChangeSpec := { name := "gcraEmpty", fn := fun _ => fun
  | [d1, d2, d3] => { results := [.lit (.bool true)], args := [d1, d2, d3] }
  | _ => none }
def gcraEmptyRow : OpenClaim := { program := "ytegmpcjibngboaa", sum := "7612289978b9a6e30e08607d1e97a1ebbdbd99d0e3480b0d84f0f5ba27e561da", func := "toller/tollerlaw06.GcraEmpty", spec := "gcraEmpty", apart := false }
def GcraEmptySaid : Prop := gcraEmptyRow.holds Try.pinned (OpenSpec.ofChange gcraEmptySpec)

/-- ITS FALSE NEIGHBOUR: 'it returns false'. Refute it at one input. -/
def gcraEmptyWrong : ChangeSpec := { name := "gcraEmpty", fn := fun _ => fun
  | [d1, d2, d3] => { results := [.lit (.bool false)], args := [d1, d2, d3] }
  | _ => none }
def GcraEmptyWrongFalsely : Prop := gcraEmptyRow.holds Try.pinned (OpenSpec.ofChange gcraEmptyWrong)

/- THE SECOND FORM. 'bulk': how many values and letters a reading holds, each counted each time it is reached (what is shared counts as often as it is met; a slice's spare places count too). A statement '..UptoSaid' is the law's where the arguments, and the package variables that the reading takes, are together of bulk at most 1048576: NARROWER than '..Said'. Prove '..Said' where nothing that the law and all that it calls make is longer than what came in: it says more and counts as full. Else prove '..UptoSaid'. A law counts once. -/
mutual
def uptoBulk {H : Type} : DataW H → Nat
  | .lit (.string bytes) => bytes.length + 1
  | .lit _ => 1
  | .nil => 1
  | .ptr d => uptoBulk d + 1
  | .slice elems spare => uptoBulkAll elems + uptoBulkAll spare + 1
  | .agg parts => uptoBulkAll parts + 1
  | .iface _ d => uptoBulk d + 1
  | .map entries => uptoBulkEntries entries + 1
  | .held _ => 1
def uptoBulkAll {H : Type} : List (DataW H) → Nat
  | [] => 0
  | d :: r => uptoBulk d + uptoBulkAll r
def uptoBulkEntries {H : Type} : List (Lit × DataW H) → Nat
  | [] => 0
  | x :: r => uptoBulkEntry x + uptoBulkEntries r
def uptoBulkEntry {H : Type} : Lit × DataW H → Nat
  | (.string bytes, d) => bytes.length + uptoBulk d + 1
  | (_, d) => uptoBulk d + 1
 end
def uptoSmall : (H : Type) → List (DataW H) → Bool := fun _ ds => decide (uptoBulkAll ds ≤ 1048576)
def OpenSpec.upto (s : _root_.Go.ChangeSpec) : _root_.Go.OpenSpec := { _root_.Go.OpenSpec.ofChange s with cond := some uptoSmall }

/-- 'tollerlaw05.BucketAsks', WHERE WHAT IT READS IS OF BULK AT MOST 1048576: true; the input reads as it did. -/
def bucketAsksUptoRow : OpenClaim := { program := "ytegmpcjibngboaa", sum := "7612289978b9a6e30e08607d1e97a1ebbdbd99d0e3480b0d84f0f5ba27e561da", func := "toller/tollerlaw05.BucketAsks", spec := "bucketAsks", unfollowed := true, recurses := true, apart := false, narrowed := true }
def BucketAsksUptoSaid : Prop := bucketAsksUptoRow.holds Try.pinned (OpenSpec.upto bucketAsksSpec)

/-- 'tollerlaw05.BucketTime', WHERE WHAT IT READS IS OF BULK AT MOST 1048576: true; the input reads as it did. -/
def bucketTimeUptoRow : OpenClaim := { program := "ytegmpcjibngboaa", sum := "7612289978b9a6e30e08607d1e97a1ebbdbd99d0e3480b0d84f0f5ba27e561da", func := "toller/tollerlaw05.BucketTime", spec := "bucketTime", unfollowed := true, recurses := true, apart := false, narrowed := true }
def BucketTimeUptoSaid : Prop := bucketTimeUptoRow.holds Try.pinned (OpenSpec.upto bucketTimeSpec)

/-- 'tollerlaw05.BucketComes', WHERE WHAT IT READS IS OF BULK AT MOST 1048576: true; the input reads as it did. -/
def bucketComesUptoRow : OpenClaim := { program := "ytegmpcjibngboaa", sum := "7612289978b9a6e30e08607d1e97a1ebbdbd99d0e3480b0d84f0f5ba27e561da", func := "toller/tollerlaw05.BucketComes", spec := "bucketComes", unfollowed := true, recurses := true, apart := false, narrowed := true }
def BucketComesUptoSaid : Prop := bucketComesUptoRow.holds Try.pinned (OpenSpec.upto bucketComesSpec)

/-- 'tollerlaw05.BucketParts', WHERE WHAT IT READS IS OF BULK AT MOST 1048576: true; the input reads as it did. -/
def bucketPartsUptoRow : OpenClaim := { program := "ytegmpcjibngboaa", sum := "7612289978b9a6e30e08607d1e97a1ebbdbd99d0e3480b0d84f0f5ba27e561da", func := "toller/tollerlaw05.BucketParts", spec := "bucketParts", unfollowed := true, recurses := true, apart := false, narrowed := true }
def BucketPartsUptoSaid : Prop := bucketPartsUptoRow.holds Try.pinned (OpenSpec.upto bucketPartsSpec)

/-- 'tollerlaw05.BucketKind', WHERE WHAT IT READS IS OF BULK AT MOST 1048576: true; the input reads as it did. -/
def bucketKindUptoRow : OpenClaim := { program := "ytegmpcjibngboaa", sum := "7612289978b9a6e30e08607d1e97a1ebbdbd99d0e3480b0d84f0f5ba27e561da", func := "toller/tollerlaw05.BucketKind", spec := "bucketKind", unfollowed := true, recurses := true, apart := false, narrowed := true }
def BucketKindUptoSaid : Prop := bucketKindUptoRow.holds Try.pinned (OpenSpec.upto bucketKindSpec)

/-- 'tollerlaw05.BucketEmpty', WHERE WHAT IT READS IS OF BULK AT MOST 1048576: true; the input reads as it did. -/
def bucketEmptyUptoRow : OpenClaim := { program := "ytegmpcjibngboaa", sum := "7612289978b9a6e30e08607d1e97a1ebbdbd99d0e3480b0d84f0f5ba27e561da", func := "toller/tollerlaw05.BucketEmpty", spec := "bucketEmpty", unfollowed := true, recurses := true, apart := false, narrowed := true }
def BucketEmptyUptoSaid : Prop := bucketEmptyUptoRow.holds Try.pinned (OpenSpec.upto bucketEmptySpec)

/-- 'tollerlaw04.LeakyAsks', WHERE WHAT IT READS IS OF BULK AT MOST 1048576: true; the input reads as it did. -/
def leakyAsksUptoRow : OpenClaim := { program := "ytegmpcjibngboaa", sum := "7612289978b9a6e30e08607d1e97a1ebbdbd99d0e3480b0d84f0f5ba27e561da", func := "toller/tollerlaw04.LeakyAsks", spec := "leakyAsks", unfollowed := true, recurses := true, apart := false, narrowed := true }
def LeakyAsksUptoSaid : Prop := leakyAsksUptoRow.holds Try.pinned (OpenSpec.upto leakyAsksSpec)

/-- 'tollerlaw04.LeakyTime', WHERE WHAT IT READS IS OF BULK AT MOST 1048576: true; the input reads as it did. -/
def leakyTimeUptoRow : OpenClaim := { program := "ytegmpcjibngboaa", sum := "7612289978b9a6e30e08607d1e97a1ebbdbd99d0e3480b0d84f0f5ba27e561da", func := "toller/tollerlaw04.LeakyTime", spec := "leakyTime", unfollowed := true, recurses := true, apart := false, narrowed := true }
def LeakyTimeUptoSaid : Prop := leakyTimeUptoRow.holds Try.pinned (OpenSpec.upto leakyTimeSpec)

/-- 'tollerlaw04.LeakyComes', WHERE WHAT IT READS IS OF BULK AT MOST 1048576: true; the input reads as it did. -/
def leakyComesUptoRow : OpenClaim := { program := "ytegmpcjibngboaa", sum := "7612289978b9a6e30e08607d1e97a1ebbdbd99d0e3480b0d84f0f5ba27e561da", func := "toller/tollerlaw04.LeakyComes", spec := "leakyComes", unfollowed := true, recurses := true, apart := false, narrowed := true }
def LeakyComesUptoSaid : Prop := leakyComesUptoRow.holds Try.pinned (OpenSpec.upto leakyComesSpec)

/-- 'tollerlaw04.LeakyParts', WHERE WHAT IT READS IS OF BULK AT MOST 1048576: true; the input reads as it did. -/
def leakyPartsUptoRow : OpenClaim := { program := "ytegmpcjibngboaa", sum := "7612289978b9a6e30e08607d1e97a1ebbdbd99d0e3480b0d84f0f5ba27e561da", func := "toller/tollerlaw04.LeakyParts", spec := "leakyParts", unfollowed := true, recurses := true, apart := false, narrowed := true }
def LeakyPartsUptoSaid : Prop := leakyPartsUptoRow.holds Try.pinned (OpenSpec.upto leakyPartsSpec)

/-- 'tollerlaw04.LeakyKind', WHERE WHAT IT READS IS OF BULK AT MOST 1048576: true; the input reads as it did. -/
def leakyKindUptoRow : OpenClaim := { program := "ytegmpcjibngboaa", sum := "7612289978b9a6e30e08607d1e97a1ebbdbd99d0e3480b0d84f0f5ba27e561da", func := "toller/tollerlaw04.LeakyKind", spec := "leakyKind", unfollowed := true, recurses := true, apart := false, narrowed := true }
def LeakyKindUptoSaid : Prop := leakyKindUptoRow.holds Try.pinned (OpenSpec.upto leakyKindSpec)

/-- 'tollerlaw04.LeakyEmpty', WHERE WHAT IT READS IS OF BULK AT MOST 1048576: true; the input reads as it did. -/
def leakyEmptyUptoRow : OpenClaim := { program := "ytegmpcjibngboaa", sum := "7612289978b9a6e30e08607d1e97a1ebbdbd99d0e3480b0d84f0f5ba27e561da", func := "toller/tollerlaw04.LeakyEmpty", spec := "leakyEmpty", unfollowed := true, recurses := true, apart := false, narrowed := true }
def LeakyEmptyUptoSaid : Prop := leakyEmptyUptoRow.holds Try.pinned (OpenSpec.upto leakyEmptySpec)

/-- 'tollerlaw06.GcraAsks', WHERE WHAT IT READS IS OF BULK AT MOST 1048576: true; the input reads as it did. -/
def gcraAsksUptoRow : OpenClaim := { program := "ytegmpcjibngboaa", sum := "7612289978b9a6e30e08607d1e97a1ebbdbd99d0e3480b0d84f0f5ba27e561da", func := "toller/tollerlaw06.GcraAsks", spec := "gcraAsks", apart := false, narrowed := true }
def GcraAsksUptoSaid : Prop := gcraAsksUptoRow.holds Try.pinned (OpenSpec.upto gcraAsksSpec)

/-- 'tollerlaw06.GcraTime', WHERE WHAT IT READS IS OF BULK AT MOST 1048576: true; the input reads as it did. -/
def gcraTimeUptoRow : OpenClaim := { program := "ytegmpcjibngboaa", sum := "7612289978b9a6e30e08607d1e97a1ebbdbd99d0e3480b0d84f0f5ba27e561da", func := "toller/tollerlaw06.GcraTime", spec := "gcraTime", apart := false, narrowed := true }
def GcraTimeUptoSaid : Prop := gcraTimeUptoRow.holds Try.pinned (OpenSpec.upto gcraTimeSpec)

/-- 'tollerlaw06.GcraComes', WHERE WHAT IT READS IS OF BULK AT MOST 1048576: true; the input reads as it did. -/
def gcraComesUptoRow : OpenClaim := { program := "ytegmpcjibngboaa", sum := "7612289978b9a6e30e08607d1e97a1ebbdbd99d0e3480b0d84f0f5ba27e561da", func := "toller/tollerlaw06.GcraComes", spec := "gcraComes", apart := false, narrowed := true }
def GcraComesUptoSaid : Prop := gcraComesUptoRow.holds Try.pinned (OpenSpec.upto gcraComesSpec)

/-- 'tollerlaw06.GcraParts', WHERE WHAT IT READS IS OF BULK AT MOST 1048576: true; the input reads as it did. -/
def gcraPartsUptoRow : OpenClaim := { program := "ytegmpcjibngboaa", sum := "7612289978b9a6e30e08607d1e97a1ebbdbd99d0e3480b0d84f0f5ba27e561da", func := "toller/tollerlaw06.GcraParts", spec := "gcraParts", apart := false, narrowed := true }
def GcraPartsUptoSaid : Prop := gcraPartsUptoRow.holds Try.pinned (OpenSpec.upto gcraPartsSpec)

/-- 'tollerlaw06.GcraKind', WHERE WHAT IT READS IS OF BULK AT MOST 1048576: true; the input reads as it did. -/
def gcraKindUptoRow : OpenClaim := { program := "ytegmpcjibngboaa", sum := "7612289978b9a6e30e08607d1e97a1ebbdbd99d0e3480b0d84f0f5ba27e561da", func := "toller/tollerlaw06.GcraKind", spec := "gcraKind", apart := false, narrowed := true }
def GcraKindUptoSaid : Prop := gcraKindUptoRow.holds Try.pinned (OpenSpec.upto gcraKindSpec)

/-- 'tollerlaw06.GcraEmpty', WHERE WHAT IT READS IS OF BULK AT MOST 1048576: true; the input reads as it did. -/
def gcraEmptyUptoRow : OpenClaim := { program := "ytegmpcjibngboaa", sum := "7612289978b9a6e30e08607d1e97a1ebbdbd99d0e3480b0d84f0f5ba27e561da", func := "toller/tollerlaw06.GcraEmpty", spec := "gcraEmpty", apart := false, narrowed := true }
def GcraEmptyUptoSaid : Prop := gcraEmptyUptoRow.holds Try.pinned (OpenSpec.upto gcraEmptySpec)

end Rows
end Go.Proofs.Ytegmpcjibngboaa
