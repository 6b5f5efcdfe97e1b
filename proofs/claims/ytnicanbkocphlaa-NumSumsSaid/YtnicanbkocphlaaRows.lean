/-
  No cell of these rows narrows 'for every input' (looked for: loops, veiled, ifaces, maps, wideKeys, modest, calm, conditions, laid).
  DERIVED. THE GIVEN ROWS OF THIS SEAT. 14 by the template 'for every input the law returns true; each argument reads behind the call as it read before'; 0 by the template 'total and deterministic' (their statements: YtnicanbkocphlaaTotals.lean).
  GIVEN WITH THE SEED: the statements are not yours to turn. If you find one false, say at which input.
  Laid BY PROGRAM, IN A SANDBOX (cutbox-rows.mjs): the forced cells as the released guide's own fill.sh prints them over the translation 86fb2879995f036e… (all of the seat's roots in one cut). By AI agents, Wed Nov 11 2026. No macro, syntax, notation, axiom, sorry.
-/
import Derived.Test.YtnicanbkocphlaaChecked
import GoSem.Claim
import GoSem.ClaimJoined
import GoSem.ClaimMapViews
import Derived.JoinedTies
import Derived.KernelRfl
namespace Go.Proofs.Ytnicanbkocphlaa
/- THE CELL 'sum', in the pinned program and in every row, IS THE sha256 OF THE DUMP (.gsa) THAT YtnicanbkocphlaaProg.lean LOADS. Nothing in Lean hashes anything: it is a label: what it is worth is what the hold of that sum in a sandbox is worth. -/
noncomputable def Try.pinned : Pinned := { name := "ytnicanbkocphlaa", sum := "86fb2879995f036ef944969ffa507b3b72fd05f6cf236a2e1f191459a3484943", checked := Try.checked }
namespace Rows
def none {H : Type} : Left H := { results := [], args := [] }

/-- 'tollerlaw01.WideShifts': WHATEVER THE INPUT: true; the input reads as it did. -/
def wideShiftsSpec : ChangeSpec := { name := "wideShifts", fn := fun _ => fun
  | [d1, d2] => { results := [.lit (.bool true)], args := [d1, d2] }
  | _ => none }
def wideShiftsRow : OpenClaim := { program := "ytnicanbkocphlaa", sum := "86fb2879995f036ef944969ffa507b3b72fd05f6cf236a2e1f191459a3484943", func := "toller/tollerlaw01.WideShifts", spec := "wideShifts", apart := false }
def WideShiftsSaid : Prop := wideShiftsRow.holds Try.pinned (OpenSpec.ofChange wideShiftsSpec)

/-- ITS FALSE NEIGHBOUR: 'it returns false'. Refute it at one input. -/
def wideShiftsWrong : ChangeSpec := { name := "wideShifts", fn := fun _ => fun
  | [d1, d2] => { results := [.lit (.bool false)], args := [d1, d2] }
  | _ => none }
def WideShiftsWrongFalsely : Prop := wideShiftsRow.holds Try.pinned (OpenSpec.ofChange wideShiftsWrong)

/-- 'tollerlaw01.WideMore': WHATEVER THE INPUT: true; the input reads as it did. -/
def wideMoreSpec : ChangeSpec := { name := "wideMore", fn := fun _ => fun
  | [d1, d2, d3, d4] => { results := [.lit (.bool true)], args := [d1, d2, d3, d4] }
  | _ => none }
def wideMoreRow : OpenClaim := { program := "ytnicanbkocphlaa", sum := "86fb2879995f036ef944969ffa507b3b72fd05f6cf236a2e1f191459a3484943", func := "toller/tollerlaw01.WideMore", spec := "wideMore", apart := false }
def WideMoreSaid : Prop := wideMoreRow.holds Try.pinned (OpenSpec.ofChange wideMoreSpec)

/-- ITS FALSE NEIGHBOUR: 'it returns false'. Refute it at one input. -/
def wideMoreWrong : ChangeSpec := { name := "wideMore", fn := fun _ => fun
  | [d1, d2, d3, d4] => { results := [.lit (.bool false)], args := [d1, d2, d3, d4] }
  | _ => none }
def WideMoreWrongFalsely : Prop := wideMoreRow.holds Try.pinned (OpenSpec.ofChange wideMoreWrong)

/-- 'tollerlaw02.NumSums': WHATEVER THE INPUT: true; the input reads as it did. -/
def numSumsSpec : ChangeSpec := { name := "numSums", fn := fun _ => fun
  | [d1, d2] => { results := [.lit (.bool true)], args := [d1, d2] }
  | _ => none }
def numSumsRow : OpenClaim := { program := "ytnicanbkocphlaa", sum := "86fb2879995f036ef944969ffa507b3b72fd05f6cf236a2e1f191459a3484943", func := "toller/tollerlaw02.NumSums", spec := "numSums", unfollowed := true, recurses := true, apart := false }
def NumSumsSaid : Prop := numSumsRow.holds Try.pinned (OpenSpec.ofChange numSumsSpec)

/-- ITS FALSE NEIGHBOUR: 'it returns false'. Refute it at one input. -/
def numSumsWrong : ChangeSpec := { name := "numSums", fn := fun _ => fun
  | [d1, d2] => { results := [.lit (.bool false)], args := [d1, d2] }
  | _ => none }
def NumSumsWrongFalsely : Prop := numSumsRow.holds Try.pinned (OpenSpec.ofChange numSumsWrong)

/-- 'tollerlaw02.NumClamp': WHATEVER THE INPUT: true; the input reads as it did. -/
def numClampSpec : ChangeSpec := { name := "numClamp", fn := fun _ => fun
  | [d1, d2] => { results := [.lit (.bool true)], args := [d1, d2] }
  | _ => none }
def numClampRow : OpenClaim := { program := "ytnicanbkocphlaa", sum := "86fb2879995f036ef944969ffa507b3b72fd05f6cf236a2e1f191459a3484943", func := "toller/tollerlaw02.NumClamp", spec := "numClamp", unfollowed := true, recurses := true, apart := false }
def NumClampSaid : Prop := numClampRow.holds Try.pinned (OpenSpec.ofChange numClampSpec)

/-- ITS FALSE NEIGHBOUR: 'it returns false'. Refute it at one input. -/
def numClampWrong : ChangeSpec := { name := "numClamp", fn := fun _ => fun
  | [d1, d2] => { results := [.lit (.bool false)], args := [d1, d2] }
  | _ => none }
def NumClampWrongFalsely : Prop := numClampRow.holds Try.pinned (OpenSpec.ofChange numClampWrong)

/-- 'tollerlaw01.WideExact': WHATEVER THE INPUT: true; the input reads as it did. -/
def wideExactSpec : ChangeSpec := { name := "wideExact", fn := fun _ => fun
  | [d1, d2, d3] => { results := [.lit (.bool true)], args := [d1, d2, d3] }
  | _ => none }
def wideExactRow : OpenClaim := { program := "ytnicanbkocphlaa", sum := "86fb2879995f036ef944969ffa507b3b72fd05f6cf236a2e1f191459a3484943", func := "toller/tollerlaw01.WideExact", spec := "wideExact", apart := false }
def WideExactSaid : Prop := wideExactRow.holds Try.pinned (OpenSpec.ofChange wideExactSpec)

/-- ITS FALSE NEIGHBOUR: 'it returns false'. Refute it at one input. -/
def wideExactWrong : ChangeSpec := { name := "wideExact", fn := fun _ => fun
  | [d1, d2, d3] => { results := [.lit (.bool false)], args := [d1, d2, d3] }
  | _ => none }
def WideExactWrongFalsely : Prop := wideExactRow.holds Try.pinned (OpenSpec.ofChange wideExactWrong)

/-- 'tollerlaw01.WideBack': WHATEVER THE INPUT: true; the input reads as it did. -/
def wideBackSpec : ChangeSpec := { name := "wideBack", fn := fun _ => fun
  | [d1, d2, d3] => { results := [.lit (.bool true)], args := [d1, d2, d3] }
  | _ => none }
def wideBackRow : OpenClaim := { program := "ytnicanbkocphlaa", sum := "86fb2879995f036ef944969ffa507b3b72fd05f6cf236a2e1f191459a3484943", func := "toller/tollerlaw01.WideBack", spec := "wideBack", apart := false }
def WideBackSaid : Prop := wideBackRow.holds Try.pinned (OpenSpec.ofChange wideBackSpec)

/-- ITS FALSE NEIGHBOUR: 'it returns false'. Refute it at one input. -/
def wideBackWrong : ChangeSpec := { name := "wideBack", fn := fun _ => fun
  | [d1, d2, d3] => { results := [.lit (.bool false)], args := [d1, d2, d3] }
  | _ => none }
def WideBackWrongFalsely : Prop := wideBackRow.holds Try.pinned (OpenSpec.ofChange wideBackWrong)

/-- 'tollerlaw01.WideProducts': WHATEVER THE INPUT: true; the input reads as it did. -/
def wideProductsSpec : ChangeSpec := { name := "wideProducts", fn := fun _ => fun
  | [d1, d2, d3] => { results := [.lit (.bool true)], args := [d1, d2, d3] }
  | _ => none }
def wideProductsRow : OpenClaim := { program := "ytnicanbkocphlaa", sum := "86fb2879995f036ef944969ffa507b3b72fd05f6cf236a2e1f191459a3484943", func := "toller/tollerlaw01.WideProducts", spec := "wideProducts", apart := false }
def WideProductsSaid : Prop := wideProductsRow.holds Try.pinned (OpenSpec.ofChange wideProductsSpec)

/-- ITS FALSE NEIGHBOUR: 'it returns false'. Refute it at one input. -/
def wideProductsWrong : ChangeSpec := { name := "wideProducts", fn := fun _ => fun
  | [d1, d2, d3] => { results := [.lit (.bool false)], args := [d1, d2, d3] }
  | _ => none }
def WideProductsWrongFalsely : Prop := wideProductsRow.holds Try.pinned (OpenSpec.ofChange wideProductsWrong)

/-- 'tollerlaw01.WideOrder': WHATEVER THE INPUT: true; the input reads as it did. -/
def wideOrderSpec : ChangeSpec := { name := "wideOrder", fn := fun _ => fun
  | [d1, d2, d3, d4] => { results := [.lit (.bool true)], args := [d1, d2, d3, d4] }
  | _ => none }
def wideOrderRow : OpenClaim := { program := "ytnicanbkocphlaa", sum := "86fb2879995f036ef944969ffa507b3b72fd05f6cf236a2e1f191459a3484943", func := "toller/tollerlaw01.WideOrder", spec := "wideOrder", apart := false }
def WideOrderSaid : Prop := wideOrderRow.holds Try.pinned (OpenSpec.ofChange wideOrderSpec)

/-- ITS FALSE NEIGHBOUR: 'it returns false'. Refute it at one input. -/
def wideOrderWrong : ChangeSpec := { name := "wideOrder", fn := fun _ => fun
  | [d1, d2, d3, d4] => { results := [.lit (.bool false)], args := [d1, d2, d3, d4] }
  | _ => none }
def WideOrderWrongFalsely : Prop := wideOrderRow.holds Try.pinned (OpenSpec.ofChange wideOrderWrong)

/-- 'tollerlaw01.WideAsks': WHATEVER THE INPUT: true; the input reads as it did. -/
def wideAsksSpec : ChangeSpec := { name := "wideAsks", fn := fun _ => fun
  | [d1, d2, d3, d4, d5] => { results := [.lit (.bool true)], args := [d1, d2, d3, d4, d5] }
  | _ => none }
def wideAsksRow : OpenClaim := { program := "ytnicanbkocphlaa", sum := "86fb2879995f036ef944969ffa507b3b72fd05f6cf236a2e1f191459a3484943", func := "toller/tollerlaw01.WideAsks", spec := "wideAsks", apart := false }
def WideAsksSaid : Prop := wideAsksRow.holds Try.pinned (OpenSpec.ofChange wideAsksSpec)

/-- ITS FALSE NEIGHBOUR: 'it returns false'. Refute it at one input. -/
def wideAsksWrong : ChangeSpec := { name := "wideAsks", fn := fun _ => fun
  | [d1, d2, d3, d4, d5] => { results := [.lit (.bool false)], args := [d1, d2, d3, d4, d5] }
  | _ => none }
def WideAsksWrongFalsely : Prop := wideAsksRow.holds Try.pinned (OpenSpec.ofChange wideAsksWrong)

/-- 'tollerlaw02.NumEnds': WHATEVER THE INPUT: true; the input reads as it did. -/
def numEndsSpec : ChangeSpec := { name := "numEnds", fn := fun _ => fun
  | [d1, d2] => { results := [.lit (.bool true)], args := [d1, d2] }
  | _ => none }
def numEndsRow : OpenClaim := { program := "ytnicanbkocphlaa", sum := "86fb2879995f036ef944969ffa507b3b72fd05f6cf236a2e1f191459a3484943", func := "toller/tollerlaw02.NumEnds", spec := "numEnds", unfollowed := true, recurses := true, apart := false }
def NumEndsSaid : Prop := numEndsRow.holds Try.pinned (OpenSpec.ofChange numEndsSpec)

/-- ITS FALSE NEIGHBOUR: 'it returns false'. Refute it at one input. -/
def numEndsWrong : ChangeSpec := { name := "numEnds", fn := fun _ => fun
  | [d1, d2] => { results := [.lit (.bool false)], args := [d1, d2] }
  | _ => none }
def NumEndsWrongFalsely : Prop := numEndsRow.holds Try.pinned (OpenSpec.ofChange numEndsWrong)

/-- 'tollerlaw02.NumQuotients': WHATEVER THE INPUT: true; the input reads as it did. -/
def numQuotientsSpec : ChangeSpec := { name := "numQuotients", fn := fun _ => fun
  | [d1, d2] => { results := [.lit (.bool true)], args := [d1, d2] }
  | _ => none }
def numQuotientsRow : OpenClaim := { program := "ytnicanbkocphlaa", sum := "86fb2879995f036ef944969ffa507b3b72fd05f6cf236a2e1f191459a3484943", func := "toller/tollerlaw02.NumQuotients", spec := "numQuotients", unfollowed := true, recurses := true, apart := false }
def NumQuotientsSaid : Prop := numQuotientsRow.holds Try.pinned (OpenSpec.ofChange numQuotientsSpec)

/-- ITS FALSE NEIGHBOUR: 'it returns false'. Refute it at one input. -/
def numQuotientsWrong : ChangeSpec := { name := "numQuotients", fn := fun _ => fun
  | [d1, d2] => { results := [.lit (.bool false)], args := [d1, d2] }
  | _ => none }
def NumQuotientsWrongFalsely : Prop := numQuotientsRow.holds Try.pinned (OpenSpec.ofChange numQuotientsWrong)

/-- 'tollerlaw02.NumProducts': WHATEVER THE INPUT: true; the input reads as it did. -/
def numProductsSpec : ChangeSpec := { name := "numProducts", fn := fun _ => fun
  | [d1, d2, d3, d4] => { results := [.lit (.bool true)], args := [d1, d2, d3, d4] }
  | _ => none }
def numProductsRow : OpenClaim := { program := "ytnicanbkocphlaa", sum := "86fb2879995f036ef944969ffa507b3b72fd05f6cf236a2e1f191459a3484943", func := "toller/tollerlaw02.NumProducts", spec := "numProducts", unfollowed := true, recurses := true, apart := false }
def NumProductsSaid : Prop := numProductsRow.holds Try.pinned (OpenSpec.ofChange numProductsSpec)

/-- ITS FALSE NEIGHBOUR: 'it returns false'. Refute it at one input. -/
def numProductsWrong : ChangeSpec := { name := "numProducts", fn := fun _ => fun
  | [d1, d2, d3, d4] => { results := [.lit (.bool false)], args := [d1, d2, d3, d4] }
  | _ => none }
def NumProductsWrongFalsely : Prop := numProductsRow.holds Try.pinned (OpenSpec.ofChange numProductsWrong)

/-- 'tollerlaw02.NumFits': WHATEVER THE INPUT: true; the input reads as it did. -/
def numFitsSpec : ChangeSpec := { name := "numFits", fn := fun _ => fun
  | [d1, d2, d3, d4] => { results := [.lit (.bool true)], args := [d1, d2, d3, d4] }
  | _ => none }
def numFitsRow : OpenClaim := { program := "ytnicanbkocphlaa", sum := "86fb2879995f036ef944969ffa507b3b72fd05f6cf236a2e1f191459a3484943", func := "toller/tollerlaw02.NumFits", spec := "numFits", unfollowed := true, recurses := true, apart := false }
def NumFitsSaid : Prop := numFitsRow.holds Try.pinned (OpenSpec.ofChange numFitsSpec)

/-- ITS FALSE NEIGHBOUR: 'it returns false'. Refute it at one input. -/
def numFitsWrong : ChangeSpec := { name := "numFits", fn := fun _ => fun
  | [d1, d2, d3, d4] => { results := [.lit (.bool false)], args := [d1, d2, d3, d4] }
  | _ => none }
def NumFitsWrongFalsely : Prop := numFitsRow.holds Try.pinned (OpenSpec.ofChange numFitsWrong)

/-- 'tollerlaw02.NumAsks': WHATEVER THE INPUT: true; the input reads as it did. -/
def numAsksSpec : ChangeSpec := { name := "numAsks", fn := fun _ => fun
  | [d1, d2, d3, d4, d5, d6] => { results := [.lit (.bool true)], args := [d1, d2, d3, d4, d5, d6] }
  | _ => none }
def numAsksRow : OpenClaim := { program := "ytnicanbkocphlaa", sum := "86fb2879995f036ef944969ffa507b3b72fd05f6cf236a2e1f191459a3484943", func := "toller/tollerlaw02.NumAsks", spec := "numAsks", unfollowed := true, recurses := true, apart := false }
def NumAsksSaid : Prop := numAsksRow.holds Try.pinned (OpenSpec.ofChange numAsksSpec)

/-- ITS FALSE NEIGHBOUR: 'it returns false'. Refute it at one input. -/
def numAsksWrong : ChangeSpec := { name := "numAsks", fn := fun _ => fun
  | [d1, d2, d3, d4, d5, d6] => { results := [.lit (.bool false)], args := [d1, d2, d3, d4, d5, d6] }
  | _ => none }
def NumAsksWrongFalsely : Prop := numAsksRow.holds Try.pinned (OpenSpec.ofChange numAsksWrong)

/- THE SECOND FORM. 'bulk': how many values and letters a reading holds, each counted each time it is reached (what is shared counts as often as it is met; a slice's spare places count too). A statement '..UptoSaid' is the law's where the arguments, and the package variables that the reading takes, are together of bulk at most 1048576: NARROWER than '..Said'. Prove '..Said' where nothing that the law and all that it calls make is longer than what came in: it says more and counts as full. Else prove '..UptoSaid'. A law counts once. -/
mutual
def uptoBulk {H : Type} : DataW H → Nat
  | .lit (.string bytes) => bytes.length + 1
  | .lit _ => 1
  | .nil => 1
  | .ptr d => uptoBulk d + 1
  | .slice elems spare => uptoBulkAll elems + uptoBulkAll spare + 1
  | .agg parts => uptoBulkAll parts + 1
  | .iface _ d => uptoBulk d + 1
  | .map entries => uptoBulkEntries entries + 1
  | .held _ => 1
def uptoBulkAll {H : Type} : List (DataW H) → Nat
  | [] => 0
  | d :: r => uptoBulk d + uptoBulkAll r
def uptoBulkEntries {H : Type} : List (Lit × DataW H) → Nat
  | [] => 0
  | x :: r => uptoBulkEntry x + uptoBulkEntries r
def uptoBulkEntry {H : Type} : Lit × DataW H → Nat
  | (.string bytes, d) => bytes.length + uptoBulk d + 1
  | (_, d) => uptoBulk d + 1
 end
def uptoSmall : (H : Type) → List (DataW H) → Bool := fun _ ds => decide (uptoBulkAll ds ≤ 1048576)
def OpenSpec.upto (s : _root_.Go.ChangeSpec) : _root_.Go.OpenSpec := { _root_.Go.OpenSpec.ofChange s with cond := some uptoSmall }

/-- 'tollerlaw01.WideShifts', WHERE WHAT IT READS IS OF BULK AT MOST 1048576: true; the input reads as it did. -/
def wideShiftsUptoRow : OpenClaim := { program := "ytnicanbkocphlaa", sum := "86fb2879995f036ef944969ffa507b3b72fd05f6cf236a2e1f191459a3484943", func := "toller/tollerlaw01.WideShifts", spec := "wideShifts", apart := false, narrowed := true }
def WideShiftsUptoSaid : Prop := wideShiftsUptoRow.holds Try.pinned (OpenSpec.upto wideShiftsSpec)

/-- 'tollerlaw01.WideMore', WHERE WHAT IT READS IS OF BULK AT MOST 1048576: true; the input reads as it did. -/
def wideMoreUptoRow : OpenClaim := { program := "ytnicanbkocphlaa", sum := "86fb2879995f036ef944969ffa507b3b72fd05f6cf236a2e1f191459a3484943", func := "toller/tollerlaw01.WideMore", spec := "wideMore", apart := false, narrowed := true }
def WideMoreUptoSaid : Prop := wideMoreUptoRow.holds Try.pinned (OpenSpec.upto wideMoreSpec)

/-- 'tollerlaw02.NumSums', WHERE WHAT IT READS IS OF BULK AT MOST 1048576: true; the input reads as it did. -/
def numSumsUptoRow : OpenClaim := { program := "ytnicanbkocphlaa", sum := "86fb2879995f036ef944969ffa507b3b72fd05f6cf236a2e1f191459a3484943", func := "toller/tollerlaw02.NumSums", spec := "numSums", unfollowed := true, recurses := true, apart := false, narrowed := true }
def NumSumsUptoSaid : Prop := numSumsUptoRow.holds Try.pinned (OpenSpec.upto numSumsSpec)

/-- 'tollerlaw02.NumClamp', WHERE WHAT IT READS IS OF BULK AT MOST 1048576: true; the input reads as it did. -/
def numClampUptoRow : OpenClaim := { program := "ytnicanbkocphlaa", sum := "86fb2879995f036ef944969ffa507b3b72fd05f6cf236a2e1f191459a3484943", func := "toller/tollerlaw02.NumClamp", spec := "numClamp", unfollowed := true, recurses := true, apart := false, narrowed := true }
def NumClampUptoSaid : Prop := numClampUptoRow.holds Try.pinned (OpenSpec.upto numClampSpec)

/-- 'tollerlaw01.WideExact', WHERE WHAT IT READS IS OF BULK AT MOST 1048576: true; the input reads as it did. -/
def wideExactUptoRow : OpenClaim := { program := "ytnicanbkocphlaa", sum := "86fb2879995f036ef944969ffa507b3b72fd05f6cf236a2e1f191459a3484943", func := "toller/tollerlaw01.WideExact", spec := "wideExact", apart := false, narrowed := true }
def WideExactUptoSaid : Prop := wideExactUptoRow.holds Try.pinned (OpenSpec.upto wideExactSpec)

/-- 'tollerlaw01.WideBack', WHERE WHAT IT READS IS OF BULK AT MOST 1048576: true; the input reads as it did. -/
def wideBackUptoRow : OpenClaim := { program := "ytnicanbkocphlaa", sum := "86fb2879995f036ef944969ffa507b3b72fd05f6cf236a2e1f191459a3484943", func := "toller/tollerlaw01.WideBack", spec := "wideBack", apart := false, narrowed := true }
def WideBackUptoSaid : Prop := wideBackUptoRow.holds Try.pinned (OpenSpec.upto wideBackSpec)

/-- 'tollerlaw01.WideProducts', WHERE WHAT IT READS IS OF BULK AT MOST 1048576: true; the input reads as it did. -/
def wideProductsUptoRow : OpenClaim := { program := "ytnicanbkocphlaa", sum := "86fb2879995f036ef944969ffa507b3b72fd05f6cf236a2e1f191459a3484943", func := "toller/tollerlaw01.WideProducts", spec := "wideProducts", apart := false, narrowed := true }
def WideProductsUptoSaid : Prop := wideProductsUptoRow.holds Try.pinned (OpenSpec.upto wideProductsSpec)

/-- 'tollerlaw01.WideOrder', WHERE WHAT IT READS IS OF BULK AT MOST 1048576: true; the input reads as it did. -/
def wideOrderUptoRow : OpenClaim := { program := "ytnicanbkocphlaa", sum := "86fb2879995f036ef944969ffa507b3b72fd05f6cf236a2e1f191459a3484943", func := "toller/tollerlaw01.WideOrder", spec := "wideOrder", apart := false, narrowed := true }
def WideOrderUptoSaid : Prop := wideOrderUptoRow.holds Try.pinned (OpenSpec.upto wideOrderSpec)

/-- 'tollerlaw01.WideAsks', WHERE WHAT IT READS IS OF BULK AT MOST 1048576: true; the input reads as it did. -/
def wideAsksUptoRow : OpenClaim := { program := "ytnicanbkocphlaa", sum := "86fb2879995f036ef944969ffa507b3b72fd05f6cf236a2e1f191459a3484943", func := "toller/tollerlaw01.WideAsks", spec := "wideAsks", apart := false, narrowed := true }
def WideAsksUptoSaid : Prop := wideAsksUptoRow.holds Try.pinned (OpenSpec.upto wideAsksSpec)

/-- 'tollerlaw02.NumEnds', WHERE WHAT IT READS IS OF BULK AT MOST 1048576: true; the input reads as it did. -/
def numEndsUptoRow : OpenClaim := { program := "ytnicanbkocphlaa", sum := "86fb2879995f036ef944969ffa507b3b72fd05f6cf236a2e1f191459a3484943", func := "toller/tollerlaw02.NumEnds", spec := "numEnds", unfollowed := true, recurses := true, apart := false, narrowed := true }
def NumEndsUptoSaid : Prop := numEndsUptoRow.holds Try.pinned (OpenSpec.upto numEndsSpec)

/-- 'tollerlaw02.NumQuotients', WHERE WHAT IT READS IS OF BULK AT MOST 1048576: true; the input reads as it did. -/
def numQuotientsUptoRow : OpenClaim := { program := "ytnicanbkocphlaa", sum := "86fb2879995f036ef944969ffa507b3b72fd05f6cf236a2e1f191459a3484943", func := "toller/tollerlaw02.NumQuotients", spec := "numQuotients", unfollowed := true, recurses := true, apart := false, narrowed := true }
def NumQuotientsUptoSaid : Prop := numQuotientsUptoRow.holds Try.pinned (OpenSpec.upto numQuotientsSpec)

/-- 'tollerlaw02.NumProducts', WHERE WHAT IT READS IS OF BULK AT MOST 1048576: true; the input reads as it did. -/
def numProductsUptoRow : OpenClaim := { program := "ytnicanbkocphlaa", sum := "86fb2879995f036ef944969ffa507b3b72fd05f6cf236a2e1f191459a3484943", func := "toller/tollerlaw02.NumProducts", spec := "numProducts", unfollowed := true, recurses := true, apart := false, narrowed := true }
def NumProductsUptoSaid : Prop := numProductsUptoRow.holds Try.pinned (OpenSpec.upto numProductsSpec)

/-- 'tollerlaw02.NumFits', WHERE WHAT IT READS IS OF BULK AT MOST 1048576: true; the input reads as it did. -/
def numFitsUptoRow : OpenClaim := { program := "ytnicanbkocphlaa", sum := "86fb2879995f036ef944969ffa507b3b72fd05f6cf236a2e1f191459a3484943", func := "toller/tollerlaw02.NumFits", spec := "numFits", unfollowed := true, recurses := true, apart := false, narrowed := true }
def NumFitsUptoSaid : Prop := numFitsUptoRow.holds Try.pinned (OpenSpec.upto numFitsSpec)

/-- 'tollerlaw02.NumAsks', WHERE WHAT IT READS IS OF BULK AT MOST 1048576: true; the input reads as it did. -/
def numAsksUptoRow : OpenClaim := { program := "ytnicanbkocphlaa", sum := "86fb2879995f036ef944969ffa507b3b72fd05f6cf236a2e1f191459a3484943", func := "toller/tollerlaw02.NumAsks", spec := "numAsks", unfollowed := true, recurses := true, apart := false, narrowed := true }
def NumAsksUptoSaid : Prop := numAsksUptoRow.holds Try.pinned (OpenSpec.upto numAsksSpec)

end Rows
end Go.Proofs.Ytnicanbkocphlaa
