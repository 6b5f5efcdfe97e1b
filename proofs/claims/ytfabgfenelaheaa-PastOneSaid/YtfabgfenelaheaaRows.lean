/-
  No cell of these rows narrows 'for every input' (looked for: loops, veiled, ifaces, maps, wideKeys, modest, calm, conditions, laid).
  DERIVED. THE GIVEN ROWS OF THIS SEAT. 14 by the template 'for every input the law returns true; each argument reads behind the call as it read before'; 0 by the template 'total and deterministic' (their statements: YtfabgfenelaheaaTotals.lean).
  GIVEN WITH THE SEED: the statements are not yours to turn. If you find one false, say at which input.
  Laid BY PROGRAM, IN A SANDBOX (cutbox-rows.mjs): the forced cells as the released guide's own fill.sh prints them over the translation 9661d47d8f78c1a2… (all of the seat's roots in one cut). By AI agents, Wed Nov 11 2026. No macro, syntax, notation, axiom, sorry.
-/
import Derived.Test.YtfabgfenelaheaaChecked
import GoSem.Claim
import GoSem.ClaimJoined
import GoSem.ClaimMapViews
import Derived.JoinedTies
import Derived.KernelRfl
namespace Go.Proofs.Ytfabgfenelaheaa
/- THE CELL 'sum', in the pinned program and in every row, IS THE sha256 OF THE DUMP (.gsa) THAT YtfabgfenelaheaaProg.lean LOADS. Nothing in Lean hashes anything: it is a label: what it is worth is what the hold of that sum in a sandbox is worth. -/
noncomputable def Try.pinned : Pinned := { name := "ytfabgfenelaheaa", sum := "9661d47d8f78c1a289f7fd8a6b14a403f89db36c7ca6528bbfa21e6e69fea27f", checked := Try.checked }
namespace Rows
def none {H : Type} : Left H := { results := [], args := [] }

/-- 'tollerlaw08.PastAsks': WHATEVER THE INPUT: true; the input reads as it did. -/
def pastAsksSpec : ChangeSpec := { name := "pastAsks", fn := fun _ => fun
  | [d1, d2, d3, d4, d5, d6, d7] => { results := [.lit (.bool true)], args := [d1, d2, d3, d4, d5, d6, d7] }
  | _ => none }
def pastAsksRow : OpenClaim := { program := "ytfabgfenelaheaa", sum := "9661d47d8f78c1a289f7fd8a6b14a403f89db36c7ca6528bbfa21e6e69fea27f", func := "toller/tollerlaw08.PastAsks", spec := "pastAsks", unfollowed := true, recurses := true, apart := false }
def PastAsksSaid : Prop := pastAsksRow.holds Try.pinned (OpenSpec.ofChange pastAsksSpec)

/-- ITS FALSE NEIGHBOUR: 'it returns false'. Refute it at one input. -/
def pastAsksWrong : ChangeSpec := { name := "pastAsks", fn := fun _ => fun
  | [d1, d2, d3, d4, d5, d6, d7] => { results := [.lit (.bool false)], args := [d1, d2, d3, d4, d5, d6, d7] }
  | _ => none }
def PastAsksWrongFalsely : Prop := pastAsksRow.holds Try.pinned (OpenSpec.ofChange pastAsksWrong)

/-- 'tollerlaw08.PastMeter': WHATEVER THE INPUT: true; the input reads as it did. -/
def pastMeterSpec : ChangeSpec := { name := "pastMeter", fn := fun _ => fun
  | [d1, d2] => { results := [.lit (.bool true)], args := [d1, d2] }
  | _ => none }
def pastMeterRow : OpenClaim := { program := "ytfabgfenelaheaa", sum := "9661d47d8f78c1a289f7fd8a6b14a403f89db36c7ca6528bbfa21e6e69fea27f", func := "toller/tollerlaw08.PastMeter", spec := "pastMeter", unfollowed := true, recurses := true, apart := false }
def PastMeterSaid : Prop := pastMeterRow.holds Try.pinned (OpenSpec.ofChange pastMeterSpec)

/-- ITS FALSE NEIGHBOUR: 'it returns false'. Refute it at one input. -/
def pastMeterWrong : ChangeSpec := { name := "pastMeter", fn := fun _ => fun
  | [d1, d2] => { results := [.lit (.bool false)], args := [d1, d2] }
  | _ => none }
def PastMeterWrongFalsely : Prop := pastMeterRow.holds Try.pinned (OpenSpec.ofChange pastMeterWrong)

/-- 'tollerlaw08.PastParts': WHATEVER THE INPUT: true; the input reads as it did. -/
def pastPartsSpec : ChangeSpec := { name := "pastParts", fn := fun _ => fun
  | [d1, d2, d3, d4, d5, d6, d7] => { results := [.lit (.bool true)], args := [d1, d2, d3, d4, d5, d6, d7] }
  | _ => none }
def pastPartsRow : OpenClaim := { program := "ytfabgfenelaheaa", sum := "9661d47d8f78c1a289f7fd8a6b14a403f89db36c7ca6528bbfa21e6e69fea27f", func := "toller/tollerlaw08.PastParts", spec := "pastParts", unfollowed := true, recurses := true, apart := false }
def PastPartsSaid : Prop := pastPartsRow.holds Try.pinned (OpenSpec.ofChange pastPartsSpec)

/-- ITS FALSE NEIGHBOUR: 'it returns false'. Refute it at one input. -/
def pastPartsWrong : ChangeSpec := { name := "pastParts", fn := fun _ => fun
  | [d1, d2, d3, d4, d5, d6, d7] => { results := [.lit (.bool false)], args := [d1, d2, d3, d4, d5, d6, d7] }
  | _ => none }
def PastPartsWrongFalsely : Prop := pastPartsRow.holds Try.pinned (OpenSpec.ofChange pastPartsWrong)

/-- 'tollerlaw08.PastTime': WHATEVER THE INPUT: true; the input reads as it did. -/
def pastTimeSpec : ChangeSpec := { name := "pastTime", fn := fun _ => fun
  | [d1, d2, d3] => { results := [.lit (.bool true)], args := [d1, d2, d3] }
  | _ => none }
def pastTimeRow : OpenClaim := { program := "ytfabgfenelaheaa", sum := "9661d47d8f78c1a289f7fd8a6b14a403f89db36c7ca6528bbfa21e6e69fea27f", func := "toller/tollerlaw08.PastTime", spec := "pastTime", unfollowed := true, recurses := true, apart := false }
def PastTimeSaid : Prop := pastTimeRow.holds Try.pinned (OpenSpec.ofChange pastTimeSpec)

/-- ITS FALSE NEIGHBOUR: 'it returns false'. Refute it at one input. -/
def pastTimeWrong : ChangeSpec := { name := "pastTime", fn := fun _ => fun
  | [d1, d2, d3] => { results := [.lit (.bool false)], args := [d1, d2, d3] }
  | _ => none }
def PastTimeWrongFalsely : Prop := pastTimeRow.holds Try.pinned (OpenSpec.ofChange pastTimeWrong)

/-- 'tollerlaw08.PastFresh': WHATEVER THE INPUT: true; the input reads as it did. -/
def pastFreshSpec : ChangeSpec := { name := "pastFresh", fn := fun _ => fun
  | [d1, d2, d3, d4] => { results := [.lit (.bool true)], args := [d1, d2, d3, d4] }
  | _ => none }
def pastFreshRow : OpenClaim := { program := "ytfabgfenelaheaa", sum := "9661d47d8f78c1a289f7fd8a6b14a403f89db36c7ca6528bbfa21e6e69fea27f", func := "toller/tollerlaw08.PastFresh", spec := "pastFresh", unfollowed := true, recurses := true, apart := false }
def PastFreshSaid : Prop := pastFreshRow.holds Try.pinned (OpenSpec.ofChange pastFreshSpec)

/-- ITS FALSE NEIGHBOUR: 'it returns false'. Refute it at one input. -/
def pastFreshWrong : ChangeSpec := { name := "pastFresh", fn := fun _ => fun
  | [d1, d2, d3, d4] => { results := [.lit (.bool false)], args := [d1, d2, d3, d4] }
  | _ => none }
def PastFreshWrongFalsely : Prop := pastFreshRow.holds Try.pinned (OpenSpec.ofChange pastFreshWrong)

/-- 'tollerlaw08.PastOne': WHATEVER THE INPUT: true; the input reads as it did. -/
def pastOneSpec : ChangeSpec := { name := "pastOne", fn := fun _ => fun
  | [d1, d2, d3, d4, d5] => { results := [.lit (.bool true)], args := [d1, d2, d3, d4, d5] }
  | _ => none }
def pastOneRow : OpenClaim := { program := "ytfabgfenelaheaa", sum := "9661d47d8f78c1a289f7fd8a6b14a403f89db36c7ca6528bbfa21e6e69fea27f", func := "toller/tollerlaw08.PastOne", spec := "pastOne", unfollowed := true, recurses := true, apart := false }
def PastOneSaid : Prop := pastOneRow.holds Try.pinned (OpenSpec.ofChange pastOneSpec)

/-- ITS FALSE NEIGHBOUR: 'it returns false'. Refute it at one input. -/
def pastOneWrong : ChangeSpec := { name := "pastOne", fn := fun _ => fun
  | [d1, d2, d3, d4, d5] => { results := [.lit (.bool false)], args := [d1, d2, d3, d4, d5] }
  | _ => none }
def PastOneWrongFalsely : Prop := pastOneRow.holds Try.pinned (OpenSpec.ofChange pastOneWrong)

/-- 'tollerlaw08.PastShift': WHATEVER THE INPUT: true; the input reads as it did. -/
def pastShiftSpec : ChangeSpec := { name := "pastShift", fn := fun _ => fun
  | [d1, d2, d3, d4] => { results := [.lit (.bool true)], args := [d1, d2, d3, d4] }
  | _ => none }
def pastShiftRow : OpenClaim := { program := "ytfabgfenelaheaa", sum := "9661d47d8f78c1a289f7fd8a6b14a403f89db36c7ca6528bbfa21e6e69fea27f", func := "toller/tollerlaw08.PastShift", spec := "pastShift", unfollowed := true, recurses := true, apart := false }
def PastShiftSaid : Prop := pastShiftRow.holds Try.pinned (OpenSpec.ofChange pastShiftSpec)

/-- ITS FALSE NEIGHBOUR: 'it returns false'. Refute it at one input. -/
def pastShiftWrong : ChangeSpec := { name := "pastShift", fn := fun _ => fun
  | [d1, d2, d3, d4] => { results := [.lit (.bool false)], args := [d1, d2, d3, d4] }
  | _ => none }
def PastShiftWrongFalsely : Prop := pastShiftRow.holds Try.pinned (OpenSpec.ofChange pastShiftWrong)

/-- 'tollerlaw07.KernelMoves': WHATEVER THE INPUT: true; the input reads as it did. -/
def kernelMovesSpec : ChangeSpec := { name := "kernelMoves", fn := fun _ => fun
  | [d1, d2, d3, d4, d5, d6, d7] => { results := [.lit (.bool true)], args := [d1, d2, d3, d4, d5, d6, d7] }
  | _ => none }
def kernelMovesRow : OpenClaim := { program := "ytfabgfenelaheaa", sum := "9661d47d8f78c1a289f7fd8a6b14a403f89db36c7ca6528bbfa21e6e69fea27f", func := "toller/tollerlaw07.KernelMoves", spec := "kernelMoves", unfollowed := true, recurses := true, apart := false }
def KernelMovesSaid : Prop := kernelMovesRow.holds Try.pinned (OpenSpec.ofChange kernelMovesSpec)

/-- ITS FALSE NEIGHBOUR: 'it returns false'. Refute it at one input. -/
def kernelMovesWrong : ChangeSpec := { name := "kernelMoves", fn := fun _ => fun
  | [d1, d2, d3, d4, d5, d6, d7] => { results := [.lit (.bool false)], args := [d1, d2, d3, d4, d5, d6, d7] }
  | _ => none }
def KernelMovesWrongFalsely : Prop := kernelMovesRow.holds Try.pinned (OpenSpec.ofChange kernelMovesWrong)

/-- 'tollerlaw07.KernelUntil': WHATEVER THE INPUT: true; the input reads as it did. -/
def kernelUntilSpec : ChangeSpec := { name := "kernelUntil", fn := fun _ => fun
  | [d1, d2, d3, d4] => { results := [.lit (.bool true)], args := [d1, d2, d3, d4] }
  | _ => none }
def kernelUntilRow : OpenClaim := { program := "ytfabgfenelaheaa", sum := "9661d47d8f78c1a289f7fd8a6b14a403f89db36c7ca6528bbfa21e6e69fea27f", func := "toller/tollerlaw07.KernelUntil", spec := "kernelUntil", unfollowed := true, recurses := true, apart := false }
def KernelUntilSaid : Prop := kernelUntilRow.holds Try.pinned (OpenSpec.ofChange kernelUntilSpec)

/-- ITS FALSE NEIGHBOUR: 'it returns false'. Refute it at one input. -/
def kernelUntilWrong : ChangeSpec := { name := "kernelUntil", fn := fun _ => fun
  | [d1, d2, d3, d4] => { results := [.lit (.bool false)], args := [d1, d2, d3, d4] }
  | _ => none }
def KernelUntilWrongFalsely : Prop := kernelUntilRow.holds Try.pinned (OpenSpec.ofChange kernelUntilWrong)

/-- 'tollerlaw07.KernelLeft': WHATEVER THE INPUT: true; the input reads as it did. -/
def kernelLeftSpec : ChangeSpec := { name := "kernelLeft", fn := fun _ => fun
  | [d1, d2, d3, d4, d5] => { results := [.lit (.bool true)], args := [d1, d2, d3, d4, d5] }
  | _ => none }
def kernelLeftRow : OpenClaim := { program := "ytfabgfenelaheaa", sum := "9661d47d8f78c1a289f7fd8a6b14a403f89db36c7ca6528bbfa21e6e69fea27f", func := "toller/tollerlaw07.KernelLeft", spec := "kernelLeft", unfollowed := true, recurses := true, apart := false }
def KernelLeftSaid : Prop := kernelLeftRow.holds Try.pinned (OpenSpec.ofChange kernelLeftSpec)

/-- ITS FALSE NEIGHBOUR: 'it returns false'. Refute it at one input. -/
def kernelLeftWrong : ChangeSpec := { name := "kernelLeft", fn := fun _ => fun
  | [d1, d2, d3, d4, d5] => { results := [.lit (.bool false)], args := [d1, d2, d3, d4, d5] }
  | _ => none }
def KernelLeftWrongFalsely : Prop := kernelLeftRow.holds Try.pinned (OpenSpec.ofChange kernelLeftWrong)

/-- 'tollerlaw07.KernelSame': WHATEVER THE INPUT: true; the input reads as it did. -/
def kernelSameSpec : ChangeSpec := { name := "kernelSame", fn := fun _ => fun
  | [d1, d2, d3] => { results := [.lit (.bool true)], args := [d1, d2, d3] }
  | _ => none }
def kernelSameRow : OpenClaim := { program := "ytfabgfenelaheaa", sum := "9661d47d8f78c1a289f7fd8a6b14a403f89db36c7ca6528bbfa21e6e69fea27f", func := "toller/tollerlaw07.KernelSame", spec := "kernelSame", unfollowed := true, recurses := true, apart := false }
def KernelSameSaid : Prop := kernelSameRow.holds Try.pinned (OpenSpec.ofChange kernelSameSpec)

/-- ITS FALSE NEIGHBOUR: 'it returns false'. Refute it at one input. -/
def kernelSameWrong : ChangeSpec := { name := "kernelSame", fn := fun _ => fun
  | [d1, d2, d3] => { results := [.lit (.bool false)], args := [d1, d2, d3] }
  | _ => none }
def KernelSameWrongFalsely : Prop := kernelSameRow.holds Try.pinned (OpenSpec.ofChange kernelSameWrong)

/-- 'tollerlaw07.KernelNone': WHATEVER THE INPUT: true; the input reads as it did. -/
def kernelNoneSpec : ChangeSpec := { name := "kernelNone", fn := fun _ => fun
  | [d1, d2, d3, d4, d5] => { results := [.lit (.bool true)], args := [d1, d2, d3, d4, d5] }
  | _ => none }
def kernelNoneRow : OpenClaim := { program := "ytfabgfenelaheaa", sum := "9661d47d8f78c1a289f7fd8a6b14a403f89db36c7ca6528bbfa21e6e69fea27f", func := "toller/tollerlaw07.KernelNone", spec := "kernelNone", unfollowed := true, recurses := true, apart := false }
def KernelNoneSaid : Prop := kernelNoneRow.holds Try.pinned (OpenSpec.ofChange kernelNoneSpec)

/-- ITS FALSE NEIGHBOUR: 'it returns false'. Refute it at one input. -/
def kernelNoneWrong : ChangeSpec := { name := "kernelNone", fn := fun _ => fun
  | [d1, d2, d3, d4, d5] => { results := [.lit (.bool false)], args := [d1, d2, d3, d4, d5] }
  | _ => none }
def KernelNoneWrongFalsely : Prop := kernelNoneRow.holds Try.pinned (OpenSpec.ofChange kernelNoneWrong)

/-- 'tollerlaw07.KernelWaits': WHATEVER THE INPUT: true; the input reads as it did. -/
def kernelWaitsSpec : ChangeSpec := { name := "kernelWaits", fn := fun _ => fun
  | [d1, d2, d3, d4, d5, d6] => { results := [.lit (.bool true)], args := [d1, d2, d3, d4, d5, d6] }
  | _ => none }
def kernelWaitsRow : OpenClaim := { program := "ytfabgfenelaheaa", sum := "9661d47d8f78c1a289f7fd8a6b14a403f89db36c7ca6528bbfa21e6e69fea27f", func := "toller/tollerlaw07.KernelWaits", spec := "kernelWaits", unfollowed := true, recurses := true, apart := false }
def KernelWaitsSaid : Prop := kernelWaitsRow.holds Try.pinned (OpenSpec.ofChange kernelWaitsSpec)

/-- ITS FALSE NEIGHBOUR: 'it returns false'. Refute it at one input. -/
def kernelWaitsWrong : ChangeSpec := { name := "kernelWaits", fn := fun _ => fun
  | [d1, d2, d3, d4, d5, d6] => { results := [.lit (.bool false)], args := [d1, d2, d3, d4, d5, d6] }
  | _ => none }
def KernelWaitsWrongFalsely : Prop := kernelWaitsRow.holds Try.pinned (OpenSpec.ofChange kernelWaitsWrong)

/-- 'tollerlaw07.KernelAsks': WHATEVER THE INPUT: true; the input reads as it did. -/
def kernelAsksSpec : ChangeSpec := { name := "kernelAsks", fn := fun _ => fun
  | [d1, d2, d3, d4, d5, d6, d7, d8, d9, d10, d11] => { results := [.lit (.bool true)], args := [d1, d2, d3, d4, d5, d6, d7, d8, d9, d10, d11] }
  | _ => none }
def kernelAsksRow : OpenClaim := { program := "ytfabgfenelaheaa", sum := "9661d47d8f78c1a289f7fd8a6b14a403f89db36c7ca6528bbfa21e6e69fea27f", func := "toller/tollerlaw07.KernelAsks", spec := "kernelAsks", unfollowed := true, recurses := true, apart := false }
def KernelAsksSaid : Prop := kernelAsksRow.holds Try.pinned (OpenSpec.ofChange kernelAsksSpec)

/-- ITS FALSE NEIGHBOUR: 'it returns false'. Refute it at one input. -/
def kernelAsksWrong : ChangeSpec := { name := "kernelAsks", fn := fun _ => fun
  | [d1, d2, d3, d4, d5, d6, d7, d8, d9, d10, d11] => { results := [.lit (.bool false)], args := [d1, d2, d3, d4, d5, d6, d7, d8, d9, d10, d11] }
  | _ => none }
def KernelAsksWrongFalsely : Prop := kernelAsksRow.holds Try.pinned (OpenSpec.ofChange kernelAsksWrong)

/- THE SECOND FORM. 'bulk': how many values and letters a reading holds, each counted each time it is reached (what is shared counts as often as it is met; a slice's spare places count too). A statement '..UptoSaid' is the law's where the arguments, and the package variables that the reading takes, are together of bulk at most 1048576: NARROWER than '..Said'. Prove '..Said' where nothing that the law and all that it calls make is longer than what came in: it says more and counts as full. Else prove '..UptoSaid'. A law counts once. -/
mutual
def uptoBulk {H : Type} : DataW H → Nat
  | .lit (.string bytes) => bytes.length + 1
  | .lit _ => 1
  | .nil => 1
  | .ptr d => uptoBulk d + 1
  | .slice elems spare => uptoBulkAll elems + uptoBulkAll spare + 1
  | .agg parts => uptoBulkAll parts + 1
  | .iface _ d => uptoBulk d + 1
  | .map entries => uptoBulkEntries entries + 1
  | .held _ => 1
def uptoBulkAll {H : Type} : List (DataW H) → Nat
  | [] => 0
  | d :: r => uptoBulk d + uptoBulkAll r
def uptoBulkEntries {H : Type} : List (Lit × DataW H) → Nat
  | [] => 0
  | x :: r => uptoBulkEntry x + uptoBulkEntries r
def uptoBulkEntry {H : Type} : Lit × DataW H → Nat
  | (.string bytes, d) => bytes.length + uptoBulk d + 1
  | (_, d) => uptoBulk d + 1
 end
def uptoSmall : (H : Type) → List (DataW H) → Bool := fun _ ds => decide (uptoBulkAll ds ≤ 1048576)
def OpenSpec.upto (s : _root_.Go.ChangeSpec) : _root_.Go.OpenSpec := { _root_.Go.OpenSpec.ofChange s with cond := some uptoSmall }

/-- 'tollerlaw08.PastAsks', WHERE WHAT IT READS IS OF BULK AT MOST 1048576: true; the input reads as it did. -/
def pastAsksUptoRow : OpenClaim := { program := "ytfabgfenelaheaa", sum := "9661d47d8f78c1a289f7fd8a6b14a403f89db36c7ca6528bbfa21e6e69fea27f", func := "toller/tollerlaw08.PastAsks", spec := "pastAsks", unfollowed := true, recurses := true, apart := false, narrowed := true }
def PastAsksUptoSaid : Prop := pastAsksUptoRow.holds Try.pinned (OpenSpec.upto pastAsksSpec)

/-- 'tollerlaw08.PastMeter', WHERE WHAT IT READS IS OF BULK AT MOST 1048576: true; the input reads as it did. -/
def pastMeterUptoRow : OpenClaim := { program := "ytfabgfenelaheaa", sum := "9661d47d8f78c1a289f7fd8a6b14a403f89db36c7ca6528bbfa21e6e69fea27f", func := "toller/tollerlaw08.PastMeter", spec := "pastMeter", unfollowed := true, recurses := true, apart := false, narrowed := true }
def PastMeterUptoSaid : Prop := pastMeterUptoRow.holds Try.pinned (OpenSpec.upto pastMeterSpec)

/-- 'tollerlaw08.PastParts', WHERE WHAT IT READS IS OF BULK AT MOST 1048576: true; the input reads as it did. -/
def pastPartsUptoRow : OpenClaim := { program := "ytfabgfenelaheaa", sum := "9661d47d8f78c1a289f7fd8a6b14a403f89db36c7ca6528bbfa21e6e69fea27f", func := "toller/tollerlaw08.PastParts", spec := "pastParts", unfollowed := true, recurses := true, apart := false, narrowed := true }
def PastPartsUptoSaid : Prop := pastPartsUptoRow.holds Try.pinned (OpenSpec.upto pastPartsSpec)

/-- 'tollerlaw08.PastTime', WHERE WHAT IT READS IS OF BULK AT MOST 1048576: true; the input reads as it did. -/
def pastTimeUptoRow : OpenClaim := { program := "ytfabgfenelaheaa", sum := "9661d47d8f78c1a289f7fd8a6b14a403f89db36c7ca6528bbfa21e6e69fea27f", func := "toller/tollerlaw08.PastTime", spec := "pastTime", unfollowed := true, recurses := true, apart := false, narrowed := true }
def PastTimeUptoSaid : Prop := pastTimeUptoRow.holds Try.pinned (OpenSpec.upto pastTimeSpec)

/-- 'tollerlaw08.PastFresh', WHERE WHAT IT READS IS OF BULK AT MOST 1048576: true; the input reads as it did. -/
def pastFreshUptoRow : OpenClaim := { program := "ytfabgfenelaheaa", sum := "9661d47d8f78c1a289f7fd8a6b14a403f89db36c7ca6528bbfa21e6e69fea27f", func := "toller/tollerlaw08.PastFresh", spec := "pastFresh", unfollowed := true, recurses := true, apart := false, narrowed := true }
def PastFreshUptoSaid : Prop := pastFreshUptoRow.holds Try.pinned (OpenSpec.upto pastFreshSpec)

/-- 'tollerlaw08.PastOne', WHERE WHAT IT READS IS OF BULK AT MOST 1048576: true; the input reads as it did. -/
def pastOneUptoRow : OpenClaim := { program := "ytfabgfenelaheaa", sum := "9661d47d8f78c1a289f7fd8a6b14a403f89db36c7ca6528bbfa21e6e69fea27f", func := "toller/tollerlaw08.PastOne", spec := "pastOne", unfollowed := true, recurses := true, apart := false, narrowed := true }
def PastOneUptoSaid : Prop := pastOneUptoRow.holds Try.pinned (OpenSpec.upto pastOneSpec)

/-- 'tollerlaw08.PastShift', WHERE WHAT IT READS IS OF BULK AT MOST 1048576: true; the input reads as it did. -/
def pastShiftUptoRow : OpenClaim := { program := "ytfabgfenelaheaa", sum := "9661d47d8f78c1a289f7fd8a6b14a403f89db36c7ca6528bbfa21e6e69fea27f", func := "toller/tollerlaw08.PastShift", spec := "pastShift", unfollowed := true, recurses := true, apart := false, narrowed := true }
def PastShiftUptoSaid : Prop := pastShiftUptoRow.holds Try.pinned (OpenSpec.upto pastShiftSpec)

/-- 'tollerlaw07.KernelMoves', WHERE WHAT IT READS IS OF BULK AT MOST 1048576: true; the input reads as it did. -/
def kernelMovesUptoRow : OpenClaim := { program := "ytfabgfenelaheaa", sum := "9661d47d8f78c1a289f7fd8a6b14a403f89db36c7ca6528bbfa21e6e69fea27f", func := "toller/tollerlaw07.KernelMoves", spec := "kernelMoves", unfollowed := true, recurses := true, apart := false, narrowed := true }
def KernelMovesUptoSaid : Prop := kernelMovesUptoRow.holds Try.pinned (OpenSpec.upto kernelMovesSpec)

/-- 'tollerlaw07.KernelUntil', WHERE WHAT IT READS IS OF BULK AT MOST 1048576: true; the input reads as it did. -/
def kernelUntilUptoRow : OpenClaim := { program := "ytfabgfenelaheaa", sum := "9661d47d8f78c1a289f7fd8a6b14a403f89db36c7ca6528bbfa21e6e69fea27f", func := "toller/tollerlaw07.KernelUntil", spec := "kernelUntil", unfollowed := true, recurses := true, apart := false, narrowed := true }
def KernelUntilUptoSaid : Prop := kernelUntilUptoRow.holds Try.pinned (OpenSpec.upto kernelUntilSpec)

/-- 'tollerlaw07.KernelLeft', WHERE WHAT IT READS IS OF BULK AT MOST 1048576: true; the input reads as it did. -/
def kernelLeftUptoRow : OpenClaim := { program := "ytfabgfenelaheaa", sum := "9661d47d8f78c1a289f7fd8a6b14a403f89db36c7ca6528bbfa21e6e69fea27f", func := "toller/tollerlaw07.KernelLeft", spec := "kernelLeft", unfollowed := true, recurses := true, apart := false, narrowed := true }
def KernelLeftUptoSaid : Prop := kernelLeftUptoRow.holds Try.pinned (OpenSpec.upto kernelLeftSpec)

/-- 'tollerlaw07.KernelSame', WHERE WHAT IT READS IS OF BULK AT MOST 1048576: true; the input reads as it did. -/
def kernelSameUptoRow : OpenClaim := { program := "ytfabgfenelaheaa", sum := "9661d47d8f78c1a289f7fd8a6b14a403f89db36c7ca6528bbfa21e6e69fea27f", func := "toller/tollerlaw07.KernelSame", spec := "kernelSame", unfollowed := true, recurses := true, apart := false, narrowed := true }
def KernelSameUptoSaid : Prop := kernelSameUptoRow.holds Try.pinned (OpenSpec.upto kernelSameSpec)

/-- 'tollerlaw07.KernelNone', WHERE WHAT IT READS IS OF BULK AT MOST 1048576: true; the input reads as it did. -/
def kernelNoneUptoRow : OpenClaim := { program := "ytfabgfenelaheaa", sum := "9661d47d8f78c1a289f7fd8a6b14a403f89db36c7ca6528bbfa21e6e69fea27f", func := "toller/tollerlaw07.KernelNone", spec := "kernelNone", unfollowed := true, recurses := true, apart := false, narrowed := true }
def KernelNoneUptoSaid : Prop := kernelNoneUptoRow.holds Try.pinned (OpenSpec.upto kernelNoneSpec)

/-- 'tollerlaw07.KernelWaits', WHERE WHAT IT READS IS OF BULK AT MOST 1048576: true; the input reads as it did. -/
def kernelWaitsUptoRow : OpenClaim := { program := "ytfabgfenelaheaa", sum := "9661d47d8f78c1a289f7fd8a6b14a403f89db36c7ca6528bbfa21e6e69fea27f", func := "toller/tollerlaw07.KernelWaits", spec := "kernelWaits", unfollowed := true, recurses := true, apart := false, narrowed := true }
def KernelWaitsUptoSaid : Prop := kernelWaitsUptoRow.holds Try.pinned (OpenSpec.upto kernelWaitsSpec)

/-- 'tollerlaw07.KernelAsks', WHERE WHAT IT READS IS OF BULK AT MOST 1048576: true; the input reads as it did. -/
def kernelAsksUptoRow : OpenClaim := { program := "ytfabgfenelaheaa", sum := "9661d47d8f78c1a289f7fd8a6b14a403f89db36c7ca6528bbfa21e6e69fea27f", func := "toller/tollerlaw07.KernelAsks", spec := "kernelAsks", unfollowed := true, recurses := true, apart := false, narrowed := true }
def KernelAsksUptoSaid : Prop := kernelAsksUptoRow.holds Try.pinned (OpenSpec.upto kernelAsksSpec)

end Rows
end Go.Proofs.Ytfabgfenelaheaa
