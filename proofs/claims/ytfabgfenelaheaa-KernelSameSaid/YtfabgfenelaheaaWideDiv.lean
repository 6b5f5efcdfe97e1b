/- Contracts of wide.Div, wide.MulDiv. -/
import Derived.Test.YtfabgfenelaheaaWide
import Derived.Test.YtfabgfenelaheaaDivSpec
set_option linter.unusedVariables false
namespace Go.Proofs.Ytfabgfenelaheaa
open Go.RowKit

attribute [local go_sem] ite_min ite_max

theorem or_bit (t b : Int) (ht : 0 ≤ t) (ht' : t ≤ 9223372036854775807) (hb : b = 0 ∨ b = 1) : bits .or .u64 (t * 2) b = 2 * t + b := by
  rw [u64_or _ _ (by omega) (by omega) (by omega) (by omega)]
  have e : (t * 2).toNat = t.toNat <<< 1 := by rw [Nat.shiftLeft_eq]; omega
  rw [e, ← Nat.shiftLeft_add_eq_or_of_lt (by omega : b.toNat < 2 ^ 1)]
  rw [Nat.shiftLeft_eq]; omega

end Go.Proofs.Ytfabgfenelaheaa
