/- Contracts of the layer wide. -/
import Derived.Test.YtfabgfenelaheaaNum
import Derived.Test.YtfabgfenelaheaaWideSpec
set_option linter.unusedVariables false
namespace Go.Proofs.Ytfabgfenelaheaa
open Go.RowKit

attribute [local go_sem] ite_min ite_max

theorem and_mask (n : Int) (h0 : 0 ≤ n) (h1 : n ≤ 18446744073709551615) : bits .and .u64 n 4294967295 = n % 4294967296 := by
  rw [u64_and n 4294967295 h0 (by omega) (by omega) (by omega)]
  have e : (4294967295 : Int).toNat = 2 ^ 32 - 1 := by decide
  rw [e, Nat.and_two_pow_sub_one_eq_mod]
  omega

theorem or_low (t r : Int) (ht : 0 ≤ t) (ht' : t < 4294967296) (hr : 0 ≤ r) (hr' : r < 4294967296) : bits .or .u64 (t * 4294967296) r = t * 4294967296 + r := by
  rw [u64_or _ _ (by omega) (by omega) hr (by omega)]
  have e : (t * 4294967296).toNat = t.toNat <<< 32 := by rw [Nat.shiftLeft_eq]; omega
  rw [e, ← Nat.shiftLeft_add_eq_or_of_lt (by omega : r.toNat < 2 ^ 32)]
  rw [Nat.shiftLeft_eq]; omega

theorem wrap_shl32 (t : Int) : IntKind.u64.wrap (t * 4294967296) = t % 4294967296 * 4294967296 := by rw [IntKind.wrap_u64]; omega

theorem ret_2 {a b a' b' : Int} (h : a = a') (h' : b = b') : Ending.returned (.tuple #[.int .u64 a, .int .u64 b]) = .returned (.tuple #[.int .u64 a', .int .u64 b']) := by rw [h, h']

end Go.Proofs.Ytfabgfenelaheaa
