/- Plain laws on folded numbers (layer 1). -/
import Derived.Test.YtmmfakdncjeoeaaMW
import Derived.Test.YtmmfakdncjeoeaaPCx4
namespace Go.Proofs.Ytmmfakdncjeoeaa.MFold
open Go.RowKit Go.Proofs.Ytmmfakdncjeoeaa.PC Go.Proofs.Ytmmfakdncjeoeaa.MW Go.Proofs.YtmmfakdncjeoeaaW.PrintWords Go.Proofs.YtmmfakdncjeoeaaW.PrintLast Go.Proofs.YtmmfakdncjeoeaaW.PrintMore

/-! ### Folded numbers -/
def foldN (x : Int) : Int := if 0 ≤ x then 2 * x else -2 * x - 1
theorem foldN_range {x : Int} (h0 : -9223372036854775808 ≤ x) (h1 : x < 9223372036854775808) : 0 ≤ foldN x ∧ foldN x < 18446744073709551616 := by unfold foldN; split <;> omega
theorem fold_eq {x : Int} (h0 : -9223372036854775808 ≤ x) (h1 : x < 9223372036854775808) : wire_Fold.f x = some (foldN x) := by
  unfold wire_Fold.f foldN
  congr 1
  by_cases h : 0 ≤ x
  · rw [if_pos h]
    have e1 : IntKind.u64.wrap (x / 9223372036854775808) = ((0 : Nat) : Int) := by rw [IntKind.wrap_u64]; omega
    have e2 : IntKind.u64.wrap (IntKind.u64.wrap x * 2) = (((2 * x).toNat : Nat) : Int) := by rw [IntKind.wrap_u64, IntKind.wrap_u64]; omega
    rw [e1, e2, u64_xor_nat _ _ (by omega) (by omega), Nat.xor_zero]
    omega
  · rw [if_neg h]
    have e1 : IntKind.u64.wrap (x / 9223372036854775808) = ((2 ^ 64 - 1 : Nat) : Int) := by rw [IntKind.wrap_u64]; omega
    have e2 : IntKind.u64.wrap (IntKind.u64.wrap x * 2) = (((2 * x + 18446744073709551616).toNat : Nat) : Int) := by rw [IntKind.wrap_u64, IntKind.wrap_u64]; omega
    rw [e1, e2, u64_xor_nat _ _ (by omega) (by omega), Nat.xor_comm, Lib.xor_ones64 _ (by omega)]
    omega
end Go.Proofs.Ytmmfakdncjeoeaa.MFold
