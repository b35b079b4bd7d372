/- Plain laws on folded numbers (layer 1). -/
import Derived.Test.YtjfklfmfeghjnabMW
import Derived.Test.YtjfklfmfeghjnabPKx4
namespace Go.Proofs.Ytjfklfmfeghjnab.MFold
open Go.RowKit Go.Proofs.Ytjfklfmfeghjnab.PK Go.Proofs.Ytjfklfmfeghjnab.MW Go.Proofs.YtjfklfmfeghjnabW.PrintWords Go.Proofs.YtjfklfmfeghjnabW.PrintLast Go.Proofs.YtjfklfmfeghjnabW.PrintMore

/-! ### Folded numbers -/
def foldN (x : Int) : Int := if 0 ≤ x then 2 * x else -2 * x - 1
def unfoldN (n : Int) : Int := if n % 2 = 0 then n / 2 else -(n / 2) - 1
theorem foldN_range {x : Int} (h0 : -9223372036854775808 ≤ x) (h1 : x < 9223372036854775808) : 0 ≤ foldN x ∧ foldN x < 18446744073709551616 := by unfold foldN; split <;> omega
theorem unfoldN_range {n : Int} (h0 : 0 ≤ n) (h1 : n < 18446744073709551616) : -9223372036854775808 ≤ unfoldN n ∧ unfoldN n < 9223372036854775808 := by unfold unfoldN; split <;> omega
theorem unfold_fold (x : Int) : unfoldN (foldN x) = x := by
  unfold unfoldN foldN
  by_cases h : 0 ≤ x
  · rw [if_pos h, if_pos (by omega)]; omega
  · rw [if_neg h, if_neg (by omega)]; omega
theorem fold_unfold {n : Int} (h : 0 ≤ n) : foldN (unfoldN n) = n := by
  unfold unfoldN foldN
  by_cases h2 : n % 2 = 0
  · rw [if_pos h2, if_pos (by omega)]; omega
  · rw [if_neg h2, if_neg (by omega)]; omega
theorem foldN_inj (x y : Int) : foldN x = foldN y ↔ x = y := ⟨fun h => by rw [← unfold_fold x, h, unfold_fold], fun h => by rw [h]⟩
theorem fold_eq {x : Int} (h0 : -9223372036854775808 ≤ x) (h1 : x < 9223372036854775808) : wire_Fold.f x = some (foldN x) := by
  unfold wire_Fold.f foldN
  congr 1
  by_cases h : 0 ≤ x
  · rw [if_pos h]
    have e1 : IntKind.u64.wrap (x / 9223372036854775808) = ((0 : Nat) : Int) := by rw [IntKind.wrap_u64]; omega
    have e2 : IntKind.u64.wrap (IntKind.u64.wrap x * 2) = (((2 * x).toNat : Nat) : Int) := by rw [IntKind.wrap_u64, IntKind.wrap_u64]; omega
    rw [e1, e2, u64_xor_nat _ _ (by omega) (by omega), Nat.xor_zero]
    omega
  · rw [if_neg h]
    have e1 : IntKind.u64.wrap (x / 9223372036854775808) = ((2 ^ 64 - 1 : Nat) : Int) := by rw [IntKind.wrap_u64]; omega
    have e2 : IntKind.u64.wrap (IntKind.u64.wrap x * 2) = (((2 * x + 18446744073709551616).toNat : Nat) : Int) := by rw [IntKind.wrap_u64, IntKind.wrap_u64]; omega
    rw [e1, e2, u64_xor_nat _ _ (by omega) (by omega), Nat.xor_comm, Lib.xor_ones64 _ (by omega)]
    omega
end Go.Proofs.Ytjfklfmfeghjnab.MFold
