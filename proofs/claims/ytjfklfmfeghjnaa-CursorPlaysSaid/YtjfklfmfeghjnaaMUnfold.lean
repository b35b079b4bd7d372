/- Plain laws on folded numbers, back (layer 1). -/
import Derived.Test.YtjfklfmfeghjnaaMW
import Derived.Test.YtjfklfmfeghjnaaPAx11
namespace Go.Proofs.Ytjfklfmfeghjnaa.MUnfold
open Go.RowKit Go.Proofs.Ytjfklfmfeghjnaa.PA Go.Proofs.Ytjfklfmfeghjnaa.MW Go.Proofs.YtjfklfmfeghjnaaW.PrintWords Go.Proofs.YtjfklfmfeghjnaaW.PrintLast Go.Proofs.YtjfklfmfeghjnaaW.PrintMore

def unfoldN (n : Int) : Int := if n % 2 = 0 then n / 2 else -(n / 2) - 1
theorem unfold_eq {n : Int} (h0 : 0 ≤ n) (h1 : n < 18446744073709551616) : wire_Unfold.f n = some (unfoldN n) := by
 unfold wire_Unfold.f unfoldN
 congr 1
 have e1 : Go.bits .and .u64 n 1 = n % 2 := Lib.u64_and1 n h0 h1
 have e2 : wrap64 (n / 2) = (((n / 2).toNat : Nat) : Int) := by rw [w64 (by omega) (by omega)]; omega
 rw [e1, e2, w64 (x := n % 2) (by omega) (by omega), w64 (x := -(n % 2)) (by omega) (by omega)]
 by_cases h : n % 2 = 0
 ·rw [if_pos h, h]
  show IntKind.i64.wrap ((BitVec.ofInt 64 _ ^^^ BitVec.ofInt 64 (-0)).toNat : Int) = _
  rw [show (BitVec.ofInt 64 (-0)) = 0#64 by decide, BitVec.xor_zero, BitVec.ofInt_natCast, BitVec.toNat_ofNat, Nat.mod_eq_of_lt (by omega), IntKind.wrap_i64]
  omega
 ·rw [if_neg h, show -(n % 2) = -1 by omega]
  have hx : Go.bits .xor .i64 (((n / 2).toNat : Nat) : Int) (-1) = Go.bits .xor .i64 (-1) (((n / 2).toNat : Nat) : Int) := by
   show IntKind.i64.wrap ((BitVec.ofInt 64 _ ^^^ BitVec.ofInt 64 _).toNat : Int) = IntKind.i64.wrap ((BitVec.ofInt 64 _ ^^^ BitVec.ofInt 64 _).toNat : Int)
   rw [BitVec.xor_comm]
  rw [hx, Lib.i64_not _ (by omega)]
  omega
theorem refunfold_eq {n : Int} (h0 : 0 ≤ n) (h1 : n < 18446744073709551616) : tachographref01_Unfold.f n = some (unfoldN n) := by
 unfold tachographref01_Unfold.f unfoldN
 have e1 : Int.tmod n 2 = n % 2 := Int.tmod_eq_emod_of_nonneg h0
 have e2 : Int.tdiv n 2 = n / 2 := Int.tdiv_eq_ediv_of_nonneg h0
 rw [e1, e2, wu64 (x := n / 2) (by omega) (by omega), w64 (x := n / 2) (by omega) (by omega)]
 by_cases h : n % 2 = 0
 ·rw [if_pos h, if_pos h]
 ·rw [if_neg h, if_neg h, w64 (x := -(n / 2)) (by omega) (by omega), w64 (by omega) (by omega)]

end Go.Proofs.Ytjfklfmfeghjnaa.MUnfold
