-- Contracts of Go functions, each with its plain Lean function: written by wip/tools/myprint.py of this work (the kit's print, with contracts proved by hand spliced in).
import Derived.Test.YtjfklfmfeghjnaaPSx0
namespace Go.Proofs.Ytjfklfmfeghjnaa.PS
open Go.RowKit Go.Proofs.YtjfklfmfeghjnaaW.PrintWords Go.Proofs.YtjfklfmfeghjnaaW.PrintLast Go.Proofs.YtjfklfmfeghjnaaW.PrintMore
attribute [local go_sem] max2_int min2_int max_two min_two max_three min_three max_four min_four   -- for this text's walks alone
set_option linter.unusedVariables false
set_option linter.unusedSimpArgs false

theorem eqA110 (d : Nat) (w : World) (x0 y0 : ByteArray) :
    (Op.equalIn (d + 2) 110 (.agg #[.string x0]) (.agg #[.string y0])).run Try.prog w = .ok (x0.toList == y0.toList) w := by
  refine eqA_of Try.underlying110 (by kernel_rfl) ?_
  exact eqf_last (by rfl) (by go_simp; rfl) (by go_simp; rfl) (by go_simp)
end Go.Proofs.Ytjfklfmfeghjnaa.PS
