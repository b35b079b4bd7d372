/- LexNumbers, plainly. -/
import Derived.Test.YtjfklfmfeghjnacDoorMNum
import Derived.Test.YtjfklfmfeghjnacDoorPNx5
import Derived.Test.YtjfklfmfeghjnacDoorPNx7
set_option linter.unusedVariables false
namespace Go.Proofs.YtjfklfmfeghjnacDoor.Pure
open Go.RowKit Go.Proofs.YtjfklfmfeghjnacDoor.PN Go.Proofs.YtjfklfmfeghjnacDoor.MNum Go.Proofs.YtjfklfmfeghjnacDoor.MBase Go.Proofs.YtjfklfmfeghjnacDoorW.PrintWords Go.Proofs.YtjfklfmfeghjnacDoorW.PrintLast Go.Proofs.YtjfklfmfeghjnacDoorW.PrintMore

set_option maxRecDepth 100000 in
theorem fixed21 : Ev (fun k => tachographlaw21_fixed.f k) true := Ev.of (fun k => tachographlaw21_fixed.mono k) (k := 60) (by kernel_rfl)
theorem LexNumbers : tachographlaw21_LexNumbers.Pure := by
  intro s hs
  refine Ev.rounds ?_
  unfold tachographlaw21_LexNumbers.f
  by_cases hg : (s.size : Int) > 100
  · simp only [if_pos hg]
    exact Ev.bind fixed21 (Ev.now _)
  · simp only [if_neg hg]
    refine Ev.bind (signed_ev s (by omega)) (Ev.bind (rsigned_ev s (by omega)) (Ev.bind (unsigned_ev s (by omega)) (Ev.bind (runsigned_ev s (by omega)) (Ev.bind fixed21 ?_))))
    simp only [if_true, beq_self_eq_true]
    exact Ev.now _
end Go.Proofs.YtjfklfmfeghjnacDoor.Pure
