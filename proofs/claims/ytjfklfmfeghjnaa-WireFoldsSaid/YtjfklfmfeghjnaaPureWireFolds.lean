/- Proved: tachographlaw01.WireFolds answers true at every two whole numbers and every folded one: any whole number's folded one, and the whole number of any folded one, are the document's, there and back; what is nearer to 0 is folded to less. Conditions: none. -/
import Derived.Test.YtjfklfmfeghjnaaMWire
namespace Go.Proofs.Ytjfklfmfeghjnaa.Pure
open Go.RowKit Go.Proofs.Ytjfklfmfeghjnaa.PWire Go.Proofs.Ytjfklfmfeghjnaa.MWire Go.Proofs.YtjfklfmfeghjnaaW.PrintWords Go.Proofs.YtjfklfmfeghjnaaW.PrintLast

theorem WireFolds : tachographlaw01_WireFolds.Pure := by
  intro a0 a1 a2 h0 h1 h2
  have w0 := wf_i64 h0
  have w1 := wf_i64 h1
  have w2 := wf_u64 h2
  refine Ev.rounds (r := true) ?_
  refine Ev.congr (f := fun k => tachographlaw01_WireFolds.j0 k a0 a1 (foldN a0) false) (fun k => ?_) ?_
  · unfold tachographlaw01_WireFolds.f
    rw [fold_eq w0.1 w0.2, unfold_eq w2.1 w2.2, reffold_eq w0.1 w0.2, refunfold_eq w2.1 w2.2]
    simp only [Option.bind_some, if_true]
    have hf := foldN_range w0.1 w0.2
    have hu := unfoldN_range w2.1 w2.2
    rw [unfold_eq hf.1 hf.2]
    simp only [Option.bind_some]
    rw [unfold_fold, if_pos rfl, fold_eq hu.1 hu.2]
    simp only [Option.bind_some]
    rw [fold_unfold w2.1]
    simp
  · refine Ev.step (f := fun _ => some true) (fun k => ?_) (Ev.now _)
    have hf := foldN_inj a0 a1
    have hb : ((foldN a0 == foldN a1) == (a0 == a1)) = true := by
      by_cases e : a0 = a1
      · subst e; simp
      · have : foldN a0 ≠ foldN a1 := fun h => e (hf.1 h)
        rw [beq_eq_false_iff_ne.2 this, beq_eq_false_iff_ne.2 e]; rfl
    simp only [tachographlaw01_WireFolds.j0]
    rw [if_neg (by simp), fixed01, fold_eq w1.1 w1.2]
    simp only [Option.bind_some, if_true]
    rw [hb]
    by_cases p0 : a0 ≥ 0
    · rw [if_pos p0]
      by_cases p1 : a1 > a0
      · rw [if_pos p1, if_pos (by unfold foldN; rw [if_pos p0, if_pos (by omega)]; omega)]
      · rw [if_neg p1, if_neg (by omega)]
    · rw [if_neg p0, if_pos (by omega)]
      by_cases p1 : a1 < a0
      · rw [if_pos p1, if_pos (by unfold foldN; rw [if_neg p0, if_neg (by omega)]; omega)]
      · rw [if_neg p1]

end Go.Proofs.Ytjfklfmfeghjnaa.Pure
