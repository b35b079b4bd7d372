/- LexAll, plainly. -/
import Derived.Test.YtjfklfmfeghjnacMLexRun
import Derived.Test.YtjfklfmfeghjnacPLx10
set_option linter.unusedVariables false
namespace Go.Proofs.Ytjfklfmfeghjnac.Pure
open Go.RowKit Go.Proofs.Ytjfklfmfeghjnac.PL Go.Proofs.Ytjfklfmfeghjnac.MLex Go.Proofs.Ytjfklfmfeghjnac.MBase Go.Proofs.YtjfklfmfeghjnacW.PrintWords Go.Proofs.YtjfklfmfeghjnacW.PrintLast Go.Proofs.YtjfklfmfeghjnacW.PrintMore

theorem same_from (l : List T) (hl : l.length < 1000000000000) (x1 x2 x3 : Int) : ∀ (n i : Nat), n + i = l.length → Ev (fun k => tachographlaw21_LexAll.l0 k (l.map mkA) (l.length : Int) (i : Int) (l.map mkB) x1 x2 x3) true
 | 0, i => fun hn => by
  refine Ev.step (f := fun k => (tachographlaw21_fixed.f k).bind fun t => some t) (fun k => ?_) (Ev.bind fixed21 (Ev.now _))
  simp only [tachographlaw21_LexAll.l0]
  rw [if_neg (by omega)]
 | n + 1, i => fun hn => by
  have ih := same_from l hl x1 x2 x3 n (i + 1) (by omega)
  refine Ev.step (f := fun k => tachographlaw21_LexAll.l0 k (l.map mkA) (l.length : Int) ((i + 1 : Nat) : Int) (l.map mkB) x1 x2 x3) (fun k => ?_) ih
  simp only [tachographlaw21_LexAll.l0]
  rw [if_pos (by omega), if_pos (by omega), if_pos (by rw [List.length_map]; omega), if_pos (by rw [List.length_map]; omega), rdA l i (by omega), rdB l i (by omega), w64 (by omega) (by omega)]
  simp only [mkA, mkB, if_true, beq_self_eq_true, Bool.not_true, Bool.or_self, Bool.false_eq_true, if_false]
  rfl
theorem run_len : ∀ (n : Nat) (s : ByteArray) (p : Int × Int) (out : List T), (run n s p out).1.length ≤ out.length + n
 | 0, s, p, out => by simp [run]
 | n + 1, s, p, out => by
  simp only [run]
  split
  ·dsimp only; omega
  ·split
   ·have := run_len n (s.extract 1 s.size) (adv p [bt s 0]) out; omega
   ·split
    ·have := run_len n (s.extract (stp s).2.2.1.toNat s.size) (adv p ((bytesOf s).take (stp s).2.2.1.toNat)) (out ++ [((stp s).1, (stp s).2.1, p.1, p.2)])
     rw [List.length_append, List.length_singleton] at this
     omega
    ·simp
theorem LexAll : tachographlaw21_LexAll.Pure := by
 intro a0 ha
 refine Ev.rounds ?_
 unfold tachographlaw21_LexAll.f
 by_cases h1 : (a0.size : Int) > 2000
 ·exact Ev.congr (f := fun k => (tachographlaw21_fixed.f k).bind fun t => some t) (fun k => by rw [if_pos h1]) (Ev.bind fixed21 (Ev.now _))
 ·have hs : a0.size ≤ 10000000000 := by omega
  have hA := lex_ev a0 hs
  have hB := rlex_ev a0 hs
  have hE := end_eq a0 hs
  have hP := place_ev a0 a0.size (by omega) hs
  have hlen := run_len (a0.size + 1) a0 (1, 1) []
  have herr := run_err (a0.size + 1) a0 (1, 1) []
  rw [List.take_of_length_le (by rw [bytesOf_length]; omega)] at hP
  obtain ⟨R, hR⟩ : ∃ R, run (a0.size + 1) a0 (1, 1) [] = R := ⟨_, rfl⟩
  rw [hR] at hA hB hlen herr
  obtain ⟨E, hE'⟩ : ∃ E, adv (1, 1) (bytesOf a0) = E := ⟨_, rfl⟩
  rw [hE'] at hE hP
  simp only [List.length_nil] at hlen
  have hl : R.1.length < 1000000000000 := by omega
  simp only [if_neg h1, hE, Option.bind_some]
  refine Ev.bind hA (Ev.bind hB ?_)
  have hj : Ev (fun k => tachographlaw21_LexAll.j0 k (R.1.map mkA) false (R.1.map mkB) R.2.1 R.2.2.1 R.2.2.2) true := by
   refine Ev.step (f := fun k => tachographlaw21_LexAll.l0 k (R.1.map mkA) (R.1.length : Int) ((0 : Nat) : Int) (R.1.map mkB) R.2.1 R.2.2.1 R.2.2.2) (fun k => ?_) (same_from R.1 hl _ _ _ R.1.length 0 (by omega))
   simp only [tachographlaw21_LexAll.j0, Bool.false_eq_true, if_false, List.length_map]
   rfl
  simp only [beq_self_eq_true, Bool.not_true, Bool.or_self, Bool.false_eq_true, if_false, if_true, List.length_map]
  by_cases he : R.2.1 = 0
  ·simp only [if_pos he]
   refine Ev.bind hP ?_
   simp only [beq_self_eq_true, Bool.not_true, Bool.or_self]
   exact hj
  ·have hnil := herr he
   have hz : (R.1.length : Int) = 0 := by rw [hnil]; rfl
   simp only [if_neg he, if_pos hz]
   refine Ev.bind hP ?_
   simp only [beq_self_eq_true, Bool.not_true, Bool.or_self]
   exact hj
end Go.Proofs.Ytjfklfmfeghjnac.Pure
