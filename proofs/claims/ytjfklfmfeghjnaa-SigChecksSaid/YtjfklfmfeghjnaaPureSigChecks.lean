/- SigChecks, plainly. -/
import Derived.Test.YtjfklfmfeghjnaaMSig
import Derived.Test.YtjfklfmfeghjnaaPSx3
import Derived.Test.YtjfklfmfeghjnaaPSx5
namespace Go.Proofs.Ytjfklfmfeghjnaa.Pure
open Go.RowKit Go.Proofs.Ytjfklfmfeghjnaa.PS Go.Proofs.Ytjfklfmfeghjnaa.MSig Go.Proofs.Ytjfklfmfeghjnaa.MBase Go.Proofs.YtjfklfmfeghjnaaW.PrintWords Go.Proofs.YtjfklfmfeghjnaaW.PrintLast Go.Proofs.YtjfklfmfeghjnaaW.PrintMore

theorem fixed_sig : Ev (fun k => tachographlaw09_fixed.f k) true := Ev.of (fun k => tachographlaw09_fixed.mono k) (k := 40) (by kernel_rfl)

theorem SigChecks : tachographlaw09_SigChecks.Pure := by
  intro l nm hl hn
  refine Ev.rounds ?_
  have hlen : l.length < 9223372036854775807 := by have := hl.2.1; omega
  unfold tachographlaw09_SigChecks.f
  have hj : Ev (fun k => tachographlaw09_SigChecks.j0 k l nm true) true :=
    Ev.step (f := fun k => (tachographlaw09_fixed.f k).bind fun t => some t) (fun k => by simp only [tachographlaw09_SigChecks.j0, if_true]) (Ev.bind fixed_sig (Ev.now _))
  refine Ev.bind (great_ev l hlen) ?_
  cases hg : great l with
  | true => simpa using hj
  | false =>
    simp only [Bool.false_eq_true, if_false]
    obtain ⟨hs, h100⟩ := great_short hg
    by_cases h : (nm.size : Int) > 100
    · rw [decide_eq_true h]
      exact hj
    · rw [decide_eq_false h]
      refine Ev.step (f := fun k => (sig_Find.f k l nm).bind fun bt137 => ((tachographref09_Find.f k l nm).bind fun t139 => ((tachographlaw09_fixed.f k).bind fun t140 => (if t140 = true then ((sig_Check.f k l).bind fun t141 => ((tachographref09_Check.f k l).bind fun t142 => (if t141 = t142 then (if bt137.1 = (mx t139 0) then (if (bt137.2 == (decide (t139 ≥ 0))) = true then ((sig_Name.f k nm).bind fun t143 => ((tachographref09_Name.f k nm).bind fun t144 => (some (t143 == t144)))) else (some false)) else (some false)) else (some false)))) else (some false))))) (fun k => ?_) ?_
      · simp only [tachographlaw09_SigChecks.j0, Bool.false_eq_true, if_false]
      · refine Ev.bind (find_ev l nm hlen) (Ev.bind (rfind_ev l nm hlen) (Ev.bind fixed_sig ?_))
        simp only [if_true]
        refine Ev.bind (check_ev l hs) (Ev.bind (rcheck_ev l hs) ?_)
        simp only [if_true]
        by_cases hp : place l nm < l.length
        · rw [if_pos hp, if_pos hp]
          have e1 : (place l nm : Int) = mx (place l nm : Int) 0 := by unfold mx; rw [if_neg (by omega)]
          have e2 : (true == decide ((place l nm : Int) ≥ 0)) = true := by rw [decide_eq_true (by omega)]; rfl
          simp only [if_pos e1, if_pos e2]
          refine Ev.bind (name_ev nm (by omega)) (Ev.bind (rname_ev nm (by omega)) ?_)
          rw [beq_self_eq_true]
          exact Ev.now _
        · rw [if_neg hp, if_neg hp]
          have e1 : (0 : Int) = mx (-1) 0 := by decide
          have e2 : (false == decide ((-1 : Int) ≥ 0)) = true := by decide
          simp only [if_pos e1, if_pos e2]
          refine Ev.bind (name_ev nm (by omega)) (Ev.bind (rname_ev nm (by omega)) ?_)
          rw [beq_self_eq_true]
          exact Ev.now _
end Go.Proofs.Ytjfklfmfeghjnaa.Pure
