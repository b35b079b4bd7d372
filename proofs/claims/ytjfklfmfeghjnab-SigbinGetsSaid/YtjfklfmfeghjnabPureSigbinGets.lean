/- SigbinGets, plainly. -/
import Derived.Test.YtjfklfmfeghjnabMSigbinPut
import Derived.Test.YtjfklfmfeghjnabPGx10
set_option linter.unusedVariables false
namespace Go.Proofs.Ytjfklfmfeghjnab.Pure
open Go.RowKit Go.Proofs.Ytjfklfmfeghjnab.PG Go.Proofs.Ytjfklfmfeghjnab.MSig Go.Proofs.Ytjfklfmfeghjnab.MSigbin Go.Proofs.YtjfklfmfeghjnabW.PrintWords Go.Proofs.YtjfklfmfeghjnabW.PrintLast Go.Proofs.YtjfklfmfeghjnabW.PrintMore

theorem SigbinGets : tachographlaw11_SigbinGets.Pure := by
  intro l0 _ hl hwf
  refine Ev.rounds ?_
  have hb : MW.Byt l0 := MW.byt_wf hwf
  have hbs : bytesOf (strOfNums l0) = l0 := MW.bytesOf_strOfNums hb
  unfold tachographlaw11_SigbinGets.f
  by_cases h3 : (l0.length : Int) > 3000
  · refine Ev.congr (f := fun k => (tachographlaw11_fixed.f k).bind fun t => some t) (fun k => by rw [if_pos h3]) ?_
    exact Ev.bind fixed11 (Ev.now _)
  · have hsz : (strOfNums l0).size ≤ 140737488355328 := by rw [strOfNums_size]; omega
    refine Ev.congr (f := fun k => ((sigbin_Get.f k l0).bind fun bt238 => ((tachographref11_Get.f k (strOfNums l0)).bind fun bt242 => ((tachographref09_Same.f k bt238.1 bt242.1).bind fun t246 => (if t246 = true then (tachographlaw11_SigbinGets.j0 k l0 bt238.1 bt238.2 (bt238.2 != bt242.2)) else (tachographlaw11_SigbinGets.j0 k l0 bt238.1 bt238.2 true)))))) (fun k => by rw [if_neg h3]) ?_
    refine Ev.bind (get_ev l0 (by omega)) (Ev.bind (rget_ev (strOfNums l0) hsz) ?_)
    obtain ⟨l, e, hR⟩ : ∃ l e, sget (strOfNums l0) = (l, e) := ⟨_, _, rfl⟩
    rw [hR]
    dsimp only
    by_cases he : e = 0
    · subst he
      obtain ⟨hc, hback⟩ := sget_back _ hsz l hR
      obtain ⟨f1, f2⟩ := check_fine hc
      refine Ev.bind (same_refl l (by omega) (fun p hp => by have := (f2 p hp).1.2.1; omega)) ?_
      simp only [if_true, bne_self_eq_false]
      refine Ev.step (f := fun k => (sigbin_Put.f k l).bind fun bt247 => ((tachographlaw11_fixed.f k).bind fun t251 => (if t251 = true then (if (0 : Int) = 0 then (if bt247.2 = 0 then (some ((strOfNums bt247.1).toList == (strOfNums l0).toList)) else (some false)) else (some true)) else (some false)))) (fun k => by simp only [tachographlaw11_SigbinGets.j0, Bool.false_eq_true, if_false]) ?_
      refine Ev.bind (put_ok l hc) (Ev.bind fixed11 ?_)
      simp only [if_true]
      rw [← hback, hbs, beq_self_eq_true]
      exact Ev.now _
    · have hn := sget_none _ l e hR he
      subst hn
      refine Ev.bind (same_refl [] (by simp) (fun p hp => by cases hp)) ?_
      simp only [if_true, bne_self_eq_false]
      refine Ev.step (f := fun k => (sigbin_Put.f k []).bind fun bt247 => ((tachographlaw11_fixed.f k).bind fun t251 => (if t251 = true then (if e = 0 then (if bt247.2 = 0 then (some ((strOfNums bt247.1).toList == (strOfNums l0).toList)) else (some false)) else (some true)) else (some false)))) (fun k => by simp only [tachographlaw11_SigbinGets.j0, Bool.false_eq_true, if_false]) ?_
      refine Ev.bind (put_ok [] (by decide)) (Ev.bind fixed11 ?_)
      simp only [if_true, if_neg he]
      exact Ev.now _
end Go.Proofs.Ytjfklfmfeghjnab.Pure
