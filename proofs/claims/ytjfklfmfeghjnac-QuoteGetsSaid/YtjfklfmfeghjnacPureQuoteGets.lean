/- QuoteGets, plainly. -/
import Derived.Test.YtjfklfmfeghjnacMQuote
import Derived.Test.YtjfklfmfeghjnacPQx1
import Derived.Test.YtjfklfmfeghjnacPQx5
set_option linter.unusedVariables false
namespace Go.Proofs.Ytjfklfmfeghjnac.Pure
open Go.RowKit Go.Proofs.Ytjfklfmfeghjnac.PQ Go.Proofs.Ytjfklfmfeghjnac.MQuote Go.Proofs.Ytjfklfmfeghjnac.MBase Go.Proofs.YtjfklfmfeghjnacW.PrintWords Go.Proofs.YtjfklfmfeghjnacW.PrintLast Go.Proofs.YtjfklfmfeghjnacW.PrintMore

theorem fixed20g : Ev (fun k => tachographlaw20_fixed.f k) true := by
  unfold tachographlaw20_fixed.f
  refine Ev.bind (put_ev _ (by decide)) ?_
  refine Ev.congr (f := fun _ => some true) (fun k => ?_) (Ev.now _)
  rw [toList_strOfNums]
  decide

theorem QuoteGets : tachographlaw20_QuoteGets.Pure := by
  intro s hs
  refine Ev.rounds ?_
  unfold tachographlaw20_QuoteGets.f
  by_cases h1 : (s.size : Int) > 1000
  · exact Ev.congr (f := fun k => (tachographlaw20_fixed.f k).bind fun t => some t) (fun k => by rw [if_pos h1]) (Ev.bind fixed20g (Ev.now _))
  · refine Ev.congr (f := fun k => ((quote_Get.f k s).bind fun bt170 => ((tachographref20_Get.f k s).bind fun bt173 => (if bt170.1.toList = bt173.1.toList then (if bt170.2.1 = bt173.2.1 then (tachographlaw20_QuoteGets.j0 k s bt170.1 bt170.2.1 bt170.2.2 (bt170.2.2 != bt173.2.2)) else (tachographlaw20_QuoteGets.j0 k s bt170.1 bt170.2.1 bt170.2.2 true)) else (tachographlaw20_QuoteGets.j0 k s bt170.1 bt170.2.1 bt170.2.2 true))))) (fun k => by rw [if_neg h1]) ?_
    obtain ⟨g1, g2⟩ := get_ev s (by omega)
    refine Ev.bind g1 (Ev.bind g2 ?_)
    simp only [if_true, bne_self_eq_false]
    obtain ⟨f1, f2, f3⟩ := qget_fits s
    obtain ⟨t, n, e, hz⟩ : ∃ t n e, qget s = (t, n, e) := ⟨_, _, _, rfl⟩
    rw [hz] at f1 f2 f3 ⊢
    dsimp only at f1 f2 f3
    simp only [qval]
    have hbt : bytesOf (strOfNums t) = t := bytesOf_strOfNums f1
    have hfl := flat_len t
    have hsz : (strOfNums t).size = t.length := strOfNums_size t
    have hp := put_ev (strOfNums t) (by omega)
    rw [hbt] at hp
    have hql : (quo t).length ≤ 1000 := by simp only [quo, List.length_cons, List.length_append, List.length_nil]; omega
    have hg := (get_ev (strOfNums (quo t)) (by rw [strOfNums_size]; omega)).1
    have hq := qget_quo t [] f1 Byt.nil
    rw [List.append_nil, if_neg (by omega)] at hq
    rw [hq] at hg
    refine Ev.step (f := fun k => ((quote_Put.f k (strOfNums t)).bind fun t176 => ((quote_Get.f k t176).bind fun bt177 => ((tachographlaw20_fixed.f k).bind fun t180 => (if t180 = true then (if bt177.1.toList = (strOfNums t).toList then (if bt177.2.2 = 0 then (if e = 0 then (some (decide (n ≤ (s.size : Int)))) else (some true)) else (some false)) else (some false)) else (some false)))))) (fun k => by simp only [tachographlaw20_QuoteGets.j0, Bool.false_eq_true, if_false]) ?_
    refine Ev.bind hp (Ev.bind hg (Ev.bind fixed20g ?_))
    simp only [qval, if_true]
    by_cases he : e = 0
    · have := f3 he
      simp only [if_pos he, decide_eq_true this]
      exact Ev.now _
    · simp only [if_neg he]
      exact Ev.now _
end Go.Proofs.Ytjfklfmfeghjnac.Pure
