/- SigbinCuts, plainly. -/
import Derived.Test.YtjfklfmfeghjnabMSigbinPut
import Derived.Test.YtjfklfmfeghjnabPGx11
set_option linter.unusedVariables false
namespace Go.Proofs.Ytjfklfmfeghjnab.Pure
open Go.RowKit Go.Proofs.Ytjfklfmfeghjnab.PG Go.Proofs.Ytjfklfmfeghjnab.MSig Go.Proofs.Ytjfklfmfeghjnab.MSigbin Go.Proofs.YtjfklfmfeghjnabW.PrintWords Go.Proofs.YtjfklfmfeghjnabW.PrintLast Go.Proofs.YtjfklfmfeghjnabW.PrintMore

theorem SigbinCuts : tachographlaw11_SigbinCuts.Pure := by
  intro l a1 a2 hl h1 h2
  refine Ev.rounds ?_
  have hlen : l.length < 9223372036854775807 := by have := hl.2.1; omega
  have ha1 : 0 ≤ a1 ∧ a1 < 65536 := by
    simp [Lit.wf, IntKind.min, IntKind.max, IntKind.signed, IntKind.bits] at h1
    omega
  have ha2 := MBase.wf_u8 h2
  unfold tachographlaw11_SigbinCuts.f
  refine Ev.bind (great_ev l hlen) ?_
  cases hg : great l with
  | true =>
    simp only [if_true]
    exact Ev.bind fixed11 (Ev.now _)
  | false =>
    obtain ⟨hs, h100⟩ := great_short hg
    simp only [Bool.false_eq_true, if_false]
    by_cases hc : check l = 0
    · obtain ⟨f1, f2⟩ := check_fine hc
      have hf : ∀ p ∈ l, Fine p := fun p hp => (f2 p hp).1
      refine Ev.bind (put_ok l hc) ?_
      have hpos : 0 < (sbytes l).length := by have := MW.wbytes_pos l.length; simp only [sbytes, List.length_append]; omega
      have hle : (sbytes l).length ≤ 4000 := by
        have h3 := MW.wbytes_le10 (m := l.length) (by omega)
        have h4 := pbs_len hf
        simp only [sbytes, List.length_append]
        omega
      have hw : wrap64 a1 = a1 := MW.w64 (by omega) (by omega)
      obtain ⟨m, hm⟩ : ∃ m, Int.tmod a1 ((sbytes l).length : Int) = m := ⟨_, rfl⟩
      have hm0 : 0 ≤ m := by rw [← hm]; exact Int.tmod_nonneg _ ha1.1
      have hm1 : m < ((sbytes l).length : Int) := by rw [← hm]; exact Int.tmod_lt_of_pos a1 (by omega)
      have hne : ¬ ((sbytes l).length : Int) = 0 := by omega
      simp only [if_true, hw, hm, if_neg hne, if_pos hm0, if_pos (show m ≤ ((sbytes l).length : Int) by omega), Option.bind_some, List.nil_append, List.length_nil]
      refine Ev.bind (get_ev ((sbytes l).take m.toNat) (by rw [List.length_take]; omega)) ?_
      rw [sget_cut l f1 hf m.toNat (by omega)]
      have hlt : 0 + (sbytes l).length < 140737488355328 := by omega
      have hlt2 : (sbytes l).length < 140737488355328 := by omega
      simp only [if_pos hlt, if_pos hlt2]
      refine Ev.bind (get_ev (sbytes l ++ [a2]) (by simp only [List.length_append, List.length_cons, List.length_nil]; omega)) ?_
      rw [sget_more l f1 hf a2 ha2]
      refine Ev.bind fixed11 ?_
      simp only [if_true, List.length_nil]
      refine Ev.congr (f := fun _ => some true) (fun k => ?_) (Ev.now _)
      rw [MW.w64 (by omega) (by omega)]
      rfl
    · refine Ev.bind (put_err l hs hc) ?_
      simp only [if_neg hc]
      refine Ev.bind fixed11 ?_
      simp only [if_true, List.length_nil]
      exact Ev.now _
end Go.Proofs.Ytjfklfmfeghjnab.Pure
