/- Proved: tachographlaw10.SigtextParses answers true at every text: as which signature it is read, or why, and where, it isn't, is the document's; what is read has that text. -/
import Derived.Test.YtmmfakdncjeoeacDoorMSigtextRef
import Derived.Test.YtmmfakdncjeoeacDoorPEx11
set_option linter.unusedVariables false
set_option linter.unusedSimpArgs false
namespace Go.Proofs.YtmmfakdncjeoeacDoor.Pure
open Go Go.RowKit Go.Proofs.YtmmfakdncjeoeacDoor.PE Go.Proofs.YtmmfakdncjeoeacDoor.MBase Go.Proofs.YtmmfakdncjeoeacDoor.MSig Go.Proofs.YtmmfakdncjeoeacDoor.MSplit Go.Proofs.YtmmfakdncjeoeacDoor.MSigline Go.Proofs.YtmmfakdncjeoeacDoor.MSigtext Go.Proofs.YtmmfakdncjeoeacDoorAid Go.Proofs.YtmmfakdncjeoeacDoorW.PrintWords Go.Proofs.YtmmfakdncjeoeacDoorW.PrintLast Go.Proofs.YtmmfakdncjeoeacDoorW.PrintMore

theorem j0_ok (s : ByteArray) (l : List Pred) (e : Int) (hc : check l = 0) (h : e = 0 → mkB (textL l) = s) : Ev (fun k => tachographlaw10_SigtextParses.j0 k s l e false) true := by
  have hs : Short l := fun p hp => by
    obtain ⟨i, hi, rfl⟩ := List.getElem_of_mem hp
    have := name_pos ((check_all hc).2 i hi).1
    omega
  have hp := print_ev l hs
  rw [if_pos hc] at hp
  refine Ev.step (f := fun k => (sigtext_Print.f k l).bind fun bt262 => ((tachographlaw10_fixed.f k).bind fun t264 => (if t264 = true then (if e = 0 then (if bt262.2 = 0 then (some (bt262.1.toList == s.toList)) else (some false)) else (some true)) else (some false)))) (fun k => ?_) (Ev.bind hp (Ev.bind fixed10 ?_))
  · simp only [tachographlaw10_SigtextParses.j0, Bool.false_eq_true, if_false]
  · simp only [if_true]
    by_cases he : e = 0
    · rw [h he]
      simp only [if_pos he, beq_self_eq_true]
      exact Ev.now _
    · simp only [if_neg he]
      exact Ev.now _
theorem SigtextParses : tachographlaw10_SigtextParses.Pure := by
  intro s hs
  refine Ev.rounds ?_
  unfold tachographlaw10_SigtextParses.f
  by_cases h : (s.size : Int) > 3000
  · simp only [if_pos h]
    exact Ev.bind fixed10 (Ev.now _)
  · simp only [if_neg h]
    refine Ev.bind (parse_ev s (by omega)) (Ev.bind (rparse_ev s (by omega)) ?_)
    have hc : check ([] : List Pred) = 0 := by decide
    obtain ⟨h1, h2⟩ := parseL_back s.size [] 1 s.data.toList (by rw [size_list]; exact Nat.le_refl _) hc rfl
    have hchk : check (parseL s.size [] 1 s.data.toList).1 = 0 := by
      by_cases he : (parseL s.size [] 1 s.data.toList).2.1 = 0
      · obtain ⟨o, e1, _, e3⟩ := h1 he
        rw [e1]
        exact e3
      · rw [h2 he]
        exact hc
    have hall := check_all hchk
    refine Ev.bind (same_refl _ (by omega) (fun p hp => by
      obtain ⟨i, hi, rfl⟩ := List.getElem_of_mem hp
      have := (hall.2 i hi).2.2
      omega)) ?_
    simp only [if_true, beq_self_eq_true, Bool.not_true, Bool.or_self, Bool.false_eq_true, if_false]
    by_cases he : (parseL s.size [] 1 s.data.toList).2.1 = 0
    · simp only [if_pos he]
      refine j0_ok s _ _ hchk (fun _ => ?_)
      obtain ⟨o, e1, e2, _⟩ := h1 he
      rw [e1]
      show mkB (textL ([] ++ o)) = s
      rw [List.nil_append, ← e2, mkB_list]
    · simp only [if_neg he]
      rw [h2 he]
      simp only [List.length_nil]
      exact j0_ok s [] _ hc (fun e => absurd e he)
end Go.Proofs.YtmmfakdncjeoeacDoor.Pure
