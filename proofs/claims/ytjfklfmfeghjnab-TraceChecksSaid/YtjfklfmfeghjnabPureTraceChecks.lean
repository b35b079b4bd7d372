/- TraceChecks, plainly. -/
import Derived.Test.YtjfklfmfeghjnabMTraceCount
import Derived.Test.YtjfklfmfeghjnabPTx11
set_option linter.unusedVariables false
namespace Go.Proofs.Ytjfklfmfeghjnab.Pure
open Go.RowKit Go.Proofs.Ytjfklfmfeghjnab.PT Go.Proofs.Ytjfklfmfeghjnab.MTrace Go.Proofs.Ytjfklfmfeghjnab.MSig Go.Proofs.Ytjfklfmfeghjnab.MBase Go.Proofs.YtjfklfmfeghjnabW.PrintWords Go.Proofs.YtjfklfmfeghjnabW.PrintLast Go.Proofs.YtjfklfmfeghjnabW.PrintMore

theorem TraceChecks : tachographlaw12_TraceChecks.Pure := by
  intro l t hl ht
  refine Ev.rounds ?_
  have hlen : l.length < 9223372036854775807 := by have := hl.2.1; omega
  have htl : t.length < 9223372036854775807 := by have := ht.2.1; omega
  have hs : Short l := fun p hp => by have h : p.f0.size ≤ 140737488351232 := (hl.2.2 p hp).1; omega
  have hf : Fits t := by
    intro i hi
    have e : rd_T44 t (i : Int) = t[i] := by rw [rd_pt]; simp [List.getD_eq_getElem?_getD, List.getElem?_eq_getElem hi]
    rw [e]
    obtain ⟨h1, h2⟩ := ht.2.2 t[i] (List.getElem_mem hi)
    have h3 := wf_u64 h1
    refine ⟨h3.1, h3.2, by have h : t[i].f1.length * 32 ≤ 140737488351232 := h2.2.1; omega, fun j hj => ?_⟩
    have e2 : rd_T61 t[i].f1 (j : Int) = t[i].f1[j] := by rw [rd_e]; simp [List.getD_eq_getElem?_getD, List.getElem?_eq_getElem hj]
    rw [e2]
    obtain ⟨_, h4⟩ := h2.2.2 t[i].f1[j] (List.getElem_mem hj)
    have h : t[i].f1[j].f1.length * 32 ≤ 140737488351232 := h4.2.1
    omega
  unfold tachographlaw12_TraceChecks.f
  have hj : Ev (fun k => tachographlaw12_TraceChecks.j0 k l t true) true :=
    Ev.step (f := fun k => (tachographlaw12_fixed.f k).bind fun t => some t) (fun k => by simp only [tachographlaw12_TraceChecks.j0, if_true]) (Ev.bind fixed12 (Ev.now _))
  have h1 : ∀ (i : Nat), i < t.length → Ev (fun k => tachographlaw12_TraceChecks.l0 k l t (t.length : Int) ((i + 1 : Nat) : Int)) true → ∀ (n j : Nat), n + j = (rd_T44 t (i : Int)).f1.length →
      Ev (fun k => tachographlaw12_TraceChecks.l1 k l t (t.length : Int) (i : Int) (rd_T44 t (i : Int)).f1 ((rd_T44 t (i : Int)).f1.length : Int) (j : Int)) true := by
    intro i hi hv n
    obtain ⟨_, _, g1, g2⟩ := hf i hi
    induction n with
    | zero =>
      intro j hd
      refine Ev.step (f := fun k => tachographlaw12_TraceChecks.l0 k l t (t.length : Int) ((i + 1 : Nat) : Int)) (fun k => ?_) hv
      simp only [tachographlaw12_TraceChecks.l1]
      rw [if_neg (by omega), w64 (by omega) (by omega)]
      rfl
    | succ n ihn =>
      intro j hd
      have ih := ihn (j + 1) (by omega)
      refine Ev.step (f := fun k => (trace_Event.f k l ((rd_T61 (rd_T44 t (i : Int)).f1 (j : Int)).f0) ((rd_T61 (rd_T44 t (i : Int)).f1 (j : Int)).f1)).bind fun t177 => ((tachographref12_Event.f k l ((rd_T61 (rd_T44 t (i : Int)).f1 (j : Int)).f0) ((rd_T61 (rd_T44 t (i : Int)).f1 (j : Int)).f1)).bind fun t178 => (if t177 = t178 then (tachographlaw12_TraceChecks.l1 k l t (t.length : Int) (i : Int) (rd_T44 t (i : Int)).f1 ((rd_T44 t (i : Int)).f1.length : Int) ((j + 1 : Nat) : Int)) else (some false)))) (fun k => ?_) (Ev.bind (event_ev l _ (g2 j (by omega))) (Ev.bind (revent_ev l _ (g2 j (by omega))) ?_))
      · simp only [tachographlaw12_TraceChecks.l1]
        rw [if_pos (by omega), if_pos (by omega), if_pos (by omega), w64 (x := (j : Int) + 1) (by omega) (by omega)]
        rfl
      · simp only [if_true]
        exact ih
  have h0 : ∀ (n i : Nat), n + i = t.length → Ev (fun k => tachographlaw12_TraceChecks.l0 k l t (t.length : Int) (i : Int)) true := by
    intro n
    induction n with
    | zero =>
      intro i hd
      refine Ev.step (f := fun k => (tachographlaw12_fixed.f k).bind fun t => some t) (fun k => ?_) (Ev.bind fixed12 (Ev.now _))
      simp only [tachographlaw12_TraceChecks.l0]
      rw [if_neg (by omega)]
    | succ n ihn =>
      intro i hd
      refine Ev.step (f := fun k => tachographlaw12_TraceChecks.l1 k l t (t.length : Int) (i : Int) (rd_T44 t (i : Int)).f1 ((rd_T44 t (i : Int)).f1.length : Int) 0) (fun k => ?_) (h1 i (by omega) (ihn (i + 1) (by omega)) _ 0 rfl)
      simp only [tachographlaw12_TraceChecks.l0]
      rw [if_pos (by omega), if_pos (by omega), if_pos (by omega)]
  have hj0 : Ev (fun k => tachographlaw12_TraceChecks.j0 k l t false) true := by
    refine Ev.step (f := fun k => (trace_Check.f k l t).bind fun bt162 => ((tachographref12_Check.f k l t).bind fun bt164 => ((trace_Count.f t).bind fun bt166 => (if bt162.1 = bt164.1 then (if bt162.2 = bt164.2 then ((tachographref12_Count.f k t).bind fun bt169 => (tachographlaw12_TraceChecks.j1 k l t (!(bt166.1 == bt169.1) || (!(bt166.2.1 == bt169.2.1) || (!(bt166.2.2 == bt169.2.2)))))) else (tachographlaw12_TraceChecks.j1 k l t true)) else (tachographlaw12_TraceChecks.j1 k l t true))))) (fun k => ?_) (Ev.bind (tcheck_ev l hs t hf htl) (Ev.bind (rtcheck_ev l hs t hf htl) ?_))
    · simp only [tachographlaw12_TraceChecks.j0]
      rw [if_neg (by simp)]
    · simp only [trace_Count.f, Option.bind_some, if_true]
      refine Ev.bind (rcount_ev t hf htl) ?_
      simp only [beq_self_eq_true, Bool.not_true, Bool.or_self]
      refine Ev.step (f := fun k => tachographlaw12_TraceChecks.l0 k l t (t.length : Int) 0) (fun k => ?_) (h0 t.length 0 (by omega))
      simp only [tachographlaw12_TraceChecks.j1]
      rw [if_neg (by simp)]
  refine Ev.bind (great_ev l hlen) ?_
  by_cases hg : great l = true
  · simp only [if_pos hg]
    exact hj
  · simp only [if_neg hg]
    obtain ⟨b, hb⟩ := tgreat_ev 3000 t hf htl
    refine Ev.bind hb ?_
    cases b
    · exact hj0
    · exact hj
end Go.Proofs.Ytjfklfmfeghjnab.Pure
