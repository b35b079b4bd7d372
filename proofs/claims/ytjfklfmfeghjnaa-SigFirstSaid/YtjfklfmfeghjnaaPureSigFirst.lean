/- SigFirst, plainly. -/
import Derived.Test.YtjfklfmfeghjnaaMSig
import Derived.Test.YtjfklfmfeghjnaaPSx3
import Derived.Test.YtjfklfmfeghjnaaPSx5
namespace Go.Proofs.Ytjfklfmfeghjnaa.Pure
open Go.RowKit Go.Proofs.Ytjfklfmfeghjnaa.PS Go.Proofs.Ytjfklfmfeghjnaa.MSig Go.Proofs.Ytjfklfmfeghjnaa.MBase Go.Proofs.YtjfklfmfeghjnaaW.PrintWords Go.Proofs.YtjfklfmfeghjnaaW.PrintLast Go.Proofs.YtjfklfmfeghjnaaW.PrintMore

theorem fixed_first : Ev (fun k => tachographlaw09_fixed.f k) true := Ev.of (fun k => tachographlaw09_fixed.mono k) (k := 40) (by kernel_rfl)

theorem first_from (l : List Pred) (a1 : Int) (ha : 0 ≤ a1 ∧ a1 < 256) (hs : Short l) (hc : check l = 0) : ∀ (n i : Nat), n + i = l.length →
    Ev (fun k => tachographlaw09_SigFirst.l0 k l a1 l (l.length : Int) (i : Int)) true
  | 0, i => fun h => by
    obtain ⟨h64, _⟩ := (check_zero l).1 hc
    have e1 : wrap64 ((l.length : Int) + 1) = (l.length : Int) + 1 := w64 (by omega) (by omega)
    have e2 : wrap64 a1 = a1 := w64 (by omega) (by omega)
    obtain ⟨m, hm⟩ : ∃ m, Int.tmod a1 ((l.length : Int) + 1) = m := ⟨_, rfl⟩
    have hm0 : 0 ≤ m := by rw [← hm]; exact Int.tmod_nonneg _ ha.1
    have hm1 : m ≤ (l.length : Int) := by
      have := Int.tmod_lt_of_pos a1 (show (0 : Int) < (l.length : Int) + 1 by omega)
      omega
    refine Ev.step (f := fun k => (tachographlaw09_fixed.f k).bind fun t => if t = true then (sig_Check.f k (l.take m.toNat)).bind fun c => some (c == 0) else some false) (fun k => ?_) ?_
    · simp only [tachographlaw09_SigFirst.l0]
      rw [if_neg (by omega), e1, e2, hm, if_neg (by omega), if_pos hm0, if_pos hm1]
    · refine Ev.bind fixed_first ?_
      simp only [if_true]
      refine Ev.bind (check_ev _ (fun p hp => hs p (List.mem_of_mem_take hp))) ?_
      rw [check_take l _ hc]
      exact Ev.now _
  | n + 1, i => fun h => by
    have hi : i < l.length := by omega
    have ih := first_from l a1 ha hs hc n (i + 1) (by omega)
    obtain ⟨h64, hg⟩ := (check_zero l).1 hc
    obtain ⟨g1, g2, _, _⟩ := hg i hi
    refine Ev.step (f := fun k => (sig_Find.f k l (l.getD i z92).f0).bind fun b => (if b.1 = (i : Int) then (if b.2 = true then ((sig_Name.f k (l.getD i z92).f0).bind fun t => (if t = true then (tachographlaw09_SigFirst.l0 k l a1 l (l.length : Int) ((i + 1 : Nat) : Int)) else (some false))) else (some false)) else (some false))) (fun k => ?_) ?_
    · simp only [tachographlaw09_SigFirst.l0]
      rw [if_pos (by omega), if_pos (by omega), if_pos (by omega), rd_pred, w64 (by omega) (by omega)]
      rfl
    · refine Ev.bind (find_ev l _ (by omega)) ?_
      rw [at_place l _ i hi g1 rfl, if_pos hi]
      simp only [if_true]
      refine Ev.bind (name_ev _ (short_at hs i hi)) ?_
      rw [g2]
      simpa using ih

theorem SigFirst : tachographlaw09_SigFirst.Pure := by
  intro l a1 hl ha
  refine Ev.rounds ?_
  have hlen : l.length < 9223372036854775807 := by have := hl.2.1; omega
  unfold tachographlaw09_SigFirst.f
  have hj : Ev (fun k => tachographlaw09_SigFirst.j0 k l a1 true) true :=
    Ev.step (f := fun k => (tachographlaw09_fixed.f k).bind fun t => some t) (fun k => by simp only [tachographlaw09_SigFirst.j0, if_true]) (Ev.bind fixed_first (Ev.now _))
  refine Ev.bind (great_ev l hlen) ?_
  cases hg : great l with
  | true => simpa using hj
  | false =>
    simp only [Bool.false_eq_true, if_false]
    obtain ⟨hs, _⟩ := great_short hg
    refine Ev.bind (check_ev l hs) ?_
    by_cases hc : check l = 0
    · have e : (check l != 0) = false := bne_eq_false_iff_eq.mpr hc
      rw [e]
      refine Ev.step (f := fun k => tachographlaw09_SigFirst.l0 k l a1 l (l.length : Int) ((0 : Nat) : Int)) (fun k => ?_) (first_from l a1 (wf_u8 ha) hs hc l.length 0 (by omega))
      simp only [tachographlaw09_SigFirst.j0, Bool.false_eq_true, if_false]
      rfl
    · have e : (check l != 0) = true := bne_iff_ne.mpr hc
      rw [e]
      exact hj
end Go.Proofs.Ytjfklfmfeghjnaa.Pure
