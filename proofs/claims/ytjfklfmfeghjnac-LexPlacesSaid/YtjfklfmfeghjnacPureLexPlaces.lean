/- LexPlaces, plainly. -/
import Derived.Test.YtjfklfmfeghjnacMLexRun
import Derived.Test.YtjfklfmfeghjnacPLx10
set_option linter.unusedVariables false
namespace Go.Proofs.Ytjfklfmfeghjnac.Pure
open Go.RowKit Go.Proofs.Ytjfklfmfeghjnac.PL Go.Proofs.Ytjfklfmfeghjnac.MLex Go.Proofs.Ytjfklfmfeghjnac.MBase Go.Proofs.YtjfklfmfeghjnacW.PrintWords Go.Proofs.YtjfklfmfeghjnacW.PrintLast Go.Proofs.YtjfklfmfeghjnacW.PrintMore

theorem before_eq (a b : Int × Int) (h : Bef a b) : tachographlaw21_LexPlaces_1.f a.1 a.2 b.1 b.2 = some true := by
 unfold tachographlaw21_LexPlaces_1.f
 rcases h with h | ⟨h1, h2⟩
 ·rw [if_pos h]
 ·rw [if_neg (by omega), if_pos h1, decide_eq_true h2]
theorem rise_from (l : List T) (hl : l.length < 1000000000000) (e : Int × Int) : ∀ (n i : Nat) (q : Int × Int), n + i = l.length → Rise e q (l.drop i) → Ev (fun k => tachographlaw21_LexPlaces.l0 k (l.map mkA) (l.length : Int) (i : Int) 0 0 e.1 e.2 q.1 q.2) true
 | 0, i, q => fun hn _ => by
  refine Ev.step (f := fun k => (tachographlaw21_fixed.f k).bind fun t => if t = true then some true else some false) (fun k => ?_) (Ev.bind fixed21 (Ev.now _))
  simp only [tachographlaw21_LexPlaces.l0]
  rw [if_neg (by omega)]
  rfl
 | n + 1, i, q => fun hn hr => by
  have hi : i < l.length := by omega
  rw [List.drop_eq_getElem_cons hi] at hr
  obtain ⟨r1, r2, r3, r4⟩ := hr
  have ih := rise_from l hl e n (i + 1) l[i].2.2 (by omega) r4
  refine Ev.step (f := fun k => tachographlaw21_LexPlaces.l0 k (l.map mkA) (l.length : Int) ((i + 1 : Nat) : Int) 0 0 e.1 e.2 l[i].2.2.1 l[i].2.2.2) (fun k => ?_) ih
  simp only [tachographlaw21_LexPlaces.l0]
  rw [if_pos (by omega), if_pos (by omega), if_pos (by rw [List.length_map]; omega), rdA l i hi, w64 (by omega) (by omega)]
  simp only [mkA]
  rw [before_eq q l[i].2.2 r1]
  simp only [Option.bind_some, if_true]
  rw [before_eq l[i].2.2 e r2]
  simp only [Option.bind_some, if_true]
  refine (if_neg (by omega)).trans ?_
  rfl
theorem run_len' : ∀ (n : Nat) (s : ByteArray) (p : Int × Int) (out : List T), (run n s p out).1.length ≤ out.length + n
 | 0, s, p, out => by simp [run]
 | n + 1, s, p, out => by
  simp only [run]
  split
  ·dsimp only; omega
  ·split
   ·have := run_len' n (s.extract 1 s.size) (adv p [bt s 0]) out; omega
   ·split
    ·have := run_len' n (s.extract (stp s).2.2.1.toNat s.size) (adv p ((bytesOf s).take (stp s).2.2.1.toNat)) (out ++ [((stp s).1, (stp s).2.1, p.1, p.2)])
     rw [List.length_append, List.length_singleton] at this
     omega
    ·simp
theorem LexPlaces : tachographlaw21_LexPlaces.Pure := by
 intro a0 ha
 refine Ev.rounds ?_
 unfold tachographlaw21_LexPlaces.f
 by_cases h1 : (a0.size : Int) > 2000
 ·exact Ev.congr (f := fun k => (tachographlaw21_fixed.f k).bind fun t => some t) (fun k => by rw [if_pos h1]) (Ev.bind fixed21 (Ev.now _))
 ·have hs : a0.size ≤ 10000000000 := by omega
  have hA := lex_ev a0 hs
  have hE := end_eq a0 hs
  have hlen := run_len' (a0.size + 1) a0 (1, 1) []
  have hpl := Go.Proofs.Ytjfklfmfeghjnac.MLex.run_places (a0.size + 1) a0 (1, 1) (0, 0) [] (by omega) (by omega) (by omega) (.inl (by omega))
  obtain ⟨R, hR⟩ : ∃ R, run (a0.size + 1) a0 (1, 1) [] = R := ⟨_, rfl⟩
  rw [hR] at hA hlen hpl
  obtain ⟨E, hE'⟩ : ∃ E, adv (1, 1) (bytesOf a0) = E := ⟨_, rfl⟩
  rw [hE'] at hE hpl
  simp only [List.length_nil] at hlen
  simp only [if_neg h1, hE, Option.bind_some]
  refine Ev.bind hA ?_
  dsimp only
  by_cases he : R.2.1 = 0
  ·obtain ⟨z, ts, g1, g2⟩ := hpl.1 he
   rw [List.nil_append] at g1
   have z1 : R.2.2.1 = 0 := by rw [z]
   have z2 : R.2.2.2 = 0 := by rw [z]
   simp only [if_pos he, List.length_map, z1, z2]
   have := rise_from R.1 (by omega) E R.1.length 0 (0, 0) (by omega) (by rw [List.drop_zero, g1]; exact g2)
   exact this
  ·obtain ⟨g1, g2, g3⟩ := hpl.2 he
   simp only [if_neg he]
   refine Ev.bind fixed21 ?_
   simp only [if_true]
   rw [if_pos (by omega), if_pos (by omega), before_eq R.2.2 E g1]
   exact Ev.now _
end Go.Proofs.Ytjfklfmfeghjnac.Pure
