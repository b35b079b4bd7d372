/- LexParts, plainly. -/
import Derived.Test.YtjfklfmfeghjnacMLexRun
import Derived.Test.YtjfklfmfeghjnacPLx11
set_option linter.unusedVariables false
namespace Go.Proofs.Ytjfklfmfeghjnac.Pure
open Go.RowKit Go.Proofs.Ytjfklfmfeghjnac.PL Go.Proofs.Ytjfklfmfeghjnac.MLex Go.Proofs.Ytjfklfmfeghjnac.MBase Go.Proofs.YtjfklfmfeghjnacW.PrintWords Go.Proofs.YtjfklfmfeghjnacW.PrintLast Go.Proofs.YtjfklfmfeghjnacW.PrintMore

theorem run_len2 : ∀ (n : Nat) (s : ByteArray) (p : Int × Int) (out : List T), (run n s p out).1.length ≤ out.length + n
 | 0, s, p, out => by simp [run]
 | n + 1, s, p, out => by
  simp only [run]
  split
  ·dsimp only; omega
  ·split
   ·have := run_len2 n (s.extract 1 s.size) (adv p [bt s 0]) out; omega
   ·split
    ·have := run_len2 n (s.extract (stp s).2.2.1.toNat s.size) (adv p ((bytesOf s).take (stp s).2.2.1.toNat)) (out ++ [((stp s).1, (stp s).2.1, p.1, p.2)])
     rw [List.length_append, List.length_singleton] at this
     omega
    ·simp
/-- Lines stay small. -/
def Low (l : List T) : Prop := ∀ t ∈ l, 0 ≤ t.2.2.1 ∧ t.2.2.1 ≤ 1000000
theorem run_low : ∀ (n : Nat) (s : ByteArray) (p : Int × Int) (out : List T), 1 ≤ p.1 → 1 ≤ p.2 → p.1 + (s.size : Int) ≤ 1000000 → Low out → Low (run n s p out).1
 | 0, s, p, out => fun _ _ _ _ => fun t ht => by simp [run] at ht
 | n + 1, s, p, out => fun h1 h2 h3 ho => by
  simp only [run]
  by_cases hz : s.size = 0
  ·rw [if_pos hz]; exact ho
  ·rw [if_neg hz]
   by_cases hw : ws (bt s 0) = true
   ·rw [if_pos hw]
    have hbd := adv_bound [bt s 0] p h1 h2
    simp only [List.length_cons, List.length_nil] at hbd
    exact run_low n _ _ _ hbd.1 hbd.2.1 (by rw [ByteArray.size_extract]; omega) ho
   ·rw [if_neg hw]
    by_cases he : (stp s).2.2.2 = 0
    ·rw [if_pos he]
     have hf := stp_fits s he
     have hbd := adv_bound ((bytesOf s).take (stp s).2.2.1.toNat) p h1 h2
     rw [List.length_take, bytesOf_length] at hbd
     refine run_low n _ _ _ hbd.1 hbd.2.1 (by rw [ByteArray.size_extract]; omega) (fun t ht => ?_)
     rcases List.mem_append.1 ht with ht | ht
     ·exact ho t ht
     ·rw [List.mem_singleton.1 ht]
      dsimp only
      omega
    ·rw [if_neg he]
     exact fun t ht => by cases ht
theorem parts_from (la lb : List T) (d : Int) (hd : 0 ≤ d ∧ d ≤ 1000000) (hb : Low lb) (ha : la.length ≤ 1000000) (hbl : lb.length ≤ 1000000) : ∀ (n i : Nat), n + i = la.length + lb.length →
  Ev (fun k => tachographlaw21_LexParts.l0 k (la.map mkA) (lb.map mkA) d ((la ++ lb.map (shf d)).map mkA) ((la.length + lb.length : Nat) : Int) (i : Int)) true
 | 0, i => fun hn => by
  refine Ev.step (f := fun k => (tachographlaw21_fixed.f k).bind fun t => some t) (fun k => ?_) (Ev.bind fixed21 (Ev.now _))
  simp only [tachographlaw21_LexParts.l0]
  rw [if_neg (by omega)]
 | n + 1, i => fun hn => by
  have ih := parts_from la lb d hd hb ha hbl n (i + 1) (by omega)
  have hlen : (la ++ lb.map (shf d)).length = la.length + lb.length := by rw [List.length_append, List.length_map]
  refine Ev.step (f := fun k => tachographlaw21_LexParts.l0 k (la.map mkA) (lb.map mkA) d ((la ++ lb.map (shf d)).map mkA) ((la.length + lb.length : Nat) : Int) ((i + 1 : Nat) : Int)) (fun k => ?_) ih
  simp only [tachographlaw21_LexParts.l0]
  rw [if_pos (by omega), if_pos (by omega), if_pos (by rw [List.length_map, hlen]; omega), rdA _ i (by omega), w64 (x := (i : Int) + 1) (by omega) (by omega)]
  simp only [List.length_map]
  by_cases hlt : i < la.length
  ·rw [if_pos (by omega), rdA la i hlt, List.getElem_append_left hlt]
   simp only [mkA, beq_self_eq_true, Bool.not_true, Bool.or_self, Bool.false_eq_true, if_false]
   rfl
  ·obtain ⟨j, rfl⟩ := Nat.exists_eq_add_of_le (Nat.le_of_not_lt hlt)
   have hj : j < lb.length := by omega
   have e : wrap64 (((la.length + j : Nat) : Int) - (la.length : Int)) = (j : Int) := by rw [w64 (by omega) (by omega)]; omega
   have hlo := hb lb[j] (List.getElem_mem hj)
   rw [if_neg (by omega), e, if_pos (by omega), if_pos (by omega), rdA lb j hj, List.getElem_append_right (by omega)]
   simp only [List.getElem_map, Nat.add_sub_cancel_left, mkA, shf]
   rw [w64 (x := lb[j].2.2.1 + d) (by omega) (by omega)]
   simp only [beq_self_eq_true, Bool.not_true, Bool.or_self, Bool.false_eq_true, if_false]
   rfl
theorem LexParts : tachographlaw21_LexParts.Pure := by
 intro a0 a1 ha hb
 refine Ev.rounds ?_
 have hfx : Ev (fun k => (tachographlaw21_fixed.f k).bind fun t => some t) true := Ev.bind fixed21 (Ev.now _)
 have j0t : Ev (fun k => tachographlaw21_LexParts.j0 k a0 a1 true) true := Ev.step (f := fun k => (tachographlaw21_fixed.f k).bind fun t => some t) (fun k => by simp only [tachographlaw21_LexParts.j0, if_true]) hfx
 unfold tachographlaw21_LexParts.f
 by_cases h1 : (a0.size : Int) > 1000
 ·exact Ev.congr (fun k => by rw [if_pos h1]) j0t
 ·by_cases h2 : (a1.size : Int) > 1000
  ·exact Ev.congr (f := fun k => tachographlaw21_LexParts.j0 k a0 a1 true) (fun k => by rw [if_neg h1, decide_eq_true h2]) j0t
  ·refine Ev.congr (f := fun k => tachographlaw21_LexParts.j0 k a0 a1 false) (fun k => by rw [if_neg h1, decide_eq_false h2]) ?_
   have hA := lex_ev a0 (by omega)
   have hB := lex_ev a1 (by omega)
   have hlA := run_len2 (a0.size + 1) a0 (1, 1) []
   have hlB := run_len2 (a1.size + 1) a1 (1, 1) []
   have hlow := run_low (a1.size + 1) a1 (1, 1) [] (by omega) (by omega) (by dsimp only; omega) (fun t ht => by cases ht)
   obtain ⟨RA, hRA⟩ : ∃ R, run (a0.size + 1) a0 (1, 1) [] = R := ⟨_, rfl⟩
   obtain ⟨RB, hRB⟩ : ∃ R, run (a1.size + 1) a1 (1, 1) [] = R := ⟨_, rfl⟩
   rw [hRA] at hA hlA
   rw [hRB] at hB hlB hlow
   simp only [List.length_nil] at hlA hlB
   refine Ev.step (f := fun k => (lex_Lex.f k a0).bind fun bt272 => ((lex_Lex.f k a1).bind fun bt279 => (if bt272.2.1 = 0 then (tachographlaw21_LexParts.j1 k a0 a1 bt272.1 bt279.1 (bt279.2.1 != 0)) else (tachographlaw21_LexParts.j1 k a0 a1 bt272.1 bt279.1 true)))) (fun k => by simp only [tachographlaw21_LexParts.j0, Bool.false_eq_true, if_false]) ?_
   refine Ev.bind hA (Ev.bind hB ?_)
   dsimp only
   have j1t : Ev (fun k => tachographlaw21_LexParts.j1 k a0 a1 (RA.1.map mkA) (RB.1.map mkA) true) true := Ev.step (f := fun k => (tachographlaw21_fixed.f k).bind fun t => some t) (fun k => by simp only [tachographlaw21_LexParts.j1, if_true]) hfx
   by_cases he : RA.2.1 = 0
   ·simp only [if_pos he]
    by_cases hf : RB.2.1 = 0
    ·have hne : (RB.2.1 != 0) = false := by rw [hf]; rfl
     rw [hne]
     -- the whole text
     obtain ⟨t, ht⟩ : ∃ t, (⟨#[10]⟩ : ByteArray) ++ a1 = t := ⟨_, rfl⟩
     have htb : bytesOf t = 10 :: bytesOf a1 := by rw [← ht, bytesOf_append]; rfl
     have htz : t.size = a1.size + 1 := by rw [← bytesOf_length, htb, List.length_cons, bytesOf_length]
     have hassoc : (a0 ++ (⟨#[10]⟩ : ByteArray)) ++ a1 = a0 ++ t := by rw [← ht, ByteArray.append_assoc]
     have hwz : (a0 ++ t).size = a0.size + t.size := ByteArray.size_append
     have hW := lex_ev (a0 ++ t) (by omega)
     have hx1 : t.extract 1 t.size = a1 := by
      rw [← strOfNums_bytesOf (t.extract 1 t.size), bytesOf_extract, htb, List.take_of_length_le (by rw [List.length_cons, bytesOf_length]; omega), List.drop_succ_cons, List.drop_zero, strOfNums_bytesOf]
     have happ := run_app t (bytesOf a1) htb (t.size + 1) (by omega) (a0.size + 1) a0 (1, 1) [] (by omega) (by rw [hRA]; exact he)
     rw [hRA, hx1] at happ
     obtain ⟨d, hd⟩ : ∃ d, (adv (1, 1) (bytesOf a0)).1 = d := ⟨_, rfl⟩
     have hbd := adv_bound (bytesOf a0) (1, 1) (by omega) (by omega)
     rw [hd, bytesOf_length] at hbd
     have hp : adv (1, 1) (bytesOf a0 ++ [10]) = ((1 : Int) + d, 1) := by
      rw [adv_append, adv_cons, if_pos rfl, adv_nil, hd, Int.add_comm]
     have hpre := run_pre (t.size + 1) a1 ((1 : Int) + d, 1) RA.1 []
     rw [List.append_nil] at hpre
     have hshf := run_shf d (t.size + 1) a1 (1, 1) []
     rw [run_same a1 (1, 1) [] (t.size + 1) (a1.size + 1) (by omega) (by omega), hRB] at hshf
     rw [List.map_nil] at hshf
     dsimp only at hshf
     have hs0 : (run (t.size + 1) a1 ((1 : Int) + d, 1) []).2.1 = 0 := by rw [hshf.1]; exact hf
     have hall : run ((a0 ++ t).size + 1) (a0 ++ t) (1, 1) [] = run (a0.size + 1 + (t.size + 1)) (a0 ++ t) (1, 1) [] := run_same _ _ _ _ _ (by omega) (by omega)
     rw [hall, happ, hp] at hW
     have e2 : (run (t.size + 1) a1 ((1 : Int) + d, 1) RA.1).2.1 = 0 := by rw [hpre.1]; exact hs0
     have e1 : (run (t.size + 1) a1 ((1 : Int) + d, 1) RA.1).1 = RA.1 ++ RB.1.map (shf d) := by rw [hpre.2 hs0, hshf.2 hf]
     obtain ⟨RW, hRW⟩ : ∃ R, run (t.size + 1) a1 ((1 : Int) + d, 1) RA.1 = R := ⟨_, rfl⟩
     rw [hRW] at hW e1 e2
     refine Ev.step (f := fun k => (lex_Lex.f k (a0 ++ t)).bind fun bt287 => (if bt287.2.1 = 0 then (tachographlaw21_LexParts.j2 k a0 (RA.1.map mkA) (RB.1.map mkA) bt287.1 ((bt287.1.length : Int) != (wrap64 (((RA.1.map mkA).length : Int) + ((RB.1.map mkA).length : Int))))) else (tachographlaw21_LexParts.j2 k a0 (RA.1.map mkA) (RB.1.map mkA) bt287.1 true))) (fun k => ?_) (Ev.bind hW ?_)
     ·simp only [tachographlaw21_LexParts.j1, Bool.false_eq_true, if_false]
      rw [if_pos (by omega), if_pos (by rw [ByteArray.size_append]; show a0.size + 1 + a1.size ≤ _; omega), hassoc]
     ·dsimp only
      simp only [if_pos e2, e1, List.length_map, List.length_append]
      rw [w64 (by omega) (by omega)]
      have hq : (((RA.1.length + RB.1.length : Nat) : Int) != ((RA.1.length : Int) + (RB.1.length : Int))) = false := by simp
      rw [hq]
      have hE := end_eq a0 (by omega)
      rw [hd] at hE
      refine Ev.step (f := fun k => tachographlaw21_LexParts.l0 k (RA.1.map mkA) (RB.1.map mkA) d ((RA.1 ++ RB.1.map (shf d)).map mkA) ((RA.1.length + RB.1.length : Nat) : Int) ((0 : Nat) : Int)) (fun k => ?_) (parts_from RA.1 RB.1 d (by omega) hlow (by omega) (by omega) (RA.1.length + RB.1.length) 0 (by omega))
      simp only [tachographlaw21_LexParts.j2, Bool.false_eq_true, if_false]
      rw [hE]
      simp only [Option.bind_some, List.length_map, List.length_append]
      rfl
    ·have hne : (RB.2.1 != 0) = true := by simp [hf]
     rw [hne]
     exact j1t
   ·simp only [if_neg he]
    exact j1t
end Go.Proofs.Ytjfklfmfeghjnac.Pure
