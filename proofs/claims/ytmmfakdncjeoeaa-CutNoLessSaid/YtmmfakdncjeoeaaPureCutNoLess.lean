/- Proved: tachographlaw16.CutNoLess answers true at every signature, all points and every number: each block fits; none but the last could have one point more. -/
import Derived.Test.YtmmfakdncjeoeaaMCutBlocks
import Derived.Test.YtmmfakdncjeoeaaPCx1
import Derived.Test.YtmmfakdncjeoeaaPCx10
import Derived.Test.YtmmfakdncjeoeaaPCx8
import Derived.Test.YtmmfakdncjeoeaaPCx9
set_option linter.unusedVariables false
set_option linter.unusedSimpArgs false
namespace Go.Proofs.Ytmmfakdncjeoeaa.Pure
open Go.RowKit Go.Proofs.Ytmmfakdncjeoeaa.PC Go.Proofs.Ytmmfakdncjeoeaa.MPts Go.Proofs.Ytmmfakdncjeoeaa.MPut Go.Proofs.Ytmmfakdncjeoeaa.MDict Go.Proofs.Ytmmfakdncjeoeaa.MBlock Go.Proofs.Ytmmfakdncjeoeaa.MCut Go.Proofs.Ytmmfakdncjeoeaa.MBase Go.Proofs.YtmmfakdncjeoeaaAid Go.Proofs.YtmmfakdncjeoeaaW.PrintWords Go.Proofs.YtmmfakdncjeoeaaW.PrintLast Go.Proofs.YtmmfakdncjeoeaaW.PrintMore

theorem at_b (l : List (List Pnt)) (i : Nat) (h : i < l.length) : rd_L11 l (i : Int) = l[i] := by simp [rd_L11, List.getD_eq_getElem?_getD, List.getElem?_eq_getElem h]
theorem good_len {sig : List Pred} {m : Nat} : ∀ (bs : List (List Pnt)) (rest : List Pnt), Blks sig m rest bs → bs.length ≤ rest.length
  | [], rest => fun _ => Nat.zero_le _
  | b :: bs, rest => fun h => by
    obtain ⟨n, n1, n2, n3, _, _, _, hg⟩ := h
    have := good_len bs (rest.drop n) hg
    rw [List.length_drop] at this
    rw [List.length_cons]
    omega
/-- What Blocks answers: blocks, or none. -/
theorem blocks_ev (sig : List Pred) (hs : MSig.Short sig) (t : List Pnt) (hf : FitsN t) (h4 : Lean4 t) (most : Int) (hm : -9223372036854775808 ≤ most ∧ most < 9223372036854775808) :
    ∃ (bs : List (List Pnt)) (c : Int), Ev (fun k => cut_Blocks.f k sig t most) (bs, c) ∧ (c ≠ 0 → bs = []) ∧ (c = 0 → ∃ m : Nat, 1 ≤ m ∧ m ≤ 1024 ∧ (m : Int) = mn most 1024 ∧ Blks sig m t bs) := by
  have hlt := h4.1
  unfold cut_Blocks.f
  by_cases h1 : most < 1
  · refine ⟨[], 1, Ev.congr (f := fun _ => some (([] : List (List Pnt)), (1 : Int))) (fun k => by rw [if_pos h1]) (Ev.now _), fun _ => rfl, fun h => absurd h (by omega)⟩
  · have hck := MTrace.tcheck_ev sig hs t hf.1.fits (by omega)
    by_cases hc : (MTrace.tcheck sig t).1 = 0
    · obtain ⟨k1, k2, k3⟩ := tcheck_ok hc
      obtain ⟨m, hmm⟩ : ∃ m : Nat, (m : Int) = mn most 1024 := ⟨(mn most 1024).toNat, by rw [Int.toNat_of_nonneg]; unfold mn; split <;> omega⟩
      have hm2 : 1 ≤ m ∧ m ≤ 1024 := by
        unfold mn at hmm
        split at hmm <;> omega
      by_cases ha : t.all (fun p => !big sig [p]) = true
      · obtain ⟨bs, g1, g2⟩ := blocks_from sig hs k1 m hm2.1 hm2.2 t.length t [] (Nat.le_refl _) hf h4 ((okT_check k1).1 hc) ha (by simp; omega)
        rw [List.nil_append, hmm] at g1
        have hft := fits_from sig hs t hf most (bs, 0) g1 t.length 0 (by omega)
        rw [List.drop_zero, if_pos ha] at hft
        refine ⟨bs, 0, Ev.congr (fun k => by rw [if_neg h1]) (Ev.bind hck ?_), fun h => absurd rfl h, fun _ => ⟨m, hm2.1, hm2.2, hmm, g2⟩⟩
        simp only [if_pos hc]
        exact hft
      · have hz : ∃ v, Ev (fun k => cut_Blocks.l0 k sig t most t (t.length : Int) ((0 : Nat) : Int)) v ∧ v = (([] : List (List Pnt)), (6 : Int)) := by
          refine ⟨_, ?_, rfl⟩
          have key : ∀ (d i : Nat), d + i = t.length → ¬ (t.drop i).all (fun p => !big sig [p]) = true → Ev (fun k => cut_Blocks.l0 k sig t most t (t.length : Int) (i : Int)) (([] : List (List Pnt)), (6 : Int)) := by
            intro d
            induction d with
            | zero =>
              intro i hd hh
              rw [List.drop_eq_nil_of_le (by omega)] at hh
              exact absurd rfl hh
            | succ d ih =>
              intro i hd hh
              have hi : i < t.length := by omega
              have hp : FitsN [t[i]] := FitsN.sub hf (by simp; omega) (fun p hp => by rw [List.mem_singleton] at hp; subst hp; exact List.getElem_mem hi)
              rw [List.drop_eq_getElem_cons hi, List.all_cons] at hh
              refine Ev.step (f := fun k => (cut_Fits.f k sig t[i].f0 t[i].f1).bind fun t208 => (if t208 = true then (cut_Blocks.l0 k sig t most t (t.length : Int) ((i + 1 : Nat) : Int)) else (some (([] : List (List Pnt)), 6)))) (fun k => ?_) (Ev.bind (fits_ev sig hs t[i] hp) ?_)
              · simp only [cut_Blocks.l0]
                rw [if_pos (by omega), if_pos (by omega), if_pos (by omega), at_pt t i hi, w64 (by omega) (by omega)]
                rfl
              · cases hb : big sig [t[i]] with
                | false =>
                  rw [hb] at hh
                  simpa using ih (i + 1) (by omega) (by simpa using hh)
                | true => simpa using Ev.now (([] : List (List Pnt)), (6 : Int))
          exact key t.length 0 (by omega) (by rw [List.drop_zero]; exact ha)
        obtain ⟨v, hv, rfl⟩ := hz
        refine ⟨[], 6, Ev.congr (fun k => by rw [if_neg h1]) (Ev.bind hck ?_), fun _ => rfl, fun h => absurd h (by omega)⟩
        simp only [if_pos hc]
        exact hv
    · refine ⟨[], (MTrace.tcheck sig t).1, Ev.congr (fun k => by rw [if_neg h1]) (Ev.bind hck ?_), fun _ => rfl, fun h => absurd h hc⟩
      simp only [if_neg hc]
      exact Ev.now _
theorem fixed16 : Ev (fun k => tachographlaw16_fixed.f k) true := Ev.of (fun k => tachographlaw16_fixed.mono k) (k := 80) (by kernel_rfl)
set_option maxHeartbeats 2000000 in
theorem loop_ev (sig : List Pred) (hs : MSig.Short sig) (most : Int) (m : Nat) (h1 : 1 ≤ m) (hm : m ≤ 1024) (hmm : (m : Int) = mn most 1024) (bs : List (List Pnt)) (hbs : bs.length ≤ 4398046511104) : ∀ (b2 pre : List (List Pnt)) (rest : List Pnt), bs = pre ++ b2 → FitsN rest → Blks sig m rest b2 →
    Ev (fun k => tachographlaw16_CutNoLess.l0 k sig most bs bs (bs.length : Int) (pre.length : Int)) true
  | [], pre, rest => fun hb hf hg => by
    rw [List.append_nil] at hb
    subst hb
    refine Ev.step (f := fun k => (tachographlaw16_fixed.f k).bind fun t => some t) (fun k => ?_) (Ev.bind fixed16 (Ev.now _))
    simp only [tachographlaw16_CutNoLess.l0]
    rw [if_neg (by omega)]
  | b :: b2, pre, rest => fun hb hf hg => by
    obtain ⟨n, n1, n2, n3, rfl, n5, n6, hg2⟩ := hg
    have hlen : bs.length = pre.length + (b2.length + 1) := by rw [hb, List.length_append, List.length_cons]
    have hi : pre.length < bs.length := by omega
    have hat : rd_L11 bs (pre.length : Int) = rest.take n := by rw [at_b bs _ hi]; simp [hb]
    have hl : (rest.take n).length = n := by rw [List.length_take]; omega
    have ih := loop_ev sig hs most m h1 hm hmm bs hbs b2 (pre ++ [rest.take n]) (rest.drop n) (by rw [hb, List.append_assoc]; rfl) (FitsN.drop hf n) hg2
    rw [List.length_append, List.length_singleton] at ih
    have hput := bput_ev sig hs (rest.take n) (FitsN.take hf n)
    have hmost : (n : Int) ≤ most := by
      have : (m : Int) ≤ most := by rw [hmm]; unfold mn; split <;> omega
      omega
    have e1 : wrap64 ((pre.length : Int) + 1) = ((pre.length + 1 : Nat) : Int) := by rw [w64 (by omega) (by omega)]; rfl
    refine Ev.step (f := fun k => (block_Put.f k sig (rest.take n)).bind fun bt272 => (if bt272.2 = 0 then (if ((pre.length + 1 : Nat) : Int) < (bs.length : Int) then ((if (0 : Int) ≤ (mn 1 ((rd_L11 bs ((pre.length + 1 : Nat) : Int)).length : Int)) then (if (mn 1 ((rd_L11 bs ((pre.length + 1 : Nat) : Int)).length : Int)) ≤ ((rd_L11 bs ((pre.length + 1 : Nat) : Int)).length : Int) then ((if (rest.take n).length + ((rd_L11 bs ((pre.length + 1 : Nat) : Int)).take ((mn 1 ((rd_L11 bs ((pre.length + 1 : Nat) : Int)).length : Int)) : Int).toNat).length < 4398046511104 then ((block_Put.f k sig (rest.take n ++ (rd_L11 bs ((pre.length + 1 : Nat) : Int)).take ((mn 1 ((rd_L11 bs ((pre.length + 1 : Nat) : Int)).length : Int)) : Int).toNat)).bind fun bt292 => (if ((rest.take n).length : Int) < (mn most 1024) then (if bt292.2 = 6 then (tachographlaw16_CutNoLess.l0 k sig most bs bs (bs.length : Int) ((pre.length + 1 : Nat) : Int)) else (some false)) else (tachographlaw16_CutNoLess.l0 k sig most bs bs (bs.length : Int) ((pre.length + 1 : Nat) : Int)))) else (none))) else (none)) else (none))) else (tachographlaw16_CutNoLess.l0 k sig most bs bs (bs.length : Int) ((pre.length + 1 : Nat) : Int))) else (some false))) (fun k => ?_) (Ev.bind hput ?_)
    · have c1 : (pre.length : Int) < (bs.length : Int) := by omega
      have c2 : (0 : Int) ≤ (pre.length : Int) := Int.natCast_nonneg _
      have c3 : ¬ ((rest.take n).length : Int) < 1 := by rw [hl]; omega
      have c4 : ¬ ((rest.take n).length : Int) > most := by rw [hl]; omega
      have c5 : ¬ ((rest.take n).length : Int) > 1024 := by rw [hl]; omega
      have c6 : 0 + (rest.take n).length < 4398046511104 := by rw [hl]; omega
      have c7 : (0 : Int) ≤ ((pre.length + 1 : Nat) : Int) := Int.natCast_nonneg _
      simp only [tachographlaw16_CutNoLess.l0, hat, e1, if_pos c1, if_pos c2, if_neg c3, if_neg c4, if_neg c5, Option.bind_some, List.length_nil, List.nil_append, if_pos c6, if_pos c7]
    · simp only [if_pos n5]
      by_cases hnx : ((pre.length + 1 : Nat) : Int) < (bs.length : Int)
      · simp only [if_pos hnx]
        obtain ⟨b', b3, rfl⟩ : ∃ b' b3, b2 = b' :: b3 := by
          cases b2 with
          | nil => rw [List.length_nil] at hlen; omega
          | cons b' b3 => exact ⟨b', b3, rfl⟩
        obtain ⟨n', m1, m2, m3, rfl, _, _, _⟩ := hg2
        have hat2 : rd_L11 bs ((pre.length + 1 : Nat) : Int) = (rest.drop n).take n' := by rw [at_b bs _ (by omega)]; simp [hb]
        have hl2 : ((rest.drop n).take n').length = n' := by rw [List.length_take]; omega
        have hmn1 : mn 1 (n' : Int) = 1 := by unfold mn; split <;> omega
        rw [List.length_drop] at m3
        have hcat : rest.take n ++ ((rest.drop n).take n').take 1 = rest.take (n + 1) := by
          rw [List.take_take, Nat.min_eq_left (by omega), ← List.take_add]
        have hput2 := bput_ev sig hs (rest.take (n + 1)) (FitsN.take hf (n + 1))
        have h01 : (0 : Int) ≤ 1 := by omega
        have h1n : (1 : Int) ≤ (n' : Int) := by omega
        have hs1 : n + (((rest.drop n).take n').take (1 : Int).toNat).length < 4398046511104 := by rw [List.length_take]; omega
        simp only [hat2, hl, hl2, hmn1, if_pos h01, if_pos h1n, if_pos hs1]
        rw [show (1 : Int).toNat = 1 from rfl, hcat]
        refine Ev.bind hput2 ?_
        by_cases hlt : (n : Int) < mn most 1024
        · simp only [if_pos hlt, if_pos (n6 (by omega) (by omega))]
          exact ih
        · simp only [if_neg hlt]
          exact ih
      · simp only [if_neg hnx]
        exact ih
theorem CutNoLess : tachographlaw16_CutNoLess.Pure := by
  intro sig t n hsig ht hn
  refine Ev.rounds ?_
  have hfit : FitsN t := by
    refine ⟨⟨by have := ht.2.1; omega, fun p hp => ?_⟩, fun p hp e he a ha => ?_⟩
    · obtain ⟨h1, h2⟩ := ht.2.2 p hp
      refine ⟨wf_u64 h1, by have h : p.f1.length * 32 ≤ 140737488351232 := h2.2.1; omega, fun e he => ?_⟩
      obtain ⟨h4, h5⟩ := h2.2.2 e he
      have h6 := wf_i64 h4
      refine ⟨⟨h6.1, by omega⟩, by have h : e.f1.length * 32 ≤ 140737488351232 := h5.2.1; omega, fun a ha => (h5.2.2 a ha).2.2⟩
    · have h6 := wf_i64 ((((ht.2.2 p hp).2.2.2 e he).2.2.2 a ha).2.1)
      exact ⟨h6.1, by have h7 : a.f1 < 9223372036854775808 := h6.2; omega⟩
  have h4 : Lean4 t := by
    refine ⟨by have h : t.length * 32 ≤ 140737488351232 := ht.2.1; omega, fun p hp => ?_⟩
    obtain ⟨h1, h2⟩ := ht.2.2 p hp
    refine ⟨by have h : p.f1.length * 32 ≤ 140737488351232 := h2.2.1; omega, fun e he => ?_⟩
    have h : e.f1.length * 32 ≤ 140737488351232 := (h2.2.2 e he).2.2.1
    omega
  have hslen : sig.length < 9223372036854775807 := by have := hsig.2.1; omega
  have hs : MSig.Short sig := fun p hp => by have h : p.f0.size ≤ 140737488351232 := (hsig.2.2 p hp).1; omega
  have hyes : Ev (fun k => tachographlaw16_CutNoLess.j0 k sig t n true) true := by
    refine Ev.step (f := fun k => (tachographlaw16_fixed.f k).bind fun t => some t) (fun k => ?_) (Ev.bind fixed16 (Ev.now _))
    simp only [tachographlaw16_CutNoLess.j0, if_true]
  have hno : Ev (fun k => tachographlaw16_CutNoLess.j0 k sig t n false) true := by
    obtain ⟨bs, c, e1, e2, e3⟩ := blocks_ev sig hs t hfit h4 n (wf_i64 hn)
    refine Ev.step (f := fun k => (cut_Blocks.f k sig t n).bind fun bt265 => (if bt265.2 = 0 then (tachographlaw16_CutNoLess.l0 k sig n bt265.1 bt265.1 (bt265.1.length : Int) 0) else ((tachographlaw16_fixed.f k).bind fun t269 => (if t269 = true then (some ((bt265.1.length : Int) == 0)) else (some false))))) (fun k => by simp only [tachographlaw16_CutNoLess.j0, Bool.false_eq_true, if_false]) (Ev.bind e1 ?_)
    by_cases hc : c = 0
    · obtain ⟨m, m1, m2, m3, hg⟩ := e3 hc
      simp only [if_pos hc]
      have := good_len bs t hg
      exact loop_ev sig hs n m m1 m2 m3 bs (by have := h4.1; omega) bs [] t rfl hfit hg
    · simp only [if_neg hc, e2 hc]
      refine Ev.bind fixed16 ?_
      simp only [if_true]
      exact Ev.congr (f := fun _ => some true) (fun k => rfl) (Ev.now _)
  unfold tachographlaw16_CutNoLess.f
  refine Ev.bind (MSig.great_ev sig hslen) ?_
  cases hg : MSig.great sig with
  | true => simp only [if_true]; exact hyes
  | false =>
    simp only [Bool.false_eq_true, if_false]
    obtain ⟨b, hb⟩ := tgreat_ev 1500 t hfit.1.fits (by have := hfit.1.1; omega)
    refine Ev.bind hb ?_
    cases b
    · exact hno
    · exact hyes
end Go.Proofs.Ytmmfakdncjeoeaa.Pure
