/- Proved: tachographlaw14.BlockShifts answers true at every signature, all points and every number: with all times later by as much the payload is the same behind the first time. -/
import Derived.Test.YtjfklfmfeghjnabMBlock
import Derived.Test.YtjfklfmfeghjnabPKx1
import Derived.Test.YtjfklfmfeghjnabPKx6
import Derived.Test.YtjfklfmfeghjnabPKx7
set_option linter.unusedVariables false
set_option linter.unusedSimpArgs false
namespace Go.Proofs.Ytjfklfmfeghjnab.Pure
open Go.RowKit Go.Proofs.Ytjfklfmfeghjnab.PK Go.Proofs.Ytjfklfmfeghjnab.MPts Go.Proofs.Ytjfklfmfeghjnab.MPut Go.Proofs.Ytjfklfmfeghjnab.MDict Go.Proofs.Ytjfklfmfeghjnab.MBlock Go.Proofs.Ytjfklfmfeghjnab.MBase Go.Proofs.YtjfklfmfeghjnabAid Go.Proofs.YtjfklfmfeghjnabW.PrintWords Go.Proofs.YtjfklfmfeghjnabW.PrintLast Go.Proofs.YtjfklfmfeghjnabW.PrintMore

theorem fixed14 : Ev (fun k => tachographlaw14_fixed.f k) true := by
  have h := bput_ev ([(⟨(⟨#[112]⟩ : ByteArray), [1]⟩ : S106)]) (fun p hp => by simp only [List.mem_singleton] at hp; subst hp; decide) ([(⟨5, [⟨0, [⟨1, 3, ⟨#[]⟩⟩]⟩]⟩ : Pnt)])
    ⟨⟨by decide, fun p hp => by
      simp only [List.mem_singleton] at hp
      subst hp
      refine ⟨by decide, by decide, fun e he => ?_⟩
      simp only [List.mem_singleton] at he
      subst he
      refine ⟨by decide, by decide, fun a ha => ?_⟩
      simp only [List.mem_singleton] at ha
      subst ha
      decide⟩, fun p hp e he a ha => by
      simp only [List.mem_singleton] at hp
      subst hp
      simp only [List.mem_singleton] at he
      subst he
      simp only [List.mem_singleton] at ha
      subst ha
      decide⟩
  have hc : (MTrace.tcheck ([(⟨(⟨#[112]⟩ : ByteArray), [1]⟩ : S106)]) ([(⟨5, [⟨0, [⟨1, 3, ⟨#[]⟩⟩]⟩]⟩ : Pnt)])).1 = 0 := by decide +kernel
  have hp : pay ([(⟨5, [⟨0, [⟨1, 3, ⟨#[]⟩⟩]⟩]⟩ : Pnt)]) = [5, 1, 0, 1, 0, 6] := by
    simp [pay, tailB, dict, strs, strsP, strsE, strA, puts, ptB, evB, argB, ptsB, MFold.foldN, wbytes]
  have hb : bput ([(⟨(⟨#[112]⟩ : ByteArray), [1]⟩ : S106)]) ([(⟨5, [⟨0, [⟨1, 3, ⟨#[]⟩⟩]⟩]⟩ : Pnt)]) = ([5, 1, 0, 1, 0, 6], 0) := by
    unfold bput
    rw [if_neg (by simp), if_pos hc, if_neg (by simp), hp, if_neg (by simp)]
  rw [hb] at h
  unfold tachographlaw14_fixed.f
  refine Ev.bind h ?_
  refine Ev.congr (f := fun _ => some true) (fun k => ?_) (Ev.now _)
  simp only [if_true]
  rw [toList_strOfNums]
  rfl

theorem tail_from (r l : List Int) (hl : l.length < 9223372036854775807) : ∀ (m : Nat) (pre : List Int), l = pre ++ (wbytes m ++ r) → Ev (fun k => tachographlaw14_tail.l0 k l l (l.length : Int) (pre.length : Int)) (strOfNums r) := by
  intro m
  induction m using Nat.strongRecOn with
  | _ m ih =>
    intro pre h
    rw [wbytes] at h
    by_cases hm : m < 128
    · rw [dif_pos hm] at h
      have hlen : pre.length < l.length := by rw [h]; simp
      have hat : rd l (pre.length : Int) = (m : Int) := by
        rw [at_i l pre.length hlen]
        simp [h]
      refine Ev.step (f := fun _ => some (strOfNums r)) (fun k => ?_) (Ev.now _)
      simp only [tachographlaw14_tail.l0]
      rw [if_pos (by omega), if_pos (by omega), if_pos (by omega), hat, if_pos (by omega), w64 (by omega) (by omega), if_pos (by omega), if_pos (by omega)]
      congr 2
      have e : ((pre.length : Int) + 1).toNat = pre.length + 1 := by omega
      rw [e, h, List.drop_append]
      simp
    · rw [dif_neg hm] at h
      have hlen : pre.length < l.length := by rw [h]; simp
      have hat : rd l (pre.length : Int) = ((m % 128 + 128 : Nat) : Int) := by
        rw [at_i l pre.length hlen]
        simp [h]
      have h2 := ih (m / 128) (by omega) (pre ++ [((m % 128 + 128 : Nat) : Int)]) (by rw [h]; simp)
      rw [List.length_append, List.length_singleton] at h2
      refine Ev.step (f := fun k => tachographlaw14_tail.l0 k l l (l.length : Int) ((pre.length + 1 : Nat) : Int)) (fun k => ?_) h2
      simp only [tachographlaw14_tail.l0]
      rw [if_pos (by omega), if_pos (by omega), if_pos (by omega), hat, if_neg (by omega), w64 (by omega) (by omega)]
      rfl
theorem tail_ev (m : Nat) (r : List Int) (hl : (wbytes m ++ r).length < 9223372036854775807) : Ev (fun k => tachographlaw14_tail.f k (wbytes m ++ r)) (strOfNums r) := tail_from r _ hl m [] rfl

/-! ### later -/
def lat (n : Int) (p : Pnt) : Pnt := ⟨IntKind.u64.wrap (p.f0 + n), p.f1⟩
theorem strs_lat (n : Int) (t : List Pnt) : strs (t.map (lat n)) = strs t := by
  unfold strs
  rw [List.flatMap_map]
  rfl
theorem dict_lat (n : Int) (t : List Pnt) : dict (t.map (lat n)) = dict t := by unfold dict; rw [strs_lat]
theorem ptsB_lat (D : List ByteArray) (n : Int) : ∀ (t : List Pnt) (a : Int), ptsB D (IntKind.u64.wrap (a + n)) (t.map (lat n)) = ptsB D a t
  | [], a => rfl
  | p :: r, a => by
    have ih := ptsB_lat D n r p.f0
    have e : IntKind.u64.wrap (IntKind.u64.wrap (p.f0 + n) - IntKind.u64.wrap (a + n)) = IntKind.u64.wrap (p.f0 - a) := by
      simp only [IntKind.wrap_u64]
      omega
    show wbytes (IntKind.u64.wrap (IntKind.u64.wrap (p.f0 + n) - IntKind.u64.wrap (a + n))).toNat ++ (ptB D (lat n p) ++ ptsB D (IntKind.u64.wrap (p.f0 + n)) (r.map (lat n))) = _
    rw [e, ih]
    rfl
theorem tailB_lat (n : Int) (t : List Pnt) : tailB (t.map (lat n)) = tailB t := by
  unfold tailB
  rw [dict_lat, List.length_map]
  cases t with
  | nil => rfl
  | cons p r =>
    show _ ++ (_ ++ (_ ++ (ptB (dict (p :: r)) (lat n p) ++ ptsB (dict (p :: r)) (IntKind.u64.wrap (p.f0 + n)) (r.map (lat n))))) = _
    rw [ptsB_lat]
    rfl
theorem fits_lat (n : Int) {t : List Pnt} (h : FitsN t) : FitsN (t.map (lat n)) := by
  refine ⟨⟨by rw [List.length_map]; exact h.1.1, fun p hp => ?_⟩, fun p hp e he a ha => ?_⟩
  · obtain ⟨q, hq, rfl⟩ := List.mem_map.1 hp
    obtain ⟨_, h2, h3⟩ := h.1.2 q hq
    exact ⟨by show 0 ≤ IntKind.u64.wrap (q.f0 + n) ∧ _; rw [show (lat n q).f0 = IntKind.u64.wrap (q.f0 + n) from rfl, IntKind.wrap_u64]; omega, h2, h3⟩
  · obtain ⟨q, hq, rfl⟩ := List.mem_map.1 hp
    exact h.2 q hq e he a ha
theorem shift_from (sig : List S106) (t : List Pnt) (ht : t.length ≤ 4398046511104) (n : Int) (v : Bool) (hv : Ev (fun k => (block_Put.f k sig t).bind fun bt212 => ((block_Put.f k sig (t.map (lat n))).bind fun bt216 => (if bt212.2 = 0 then (tachographlaw14_BlockShifts.j2 k bt212.1 bt216.1 (bt216.2 != 0)) else (tachographlaw14_BlockShifts.j2 k bt212.1 bt216.1 true)))) v) : ∀ (d i : Nat), d + i = t.length → Ev (fun k => tachographlaw14_BlockShifts.l0 k sig t n ((t.take i).map (lat n)) t (t.length : Int) (i : Int)) v
  | 0, i => fun hd => by
    rw [List.take_of_length_le (by omega)]
    refine Ev.step (f := fun k => (block_Put.f k sig t).bind fun bt212 => ((block_Put.f k sig (t.map (lat n))).bind fun bt216 => (if bt212.2 = 0 then (tachographlaw14_BlockShifts.j2 k bt212.1 bt216.1 (bt216.2 != 0)) else (tachographlaw14_BlockShifts.j2 k bt212.1 bt216.1 true)))) (fun k => ?_) hv
    simp only [tachographlaw14_BlockShifts.l0]
    rw [if_neg (by omega)]
  | d + 1, i => fun hd => by
    have hi : i < t.length := by omega
    have ih := shift_from sig t ht n v hv d (i + 1) (by omega)
    rw [List.take_succ_eq_append_getElem hi, List.map_append] at ih
    refine Ev.step (f := fun k => tachographlaw14_BlockShifts.l0 k sig t n ((t.take i).map (lat n) ++ [lat n t[i]]) t (t.length : Int) ((i + 1 : Nat) : Int)) (fun k => ?_) ih
    simp only [tachographlaw14_BlockShifts.l0]
    rw [if_pos (by omega), if_pos (by omega), if_pos (by omega), if_pos (by rw [List.length_map, List.length_take]; omega), at_pt t i hi, w64 (by omega) (by omega)]
    rfl
theorem j2_yes (a b : List Int) : Ev (fun k => tachographlaw14_BlockShifts.j2 k a b true) true := by
  refine Ev.step (f := fun k => (tachographlaw14_fixed.f k).bind fun t => some t) (fun k => ?_) (Ev.bind fixed14 (Ev.now _))
  simp only [tachographlaw14_BlockShifts.j2, if_true]
theorem BlockShifts : tachographlaw14_BlockShifts.Pure := by
  intro sig t n hsig ht hn
  refine Ev.rounds ?_
  have htl : t.length ≤ 4398046511104 := by have := ht.2.1; omega
  have hfit : FitsN t := by
    refine ⟨⟨by omega, fun p hp => ?_⟩, fun p hp e he a ha => ?_⟩
    · obtain ⟨h1, h2⟩ := ht.2.2 p hp
      refine ⟨wf_u64 h1, by have h : p.f1.length * 32 ≤ 140737488351232 := h2.2.1; omega, fun e he => ?_⟩
      obtain ⟨h4, h5⟩ := h2.2.2 e he
      have h6 := wf_i64 h4
      refine ⟨⟨h6.1, by omega⟩, by have h : e.f1.length * 32 ≤ 140737488351232 := h5.2.1; omega, fun a ha => (h5.2.2 a ha).2.2⟩
    · have h6 := wf_i64 ((((ht.2.2 p hp).2.2.2 e he).2.2.2 a ha).2.1)
      exact ⟨h6.1, by have h7 : a.f1 < 9223372036854775808 := h6.2; omega⟩
  have hslen : sig.length < 9223372036854775807 := by have := hsig.2.1; omega
  have hs : MSig.Short sig := fun p hp => by have h : p.f0.size ≤ 140737488351232 := (hsig.2.2 p hp).1; omega
  have hyes : Ev (fun k => tachographlaw14_BlockShifts.j0 k sig t n true) true := by
    refine Ev.step (f := fun k => (tachographlaw14_fixed.f k).bind fun t => some t) (fun k => ?_) (Ev.bind fixed14 (Ev.now _))
    simp only [tachographlaw14_BlockShifts.j0, if_true]
  have hno : Ev (fun k => tachographlaw14_BlockShifts.j0 k sig t n false) true := by
    have hv : Ev (fun k => (block_Put.f k sig t).bind fun bt212 => ((block_Put.f k sig (t.map (lat n))).bind fun bt216 => (if bt212.2 = 0 then (tachographlaw14_BlockShifts.j2 k bt212.1 bt216.1 (bt216.2 != 0)) else (tachographlaw14_BlockShifts.j2 k bt212.1 bt216.1 true)))) true := by
      refine Ev.bind (bput_ev sig hs t hfit) (Ev.bind (bput_ev sig hs (t.map (lat n)) (fits_lat n hfit)) ?_)
      by_cases e1 : (bput sig t).2 = 0
      · simp only [if_pos e1]
        by_cases e2 : (bput sig (t.map (lat n))).2 = 0
        · have g : ∀ u : List Pnt, (bput sig u).2 = 0 → u.length ≠ 0 ∧ (bput sig u).1 = pay u ∧ (pay u).length ≤ 4096 := fun u hu => by
            unfold bput at hu ⊢
            split at hu
            · cases hu
            · rename_i h0
              split at hu
              · rename_i h1
                split at hu
                · cases hu
                · rename_i h2
                  split at hu
                  · cases hu
                  · rename_i h3
                    rw [if_neg h0, if_pos h1, if_neg h2, if_neg h3]
                    exact ⟨h0, rfl, by omega⟩
              · rename_i h1
                exact absurd hu h1
          obtain ⟨g1, g2, g3⟩ := g t e1
          obtain ⟨f1, f2, f3⟩ := g _ e2
          rw [g2, f2]
          have hb : ((bput sig (t.map (lat n))).2 != 0) = false := by rw [e2]; rfl
          simp only [hb]
          obtain ⟨p, r, rfl⟩ : ∃ p r, t = p :: r := by
            cases t with
            | nil => simp at g1
            | cons p r => exact ⟨p, r, rfl⟩
          have c1 : pay (p :: r) = wbytes p.f0.toNat ++ tailB (p :: r) := rfl
          have c2 : pay ((p :: r).map (lat n)) = wbytes (IntKind.u64.wrap (p.f0 + n)).toNat ++ tailB ((p :: r).map (lat n)) := rfl
          rw [c1] at g3 ⊢
          rw [c2, tailB_lat] at f3 ⊢
          have t1 := tail_ev p.f0.toNat (tailB (p :: r)) (by omega)
          have t2 := tail_ev (IntKind.u64.wrap (p.f0 + n)).toNat (tailB (p :: r)) (by omega)
          refine Ev.step (f := fun k => (tachographlaw14_fixed.f k).bind fun t1 => if t1 = true then ((tachographlaw14_tail.f k (wbytes p.f0.toNat ++ tailB (p :: r))).bind fun t2 => ((tachographlaw14_tail.f k (wbytes (IntKind.u64.wrap (p.f0 + n)).toNat ++ tailB (p :: r))).bind fun t3 => some (t2.toList == t3.toList))) else some false) (fun k => ?_) (Ev.bind fixed14 ?_)
          · simp only [tachographlaw14_BlockShifts.j2, Bool.false_eq_true, if_false]
          · simp only [if_true]
            refine Ev.bind t1 (Ev.bind t2 ?_)
            simp only [beq_self_eq_true]
            exact Ev.now _
        · have hb : ((bput sig (t.map (lat n))).2 != 0) = true := bne_iff_ne.2 e2
          simp only [hb]
          exact j2_yes _ _
      · simp only [if_neg e1]
        exact j2_yes _ _
    refine Ev.step (f := fun k => tachographlaw14_BlockShifts.l0 k sig t n [] t (t.length : Int) 0) (fun k => ?_) (shift_from sig t htl n true hv t.length 0 (by omega))
    simp only [tachographlaw14_BlockShifts.j0, Bool.false_eq_true, if_false]
  have hb : ∀ b : Bool, Ev (fun k => tachographlaw14_BlockShifts.j0 k sig t n b) true := fun b => by cases b; exact hno; exact hyes
  unfold tachographlaw14_BlockShifts.f
  refine Ev.bind (MSig.great_ev sig hslen) ?_
  by_cases hg : MSig.great sig = true
  · simp only [if_pos hg]
    exact hyes
  · simp only [if_neg hg]
    obtain ⟨b, hgb⟩ := tgreat_ev 2000 t hfit.1.fits (by omega)
    refine Ev.bind hgb ?_
    cases b
    · simp only [Bool.false_eq_true, if_false]
      by_cases h0 : (t.length : Int) = 0
      · simp only [if_pos h0]
        exact hyes
      · simp only [if_neg h0]
        have e1 : wrap64 ((t.length : Int) - 1) = (t.length : Int) - 1 := w64 (by omega) (by omega)
        rw [e1]
        refine Ev.congr (fun k => by rw [if_pos (by omega), if_pos (by omega)]) ?_
        by_cases hc : (rd_T44 t ((t.length : Int) - 1)).f0 > 9223372036854775808
        · simp only [if_pos hc]
          exact hyes
        · simp only [if_neg hc]
          exact hb _
    · simp only [if_true]
      exact hyes
end Go.Proofs.Ytjfklfmfeghjnab.Pure
