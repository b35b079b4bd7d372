/- Plain laws on cutting (layer 16): what cut.Blocks answers. -/
import Derived.Test.YtmmfakdncjeoeaaMCut
set_option linter.unusedVariables false
namespace Go.Proofs.Ytmmfakdncjeoeaa.MCut
open Go.RowKit Go.Proofs.Ytmmfakdncjeoeaa.PC Go.Proofs.Ytmmfakdncjeoeaa.MPts Go.Proofs.Ytmmfakdncjeoeaa.MPut Go.Proofs.Ytmmfakdncjeoeaa.MBlock Go.Proofs.Ytmmfakdncjeoeaa.MBase Go.Proofs.YtmmfakdncjeoeaaAid Go.Proofs.YtmmfakdncjeoeaaW.PrintWords Go.Proofs.YtmmfakdncjeoeaaW.PrintLast Go.Proofs.YtmmfakdncjeoeaaW.PrintMore

def Lean4 (l : List Pnt) : Prop := l.length ≤ 4398046511104 ∧ ∀ p ∈ l, p.f1.length ≤ 4398046511104 ∧ ∀ e ∈ p.f1, e.f1.length ≤ 4398046511104
theorem clone_in (l : List Pnt) (hl : Lean4 l) (i : Nat) (h1 : i < l.length) (acc : List Pnt) (ha : acc.length = i) (v : List Pnt) (hv : Ev (fun k => trace_Clone.l0 k (acc ++ [l[i]]) l (l.length : Int) ((i + 1 : Nat) : Int)) v) :
    ∀ (n j : Nat) (ac : List Evt), n + j = l[i].f1.length → ac = l[i].f1.take j → Ev (fun k => trace_Clone.l1 k acc l (l.length : Int) (i : Int) l[i].f1 (l[i].f1.length : Int) (j : Int) l[i].f0 ac) v
  | 0, j, ac => fun h hac => by
    refine Ev.step (f := fun k => trace_Clone.l0 k (acc ++ [l[i]]) l (l.length : Int) ((i + 1 : Nat) : Int)) (fun k => ?_) hv
    have := hl.1
    simp only [trace_Clone.l1]
    rw [if_neg (by omega), if_pos (by omega), w64 (x := (i : Int) + 1) (by omega) (by omega), hac, List.take_of_length_le (by omega)]
    rfl
  | n + 1, j, ac => fun h hac => by
    have hb := hl.2 _ (List.getElem_mem h1)
    have hj : j < l[i].f1.length := by omega
    have ih := clone_in l hl i h1 acc ha v hv n (j + 1) (ac ++ [l[i].f1[j]]) (by omega) (by rw [hac, List.take_succ_eq_append_getElem hj])
    have hal : ac.length = j := by rw [hac, List.length_take]; omega
    have he := hb.2 _ (List.getElem_mem hj)
    refine Ev.step (f := fun k => trace_Clone.l1 k acc l (l.length : Int) (i : Int) l[i].f1 (l[i].f1.length : Int) ((j + 1 : Nat) : Int) l[i].f0 (ac ++ [l[i].f1[j]])) (fun k => ?_) ih
    simp only [trace_Clone.l1, api_Arg.f]
    rw [if_pos (by omega), if_pos (by omega), if_pos (by omega), at_e _ j hj, if_pos he, Option.bind_some, if_pos (by omega), w64 (x := (j : Int) + 1) (by omega) (by omega)]
    rfl
theorem clone_from (l : List Pnt) (hl : Lean4 l) : ∀ (n i : Nat) (acc : List Pnt), n + i = l.length → acc.length = i → Ev (fun k => trace_Clone.l0 k acc l (l.length : Int) (i : Int)) (acc ++ l.drop i)
  | 0, i, acc => fun h ha => by
    rw [List.drop_eq_nil_of_le (by omega), List.append_nil]
    refine Ev.step (f := fun _ => some acc) (fun k => ?_) (Ev.now _)
    simp only [trace_Clone.l0]
    rw [if_neg (by omega)]
  | n + 1, i, acc => fun h ha => by
    have h1 : i < l.length := by omega
    have ih := clone_from l hl n (i + 1) (acc ++ [l[i]]) (by omega) (by simp [ha])
    rw [List.drop_eq_getElem_cons h1]
    rw [List.append_assoc, List.singleton_append] at ih
    refine Ev.step (f := fun k => trace_Clone.l1 k acc l (l.length : Int) (i : Int) l[i].f1 (l[i].f1.length : Int) ((0 : Nat) : Int) l[i].f0 []) (fun k => ?_) (clone_in l hl i h1 acc ha _ ih l[i].f1.length 0 [] (by omega) rfl)
    simp only [trace_Clone.l0]
    rw [if_pos (by omega), if_pos (by omega), if_pos (by omega), at_pt l i h1]
    rfl
theorem clone_ev (l : List Pnt) (hl : Lean4 l) : Ev (fun k => trace_Clone.f k l) l := clone_from l hl l.length 0 [] (by omega) rfl
theorem six_of {sig : List Pred} {u : List Pnt} (hc : MSig.check sig = 0) (ho : okT sig 0 u) (h0 : u.length ≠ 0) (hl : u.length ≤ 1024) (hb : big sig u = true) : (bput sig u).2 = 6 := by
  have hk := (okT_check hc).2 ho
  unfold big at hb
  have hb := of_decide_eq_true hb
  unfold bput at hb ⊢
  rw [if_neg h0, if_pos hk, if_neg (by omega)] at hb ⊢
  split
  · rfl
  · rename_i h
    rw [if_neg h] at hb
    exact absurd rfl hb
theorem fits_ev (sig : List Pred) (hs : MSig.Short sig) (p : Pnt) (hf : FitsN [p]) : Ev (fun k => cut_Fits.f k sig p.f0 p.f1) (!big sig [p]) := by
  unfold cut_Fits.f
  refine Ev.bind (bput_ev sig hs [p] hf) ?_
  have e : (!big sig [p]) = ((bput sig [p]).2 == 0) := by
    unfold big
    by_cases h : (bput sig [p]).2 = 0 <;> simp [h]
  rw [e]
  exact Ev.now _
theorem fits_from (sig : List Pred) (hs : MSig.Short sig) (t : List Pnt) (hf : FitsN t) (most : Int) (v : List (List Pnt) × Int) (hv : Ev (fun k => cut_Blocks.l1 k sig (mn most 1024) ([] : List (List Pnt)) t) v) : ∀ (d i : Nat), d + i = t.length →
    Ev (fun k => cut_Blocks.l0 k sig t most t (t.length : Int) (i : Int)) (if (t.drop i).all (fun p => !big sig [p]) = true then v else ([], 6))
  | 0, i => fun hd => by
    rw [List.drop_eq_nil_of_le (by omega), List.all_nil, if_pos rfl]
    refine Ev.step (f := fun k => cut_Blocks.l1 k sig (mn most 1024) ([] : List (List Pnt)) t) (fun k => ?_) hv
    simp only [cut_Blocks.l0]
    rw [if_neg (by omega)]
  | d + 1, i => fun hd => by
    have hi : i < t.length := by omega
    have hlt := hf.1.1
    have ih := fits_from sig hs t hf most v hv d (i + 1) (by omega)
    have hp : FitsN [t[i]] := FitsN.sub hf (by simp; omega) (fun p hp => by rw [List.mem_singleton] at hp; subst hp; exact List.getElem_mem hi)
    rw [List.drop_eq_getElem_cons hi, List.all_cons]
    refine Ev.step (f := fun k => (cut_Fits.f k sig t[i].f0 t[i].f1).bind fun t208 => (if t208 = true then (cut_Blocks.l0 k sig t most t (t.length : Int) ((i + 1 : Nat) : Int)) else (some (([] : List (List Pnt)), 6)))) (fun k => ?_) (Ev.bind (fits_ev sig hs t[i] hp) ?_)
    · simp only [cut_Blocks.l0]
      rw [if_pos (by omega), if_pos (by omega), if_pos (by omega), at_pt t i hi, w64 (by omega) (by omega)]
      rfl
    · cases hb : big sig [t[i]] with
      | false => simpa using ih
      | true => simpa using Ev.now (([] : List (List Pnt)), (6 : Int))
def Blks (sig : List Pred) (m : Nat) : List Pnt → List (List Pnt) → Prop
  | rest, [] => rest = []
  | rest, b :: bs => ∃ n : Nat, 1 ≤ n ∧ n ≤ m ∧ n ≤ rest.length ∧ b = rest.take n ∧ (bput sig b).2 = 0 ∧ (n < m → n < rest.length → (bput sig (rest.take (n + 1))).2 = 6) ∧ Blks sig m (rest.drop n) bs
theorem blocks_from (sig : List Pred) (hs : MSig.Short sig) (hc : MSig.check sig = 0) (m : Nat) (h1 : 1 ≤ m) (hm : m ≤ 1024) : ∀ (d : Nat) (rest : List Pnt) (acc : List (List Pnt)), rest.length ≤ d → FitsN rest → Lean4 rest → okT sig 0 rest → rest.all (fun p => !big sig [p]) = true → acc.length + rest.length ≤ 4398046511104 →
    ∃ bs, Ev (fun k => cut_Blocks.l1 k sig (m : Int) acc rest) (acc ++ bs, 0) ∧ Blks sig m rest bs := by
  intro d
  induction d with
  | zero =>
    intro rest acc hd hf h4 ho ha hl
    obtain rfl : rest = [] := List.eq_nil_of_length_eq_zero (by omega)
    refine ⟨[], ?_, rfl⟩
    rw [List.append_nil]
    exact Ev.step (f := fun _ => some (acc, 0)) (fun k => by simp only [cut_Blocks.l1]; rw [if_neg (by simp)]) (Ev.now _)
  | succ d ih =>
    intro rest acc hd hf h4 ho ha hl
    by_cases h0 : rest = []
    · subst h0
      refine ⟨[], ?_, rfl⟩
      rw [List.append_nil]
      exact Ev.step (f := fun _ => some (acc, 0)) (fun k => by simp only [cut_Blocks.l1]; rw [if_neg (by simp)]) (Ev.now _)
    · have hpos : 0 < rest.length := List.length_pos_iff.2 h0
      have hb1 : big sig (rest.take 1) = false := by
        obtain ⟨p, r, rfl⟩ : ∃ p r, rest = p :: r := by
          cases rest with
          | nil => exact absurd rfl h0
          | cons p r => exact ⟨p, r, rfl⟩
        have := List.all_eq_true.1 ha p List.mem_cons_self
        simpa using this
      obtain ⟨n, e1, n1, n2, n3, n4, n5⟩ := end_ev sig hs rest hf m h1 hpos hb1
      have f0 : ∀ p ∈ rest, 0 ≤ p.f0 := fun p hp => (hf.1.2 p hp).1.1
      obtain ⟨bs, g1, g2⟩ := ih (rest.drop n) (acc ++ [rest.take n]) (by rw [List.length_drop]; omega) (FitsN.drop hf n) ⟨by rw [List.length_drop]; have := h4.1; omega, fun p hp => h4.2 p (List.mem_of_mem_drop hp)⟩ (okT_drop rest 0 n f0 ho)
        (List.all_eq_true.2 fun p hp => List.all_eq_true.1 ha p (List.mem_of_mem_drop hp)) (by rw [List.length_append, List.length_drop, List.length_singleton]; omega)
      have hcl : Lean4 (rest.take n) := ⟨by rw [List.length_take]; have := h4.1; omega, fun p hp => h4.2 p (List.mem_of_mem_take hp)⟩
      refine ⟨rest.take n :: bs, ?_, n, n1, n2, n3, rfl, ?_, fun q1 q2 => ?_, g2⟩
      · rw [List.append_assoc, List.singleton_append] at g1
        refine Ev.step (f := fun k => (cut_end.f k sig rest (m : Int)).bind fun t209 => (if 0 ≤ t209 then (if t209 ≤ (rest.length : Int) then ((trace_Clone.f k (rest.take (t209 : Int).toNat)).bind fun t215 => (if acc.length < 5864062014805 then (cut_Blocks.l1 k sig (m : Int) (acc ++ [t215]) (rest.drop (t209 : Int).toNat)) else (none))) else (none)) else (none))) (fun k => ?_) (Ev.bind e1 ?_)
        · simp only [cut_Blocks.l1]
          rw [if_pos (by omega)]
        · simp only [if_pos (show (0 : Int) ≤ (n : Int) by omega), if_pos (show (n : Int) ≤ (rest.length : Int) by omega), Int.toNat_natCast, if_pos (show acc.length < 5864062014805 by omega)]
          exact Ev.bind (clone_ev _ hcl) g1
      · have := n4
        unfold big at this
        exact Decidable.not_not.1 (of_decide_eq_false this)
      · exact six_of hc (okT_take sig rest 0 (n + 1) ho) (by rw [List.length_take]; omega) (by rw [List.length_take]; omega) (n5 q1 q2)
end Go.Proofs.Ytmmfakdncjeoeaa.MCut
