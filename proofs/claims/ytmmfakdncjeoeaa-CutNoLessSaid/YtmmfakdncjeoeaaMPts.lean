/- Plain words on traces: what memory lets in; whether one is great. -/
import Derived.Test.YtmmfakdncjeoeaaMBase
import Derived.Test.YtmmfakdncjeoeaaPCx1
set_option linter.unusedVariables false
namespace Go.Proofs.Ytmmfakdncjeoeaa.MPts
open Go.RowKit Go.Proofs.Ytmmfakdncjeoeaa.PC Go.Proofs.Ytmmfakdncjeoeaa.MBase Go.Proofs.YtmmfakdncjeoeaaW.PrintWords Go.Proofs.YtmmfakdncjeoeaaW.PrintLast Go.Proofs.YtmmfakdncjeoeaaW.PrintMore

abbrev Argm := S61
abbrev Evt := S59
abbrev Pnt := S56
theorem rd_pt (l : List Pnt) (i : Nat) : rd_T56 l (i : Int) = l.getD i z56 := by simp [rd_T56]
theorem rd_e (l : List Evt) (i : Nat) : rd_T59 l (i : Int) = l.getD i z59 := by simp [rd_T59]
theorem rd_a (l : List Argm) (i : Nat) : rd_T61 l (i : Int) = l.getD i z61 := by simp [rd_T61]
theorem at_pt (l : List Pnt) (i : Nat) (h : i < l.length) : rd_T56 l (i : Int) = l[i] := by rw [rd_pt]; simp [List.getD_eq_getElem?_getD, List.getElem?_eq_getElem h]
theorem at_e (l : List Evt) (i : Nat) (h : i < l.length) : rd_T59 l (i : Int) = l[i] := by rw [rd_e]; simp [List.getD_eq_getElem?_getD, List.getElem?_eq_getElem h]
theorem at_a (l : List Argm) (i : Nat) (h : i < l.length) : rd_T61 l (i : Int) = l[i] := by rw [rd_a]; simp [List.getD_eq_getElem?_getD, List.getElem?_eq_getElem h]
theorem at_i (l : List Int) (i : Nat) (h : i < l.length) : rd l (i : Int) = l[i] := by simp [rd, List.getD_eq_getElem?_getD, List.getElem?_eq_getElem h]
def Fits (t : List Pnt) : Prop := ∀ i, i < t.length → 0 ≤ (rd_T56 t (i : Int)).f0 ∧ (rd_T56 t (i : Int)).f0 < 18446744073709551616 ∧ (rd_T56 t (i : Int)).f1.length < 9223372036854775807 ∧ ∀ j, j < (rd_T56 t (i : Int)).f1.length → (rd_T59 (rd_T56 t (i : Int)).f1 (j : Int)).f1.length < 9223372036854775807
def FitsA (xs : List Argm) : Prop := ∀ a ∈ xs, a.f2.size ≤ 140737488351232
def FitsE (es : List Evt) : Prop := ∀ e ∈ es, (-9223372036854775808 ≤ e.f0 ∧ e.f0 ≤ 9223372036854775807) ∧ e.f1.length < 8796093022208 ∧ FitsA e.f1
def FitsT (t : List Pnt) : Prop := t.length < 8796093022208 ∧ ∀ p ∈ t, (0 ≤ p.f0 ∧ p.f0 < 18446744073709551616) ∧ p.f1.length < 8796093022208 ∧ FitsE p.f1
theorem FitsT.fits {t : List Pnt} (h : FitsT t) : Fits t := by
  intro i hi
  rw [at_pt t i hi]
  obtain ⟨h1, h2, h3⟩ := h.2 _ (List.getElem_mem hi)
  refine ⟨h1.1, h1.2, by omega, fun j hj => ?_⟩
  rw [at_e _ j hj]
  have := (h3 _ (List.getElem_mem hj)).2.1
  omega

/-! ### is it great? whatever the answer is -/
theorem great2 (m : Int) (t : List Pnt) (i : Nat) (es : List Evt) (j : Nat) (hj : j < 9223372036854775806) (as_ : List Argm) (ha : as_.length < 9223372036854775807)
    (hv : ∀ n, ∃ b, Ev (fun k => tachographlaw12_Great.l1 k m n t (t.length : Int) (i : Int) es (es.length : Int) ((j + 1 : Nat) : Int)) b) : ∀ (d q : Nat) (n : Int), d + q = as_.length → ∃ b, Ev (fun k => tachographlaw12_Great.l2 k m n t (t.length : Int) (i : Int) es (es.length : Int) (j : Int) as_ (as_.length : Int) (q : Int)) b
  | 0, q, n => fun hd => by
    obtain ⟨b, hb⟩ := hv n
    refine ⟨b, Ev.step (f := fun k => tachographlaw12_Great.l1 k m n t (t.length : Int) (i : Int) es (es.length : Int) ((j + 1 : Nat) : Int)) (fun k => ?_) hb⟩
    simp only [tachographlaw12_Great.l2]
    rw [if_neg (by omega), w64 (by omega) (by omega)]
    rfl
  | d + 1, q, n => fun hd => by
    obtain ⟨b, hb⟩ := great2 m t i es j hj as_ ha hv d (q + 1) (wrap64 (n + (wrap64 ((((rd_T61 as_ (q : Int)).f2).size : Int) / 8)))) (by omega)
    refine ⟨b, Ev.step (f := fun k => tachographlaw12_Great.l2 k m (wrap64 (n + (wrap64 ((((rd_T61 as_ (q : Int)).f2).size : Int) / 8)))) t (t.length : Int) (i : Int) es (es.length : Int) (j : Int) as_ (as_.length : Int) ((q + 1 : Nat) : Int)) (fun k => ?_) hb⟩
    simp only [tachographlaw12_Great.l2]
    rw [if_pos (by omega), if_pos (by omega), if_pos (by omega), w64 (x := (q : Int) + 1) (by omega) (by omega)]
    rfl
theorem great1 (m : Int) (t : List Pnt) (i : Nat) (hi : i < 9223372036854775806) (es : List Evt) (hm : es.length < 9223372036854775807) (he : ∀ j, j < es.length → (rd_T59 es (j : Int)).f1.length < 9223372036854775807)
    (hv : ∀ n, ∃ b, Ev (fun k => tachographlaw12_Great.l0 k m n t (t.length : Int) ((i + 1 : Nat) : Int)) b) : ∀ (d j : Nat) (n : Int), d + j = es.length → ∃ b, Ev (fun k => tachographlaw12_Great.l1 k m n t (t.length : Int) (i : Int) es (es.length : Int) (j : Int)) b
  | 0, j, n => fun hd => by
    obtain ⟨b, hb⟩ := hv n
    refine ⟨b, Ev.step (f := fun k => tachographlaw12_Great.l0 k m n t (t.length : Int) ((i + 1 : Nat) : Int)) (fun k => ?_) hb⟩
    simp only [tachographlaw12_Great.l1]
    rw [if_neg (by omega), w64 (by omega) (by omega)]
    rfl
  | d + 1, j, n => fun hd => by
    obtain ⟨b, hb⟩ := great2 m t i es j (by omega) (rd_T59 es (j : Int)).f1 (he j (by omega)) (fun n => great1 m t i hi es hm he hv d (j + 1) n (by omega)) _ 0 (wrap64 (n + (((rd_T59 es (j : Int)).f1).length : Int))) rfl
    refine ⟨b, Ev.step (f := fun k => tachographlaw12_Great.l2 k m (wrap64 (n + (((rd_T59 es (j : Int)).f1).length : Int))) t (t.length : Int) (i : Int) es (es.length : Int) (j : Int) ((rd_T59 es (j : Int)).f1) (((rd_T59 es (j : Int)).f1).length : Int) 0) (fun k => ?_) hb⟩
    simp only [tachographlaw12_Great.l1]
    rw [if_pos (by omega), if_pos (by omega), if_pos (by omega)]
theorem great0 (m : Int) (t : List Pnt) (ht : Fits t) (hm : t.length < 9223372036854775807) : ∀ (d i : Nat) (n : Int), d + i = t.length → ∃ b, Ev (fun k => tachographlaw12_Great.l0 k m n t (t.length : Int) (i : Int)) b
  | 0, i, n => fun hd => by
    refine ⟨decide (n > m), Ev.step (f := fun _ => some (decide (n > m))) (fun k => ?_) (Ev.now _)⟩
    simp only [tachographlaw12_Great.l0]
    rw [if_neg (by omega)]
  | d + 1, i, n => fun hd => by
    obtain ⟨_, _, h1, h2⟩ := ht i (by omega)
    by_cases hg : (wrap64 (n + (((rd_T56 t (i : Int)).f1).length : Int))) > m
    · refine ⟨true, Ev.step (f := fun _ => some true) (fun k => ?_) (Ev.now _)⟩
      simp only [tachographlaw12_Great.l0]
      rw [if_pos (by omega), if_pos (by omega), if_pos (by omega), if_pos hg]
    · obtain ⟨b, hb⟩ := great1 m t i (by omega) (rd_T56 t (i : Int)).f1 h1 h2 (fun n => great0 m t ht hm d (i + 1) n (by omega)) _ 0 (wrap64 (n + (((rd_T56 t (i : Int)).f1).length : Int))) rfl
      refine ⟨b, Ev.step (f := fun k => tachographlaw12_Great.l1 k m (wrap64 (n + (((rd_T56 t (i : Int)).f1).length : Int))) t (t.length : Int) (i : Int) ((rd_T56 t (i : Int)).f1) (((rd_T56 t (i : Int)).f1).length : Int) 0) (fun k => ?_) hb⟩
      simp only [tachographlaw12_Great.l0]
      rw [if_pos (by omega), if_pos (by omega), if_pos (by omega), if_neg hg]
theorem tgreat_ev (m : Int) (t : List Pnt) (ht : Fits t) (hm : t.length < 9223372036854775807) : ∃ b, Ev (fun k => tachographlaw12_Great.f k t m) b := great0 m t ht hm t.length 0 _ (by omega)
end Go.Proofs.Ytmmfakdncjeoeaa.MPts
