/- Plain laws on dictionaries (layer 13): the texts of points, in the program and in the reference. -/
import Derived.Test.YtmmfakdncjeoeaaMPts
import Derived.Test.YtmmfakdncjeoeaaMPut
import Derived.Test.YtmmfakdncjeoeaaPCx4
set_option linter.unusedVariables false
namespace Go.Proofs.Ytmmfakdncjeoeaa.MDict
open Go.RowKit Go.Proofs.Ytmmfakdncjeoeaa.PC Go.Proofs.Ytmmfakdncjeoeaa.MPts Go.Proofs.Ytmmfakdncjeoeaa.MPut Go.Proofs.Ytmmfakdncjeoeaa.MBase Go.Proofs.YtmmfakdncjeoeaaAid Go.Proofs.YtmmfakdncjeoeaaW.PrintWords Go.Proofs.YtmmfakdncjeoeaaW.PrintLast Go.Proofs.YtmmfakdncjeoeaaW.PrintMore

def strA (a : Argm) : Option ByteArray := if a.f0 = 2 then some a.f2 else none
def strsE (e : Evt) : List ByteArray := e.f1.filterMap strA
def strsP (p : Pnt) : List ByteArray := p.f1.flatMap strsE
def strs (t : List Pnt) : List ByteArray := t.flatMap strsP

theorem of2 (t : List Pnt) (i : Nat) (es : List Evt) (j : Nat) (hj : j < 9223372036854775806) (xs : List Argm) (hx : xs.length < 8796093022208) (hf : FitsA xs) (v : ByteArray) : ∀ (d q : Nat) (s : ByteArray), d + q = xs.length → (ddec s).length + ((xs.drop q).filterMap strA).length < 8796093022208 →
    Ev (fun k => dict_Of.l1 k t (t.length : Int) (i : Int) es (es.length : Int) ((j + 1 : Nat) : Int) (putsS s ((xs.drop q).filterMap strA))) v → Ev (fun k => dict_Of.l2 k t (t.length : Int) (i : Int) es (es.length : Int) (j : Int) xs (xs.length : Int) (q : Int) s) v
  | 0, q, s => fun hd hl hv => by
    rw [List.drop_eq_nil_of_le (by omega)] at hv
    refine Ev.step (f := fun k => dict_Of.l1 k t (t.length : Int) (i : Int) es (es.length : Int) ((j + 1 : Nat) : Int) s) (fun k => ?_) hv
    simp only [dict_Of.l2]
    rw [if_neg (by omega), w64 (by omega) (by omega)]
    rfl
  | d + 1, q, s => fun hd hl hv => by
    rw [List.drop_eq_getElem_cons (by omega : q < xs.length)] at hl hv
    by_cases h2 : xs[q].f0 = 2
    · have e1 : strA xs[q] = some xs[q].f2 := if_pos h2
      rw [List.filterMap_cons_some e1] at hl hv
      simp only [List.length_cons] at hl
      obtain ⟨n, hp, _⟩ := dput_eq s xs[q].f2 (hf _ (List.getElem_mem _)) (by omega)
      have h3 := put_len (ddec s) xs[q].f2
      have ih := of2 t i es j hj xs hx hf v d (q + 1) (putS s xs[q].f2) (by omega) (by rw [ddec_putS]; omega) hv
      refine Ev.step (f := fun k => dict_Of.l2 k t (t.length : Int) (i : Int) es (es.length : Int) (j : Int) xs (xs.length : Int) ((q + 1 : Nat) : Int) (putS s xs[q].f2)) (fun k => ?_) ih
      simp only [dict_Of.l2]
      rw [if_pos (by omega), if_pos (by omega), if_pos (by omega), at_a xs q (by omega), if_pos h2, hp, Option.bind_some, w64 (x := (q : Int) + 1) (by omega) (by omega)]
      rfl
    · have e1 : strA xs[q] = none := if_neg h2
      rw [List.filterMap_cons_none e1] at hl hv
      have ih := of2 t i es j hj xs hx hf v d (q + 1) s (by omega) hl hv
      refine Ev.step (f := fun k => dict_Of.l2 k t (t.length : Int) (i : Int) es (es.length : Int) (j : Int) xs (xs.length : Int) ((q + 1 : Nat) : Int) s) (fun k => ?_) ih
      simp only [dict_Of.l2]
      rw [if_pos (by omega), if_pos (by omega), if_pos (by omega), at_a xs q (by omega), if_neg h2, w64 (x := (q : Int) + 1) (by omega) (by omega)]
      rfl
theorem of1 (t : List Pnt) (i : Nat) (hi : i < 9223372036854775806) (es : List Evt) (hm : es.length < 8796093022208) (hf : FitsE es) (v : ByteArray) : ∀ (d j : Nat) (s : ByteArray), d + j = es.length → (ddec s).length + ((es.drop j).flatMap strsE).length < 8796093022208 →
    Ev (fun k => dict_Of.l0 k t (t.length : Int) ((i + 1 : Nat) : Int) (putsS s ((es.drop j).flatMap strsE))) v → Ev (fun k => dict_Of.l1 k t (t.length : Int) (i : Int) es (es.length : Int) (j : Int) s) v
  | 0, j, s => fun hd hl hv => by
    rw [List.drop_eq_nil_of_le (by omega)] at hv
    refine Ev.step (f := fun k => dict_Of.l0 k t (t.length : Int) ((i + 1 : Nat) : Int) s) (fun k => ?_) hv
    simp only [dict_Of.l1]
    rw [if_neg (by omega), w64 (by omega) (by omega)]
    rfl
  | d + 1, j, s => fun hd hl hv => by
    rw [List.drop_eq_getElem_cons (by omega : j < es.length), List.flatMap_cons] at hl hv
    rw [putsS_app] at hv
    rw [List.length_append] at hl
    obtain ⟨_, h2, h3⟩ := hf es[j] (List.getElem_mem _)
    have hln := puts_len (strsE es[j]) (ddec s)
    have ih := of1 t i hi es hm hf v d (j + 1) (putsS s (strsE es[j])) (by omega) (by rw [ddec_putsS]; omega) hv
    refine Ev.step (f := fun k => dict_Of.l2 k t (t.length : Int) (i : Int) es (es.length : Int) (j : Int) es[j].f1 (es[j].f1.length : Int) 0 s) (fun k => ?_) (of2 t i es j (by omega) es[j].f1 h2 h3 v _ 0 s rfl (by rw [List.drop_zero]; have : (strsE es[j]).length = (es[j].f1.filterMap strA).length := rfl; omega) ih)
    simp only [dict_Of.l1]
    rw [if_pos (by omega), if_pos (by omega), if_pos (by omega), at_e es j (by omega)]
theorem of0 (t : List Pnt) (ht : FitsT t) : ∀ (d i : Nat) (s : ByteArray), d + i = t.length → (ddec s).length + ((t.drop i).flatMap strsP).length < 8796093022208 → Ev (fun k => dict_Of.l0 k t (t.length : Int) (i : Int) s) (putsS s ((t.drop i).flatMap strsP))
  | 0, i, s => fun hd hl => by
    rw [List.drop_eq_nil_of_le (by omega)]
    refine Ev.step (f := fun _ => some s) (fun k => ?_) (Ev.now _)
    simp only [dict_Of.l0]
    rw [if_neg (by omega)]
  | d + 1, i, s => fun hd hl => by
    rw [List.drop_eq_getElem_cons (by omega : i < t.length), List.flatMap_cons] at hl ⊢
    rw [putsS_app]
    rw [List.length_append] at hl
    obtain ⟨_, h2, h3⟩ := ht.2 t[i] (List.getElem_mem _)
    have hln := puts_len (strsP t[i]) (ddec s)
    have ih := of0 t ht d (i + 1) (putsS s (strsP t[i])) (by omega) (by rw [ddec_putsS]; omega)
    have hlt := ht.1
    refine Ev.step (f := fun k => dict_Of.l1 k t (t.length : Int) (i : Int) t[i].f1 (t[i].f1.length : Int) 0 s) (fun k => ?_) (of1 t i (by omega) t[i].f1 h2 h3 _ _ 0 s rfl (by rw [List.drop_zero]; have : (strsP t[i]).length = (t[i].f1.flatMap strsE).length := rfl; omega) ih)
    simp only [dict_Of.l0]
    rw [if_pos (by omega), if_pos (by omega), if_pos (by omega), at_pt t i (by omega)]
theorem of_ev (t : List Pnt) (ht : FitsT t) (hl : (strs t).length < 8796093022208) : Ev (fun k => dict_Of.f k t) (putsS (denc []) (strs t)) := by
  unfold dict_Of.f
  simp only [dict_New.f, Option.bind_some]
  exact of0 t ht t.length 0 (denc []) (by omega) (by rw [ddec_enc, List.drop_zero]; show 0 + (strs t).length < _; omega)
theorem of_dec (t : List Pnt) : ddec (putsS (denc []) (strs t)) = puts [] (strs t) := by rw [ddec_putsS, ddec_enc]

end Go.Proofs.Ytmmfakdncjeoeaa.MDict
