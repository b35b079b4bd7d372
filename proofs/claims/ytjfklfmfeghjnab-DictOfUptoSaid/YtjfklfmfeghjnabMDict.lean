/- Plain laws on dictionaries (layer 13): the texts of points, in the program and in the reference. -/
import Derived.Test.YtjfklfmfeghjnabMPts
import Derived.Test.YtjfklfmfeghjnabDict
import Derived.Test.YtjfklfmfeghjnabPDx1
import Derived.Test.YtjfklfmfeghjnabPDx2
set_option linter.unusedVariables false
namespace Go.Proofs.Ytjfklfmfeghjnab.MDict
open Go.RowKit Go.Proofs.Ytjfklfmfeghjnab.PD Go.Proofs.Ytjfklfmfeghjnab.MPts Go.Proofs.Ytjfklfmfeghjnab.MBase Go.Proofs.YtjfklfmfeghjnabAid Go.Proofs.YtjfklfmfeghjnabW.PrintWords Go.Proofs.YtjfklfmfeghjnabW.PrintLast Go.Proofs.YtjfklfmfeghjnabW.PrintMore

/-- A text more. -/
def put {α : Type} [DecidableEq α] (l : List α) (s : α) : List α := if s ∈ l then l else l ++ [s]
def puts {α : Type} [DecidableEq α] (l : List α) (xs : List α) : List α := xs.foldl put l
section
variable {α : Type} [DecidableEq α]
theorem put_nodup {l : List α} (h : l.Nodup) (s : α) : (put l s).Nodup := by
  unfold put
  split
  · exact h
  · rename_i hn
    exact List.nodup_append.2 ⟨h, by simp, fun a ha b hb => by simp only [List.mem_singleton] at hb; subst hb; exact fun e => hn (e ▸ ha)⟩
theorem puts_nodup : ∀ (xs : List α) {l : List α}, l.Nodup → (puts l xs).Nodup
  | [], _, h => h
  | x :: xs, _, h => puts_nodup xs (put_nodup h x)
theorem put_len (l : List α) (s : α) : (put l s).length ≤ l.length + 1 := by unfold put; split <;> simp
theorem puts_len : ∀ (xs l : List α), (puts l xs).length ≤ l.length + xs.length
  | [], l => by simp [puts]
  | x :: xs, l => by
    have h1 := put_len l x
    have h2 := puts_len xs (put l x)
    simp only [puts, List.foldl_cons, List.length_cons] at h2 ⊢
    omega
theorem mem_put {l : List α} {s x : α} : x ∈ put l s ↔ x ∈ l ∨ x = s := by
  unfold put
  split
  · rename_i h
    exact ⟨Or.inl, fun h' => h'.elim id (fun e => e ▸ h)⟩
  · simp
theorem mem_puts {x : α} : ∀ (xs : List α) {l : List α}, x ∈ puts l xs ↔ x ∈ l ∨ x ∈ xs
  | [], l => by simp [puts]
  | y :: xs, l => by
    have := mem_puts (x := x) xs (l := put l y)
    simp only [puts, List.foldl_cons] at this ⊢
    rw [this, mem_put, List.mem_cons, or_assoc]
end
/-- The texts of arguments, of events, of points. -/
def strA (a : Argm) : Option ByteArray := if a.f0 = 2 then some a.f2 else none
def strsE (e : Evt) : List ByteArray := e.f1.filterMap strA
def strsP (p : Pnt) : List ByteArray := p.f1.flatMap strsE
def strs (t : List Pnt) : List ByteArray := t.flatMap strsP

/-! ### the program -/
def putS (s : ByteArray) (x : ByteArray) : ByteArray := if x ∈ ddec s then s else denc (ddec s ++ [x])
theorem ddec_putS (s x : ByteArray) : ddec (putS s x) = put (ddec s) x := by
  unfold putS put
  split
  · rfl
  · exact ddec_enc _
def putsS (s : ByteArray) (xs : List ByteArray) : ByteArray := xs.foldl putS s
theorem ddec_putsS : ∀ (xs : List ByteArray) (s : ByteArray), ddec (putsS s xs) = puts (ddec s) xs
  | [], s => rfl
  | x :: xs, s => by
    show ddec (putsS (putS s x) xs) = puts (put (ddec s) x) xs
    rw [ddec_putsS xs, ddec_putS]
theorem dput_eq (s x : ByteArray) (hx : x.size ≤ 140737488351232) (hl : (ddec s).length < 8796093022208) : ∃ n : Int, dict_Dict_Put.f s x = some (n, putS s x) ∧ n = (if x ∈ ddec s then ((ddec s).idxOf x : Int) else ((ddec s).length : Int)) := by
  unfold dict_Dict_Put.f putS
  rw [if_pos (by omega)]
  by_cases h : x ∈ ddec s
  · exact ⟨_, by rw [if_pos h, if_pos h], by rw [if_pos h]⟩
  · exact ⟨_, by rw [if_neg h, if_pos hl, if_neg h], by rw [if_neg h]⟩
theorem of2 (t : List Pnt) (i : Nat) (es : List Evt) (j : Nat) (hj : j < 9223372036854775806) (xs : List Argm) (hx : xs.length < 8796093022208) (hf : FitsA xs) (v : ByteArray) : ∀ (d q : Nat) (s : ByteArray), d + q = xs.length → (ddec s).length + ((xs.drop q).filterMap strA).length < 8796093022208 →
    Ev (fun k => dict_Of.l1 k t (t.length : Int) (i : Int) es (es.length : Int) ((j + 1 : Nat) : Int) (putsS s ((xs.drop q).filterMap strA))) v → Ev (fun k => dict_Of.l2 k t (t.length : Int) (i : Int) es (es.length : Int) (j : Int) xs (xs.length : Int) (q : Int) s) v
  | 0, q, s => fun hd hl hv => by
    rw [List.drop_eq_nil_of_le (by omega)] at hv
    refine Ev.step (f := fun k => dict_Of.l1 k t (t.length : Int) (i : Int) es (es.length : Int) ((j + 1 : Nat) : Int) s) (fun k => ?_) hv
    simp only [dict_Of.l2]
    rw [if_neg (by omega), w64 (by omega) (by omega)]
    rfl
  | d + 1, q, s => fun hd hl hv => by
    rw [List.drop_eq_getElem_cons (by omega : q < xs.length)] at hl hv
    by_cases h2 : xs[q].f0 = 2
    · have e1 : strA xs[q] = some xs[q].f2 := if_pos h2
      rw [List.filterMap_cons_some e1] at hl hv
      simp only [List.length_cons] at hl
      obtain ⟨n, hp, _⟩ := dput_eq s xs[q].f2 (hf _ (List.getElem_mem _)) (by omega)
      have h3 := put_len (ddec s) xs[q].f2
      have ih := of2 t i es j hj xs hx hf v d (q + 1) (putS s xs[q].f2) (by omega) (by rw [ddec_putS]; omega) hv
      refine Ev.step (f := fun k => dict_Of.l2 k t (t.length : Int) (i : Int) es (es.length : Int) (j : Int) xs (xs.length : Int) ((q + 1 : Nat) : Int) (putS s xs[q].f2)) (fun k => ?_) ih
      simp only [dict_Of.l2]
      rw [if_pos (by omega), if_pos (by omega), if_pos (by omega), at_a xs q (by omega), if_pos h2, hp, Option.bind_some, w64 (x := (q : Int) + 1) (by omega) (by omega)]
      rfl
    · have e1 : strA xs[q] = none := if_neg h2
      rw [List.filterMap_cons_none e1] at hl hv
      have ih := of2 t i es j hj xs hx hf v d (q + 1) s (by omega) hl hv
      refine Ev.step (f := fun k => dict_Of.l2 k t (t.length : Int) (i : Int) es (es.length : Int) (j : Int) xs (xs.length : Int) ((q + 1 : Nat) : Int) s) (fun k => ?_) ih
      simp only [dict_Of.l2]
      rw [if_pos (by omega), if_pos (by omega), if_pos (by omega), at_a xs q (by omega), if_neg h2, w64 (x := (q : Int) + 1) (by omega) (by omega)]
      rfl
theorem putsS_app (s : ByteArray) (a b : List ByteArray) : putsS s (a ++ b) = putsS (putsS s a) b := List.foldl_append
theorem puts_app {α : Type} [DecidableEq α] (s : List α) (a b : List α) : puts s (a ++ b) = puts (puts s a) b := List.foldl_append
theorem of1 (t : List Pnt) (i : Nat) (hi : i < 9223372036854775806) (es : List Evt) (hm : es.length < 8796093022208) (hf : FitsE es) (v : ByteArray) : ∀ (d j : Nat) (s : ByteArray), d + j = es.length → (ddec s).length + ((es.drop j).flatMap strsE).length < 8796093022208 →
    Ev (fun k => dict_Of.l0 k t (t.length : Int) ((i + 1 : Nat) : Int) (putsS s ((es.drop j).flatMap strsE))) v → Ev (fun k => dict_Of.l1 k t (t.length : Int) (i : Int) es (es.length : Int) (j : Int) s) v
  | 0, j, s => fun hd hl hv => by
    rw [List.drop_eq_nil_of_le (by omega)] at hv
    refine Ev.step (f := fun k => dict_Of.l0 k t (t.length : Int) ((i + 1 : Nat) : Int) s) (fun k => ?_) hv
    simp only [dict_Of.l1]
    rw [if_neg (by omega), w64 (by omega) (by omega)]
    rfl
  | d + 1, j, s => fun hd hl hv => by
    rw [List.drop_eq_getElem_cons (by omega : j < es.length), List.flatMap_cons] at hl hv
    rw [putsS_app] at hv
    rw [List.length_append] at hl
    obtain ⟨_, h2, h3⟩ := hf es[j] (List.getElem_mem _)
    have hln := puts_len (strsE es[j]) (ddec s)
    have ih := of1 t i hi es hm hf v d (j + 1) (putsS s (strsE es[j])) (by omega) (by rw [ddec_putsS]; omega) hv
    refine Ev.step (f := fun k => dict_Of.l2 k t (t.length : Int) (i : Int) es (es.length : Int) (j : Int) es[j].f1 (es[j].f1.length : Int) 0 s) (fun k => ?_) (of2 t i es j (by omega) es[j].f1 h2 h3 v _ 0 s rfl (by rw [List.drop_zero]; have : (strsE es[j]).length = (es[j].f1.filterMap strA).length := rfl; omega) ih)
    simp only [dict_Of.l1]
    rw [if_pos (by omega), if_pos (by omega), if_pos (by omega), at_e es j (by omega)]
theorem of0 (t : List Pnt) (ht : FitsT t) : ∀ (d i : Nat) (s : ByteArray), d + i = t.length → (ddec s).length + ((t.drop i).flatMap strsP).length < 8796093022208 → Ev (fun k => dict_Of.l0 k t (t.length : Int) (i : Int) s) (putsS s ((t.drop i).flatMap strsP))
  | 0, i, s => fun hd hl => by
    rw [List.drop_eq_nil_of_le (by omega)]
    refine Ev.step (f := fun _ => some s) (fun k => ?_) (Ev.now _)
    simp only [dict_Of.l0]
    rw [if_neg (by omega)]
  | d + 1, i, s => fun hd hl => by
    rw [List.drop_eq_getElem_cons (by omega : i < t.length), List.flatMap_cons] at hl ⊢
    rw [putsS_app]
    rw [List.length_append] at hl
    obtain ⟨_, h2, h3⟩ := ht.2 t[i] (List.getElem_mem _)
    have hln := puts_len (strsP t[i]) (ddec s)
    have ih := of0 t ht d (i + 1) (putsS s (strsP t[i])) (by omega) (by rw [ddec_putsS]; omega)
    have hlt := ht.1
    refine Ev.step (f := fun k => dict_Of.l1 k t (t.length : Int) (i : Int) t[i].f1 (t[i].f1.length : Int) 0 s) (fun k => ?_) (of1 t i (by omega) t[i].f1 h2 h3 _ _ 0 s rfl (by rw [List.drop_zero]; have : (strsP t[i]).length = (t[i].f1.flatMap strsE).length := rfl; omega) ih)
    simp only [dict_Of.l0]
    rw [if_pos (by omega), if_pos (by omega), if_pos (by omega), at_pt t i (by omega)]
theorem of_ev (t : List Pnt) (ht : FitsT t) (hl : (strs t).length < 8796093022208) : Ev (fun k => dict_Of.f k t) (putsS (denc []) (strs t)) := by
  unfold dict_Of.f
  simp only [dict_New.f, Option.bind_some]
  exact of0 t ht t.length 0 (denc []) (by omega) (by rw [ddec_enc, List.drop_zero]; show 0 + (strs t).length < _; omega)
theorem of_dec (t : List Pnt) : ddec (putsS (denc []) (strs t)) = puts [] (strs t) := by rw [ddec_putsS, ddec_enc]

/-! ### the reference -/
theorem toList_eq_iff (s t : ByteArray) : s.toList = t.toList ↔ s = t := ⟨toList_inj, fun h => by rw [h]⟩
theorem idx_ne {α : Type} [BEq α] [LawfulBEq α] {x s : α} (h : ¬ x = s) (r : List α) : (x :: r).idxOf s = r.idxOf s + 1 := by
  rw [List.idxOf_cons, beq_eq_false_iff_ne.2 h]
  rfl
theorem idx_at {α : Type} [BEq α] [LawfulBEq α] : ∀ (m : List α) (j : Nat) (h : j < m.length), m.Nodup → m.idxOf m[j] = j
  | [], j, h, _ => absurd h (by simp)
  | x :: m, 0, _, _ => List.idxOf_cons_self
  | x :: m, j + 1, h, hn => by
    obtain ⟨h1, h2⟩ := List.nodup_cons.1 hn
    have hj : j < m.length := by simpa using h
    have hne : ¬ x = m[j] := fun e => h1 (by rw [e]; exact List.getElem_mem hj)
    show (x :: m).idxOf m[j] = j + 1
    rw [idx_ne hne, idx_at m j hj h2]
theorem place_from (l : List ByteArray) (s : ByteArray) (hl : l.length < 9223372036854775807) : ∀ (d i : Nat), d + i = l.length → Ev (fun k => tachographref13_Place.l0 k l s (i : Int)) (if s ∈ l.drop i then ((i + (l.drop i).idxOf s : Nat) : Int) else -1)
  | 0, i => fun hd => by
    rw [List.drop_eq_nil_of_le (by omega), if_neg (by simp)]
    refine Ev.step (f := fun _ => some (-1)) (fun k => ?_) (Ev.now _)
    simp only [tachographref13_Place.l0]
    rw [if_neg (by omega)]
  | d + 1, i => fun hd => by
    rw [List.drop_eq_getElem_cons (by omega : i < l.length)]
    by_cases h : l[i] = s
    · rw [if_pos (by rw [h]; exact List.mem_cons_self)]
      refine Ev.step (f := fun _ => some (i : Int)) (fun k => ?_) ?_
      · simp only [tachographref13_Place.l0]
        rw [if_pos (by omega), if_pos (by omega), at_s l i (by omega), if_pos (by rw [h])]
      · rw [h, List.idxOf_cons_self]
        exact Ev.now _
    · have ih := place_from l s hl d (i + 1) (by omega)
      refine Ev.step (f := fun k => tachographref13_Place.l0 k l s ((i + 1 : Nat) : Int)) (fun k => ?_) ?_
      · simp only [tachographref13_Place.l0]
        rw [if_pos (by omega), if_pos (by omega), at_s l i (by omega), if_neg (fun e => h (toList_inj e)), w64 (by omega) (by omega)]
        rfl
      · have e : (if s ∈ l[i] :: l.drop (i + 1) then ((i + (l[i] :: l.drop (i + 1)).idxOf s : Nat) : Int) else -1) = (if s ∈ l.drop (i + 1) then ((i + 1 + (l.drop (i + 1)).idxOf s : Nat) : Int) else -1) := by
          rw [idx_ne h _]
          by_cases hm : s ∈ l.drop (i + 1)
          · rw [if_pos (List.mem_cons_of_mem _ hm), if_pos hm]
            congr 1
            omega
          · rw [if_neg (fun h' => (List.mem_cons.1 h').elim (fun e => h e.symm) hm), if_neg hm]
        rw [e]
        exact ih
theorem place_ev (l : List ByteArray) (s : ByteArray) (hl : l.length < 9223372036854775807) : Ev (fun k => tachographref13_Place.f k l s) (if s ∈ l then (l.idxOf s : Int) else -1) := by
  have h := place_from l s hl l.length 0 (by omega)
  simp only [List.drop_zero, Nat.zero_add] at h
  exact h
theorem rput_ev (l : List ByteArray) (s : ByteArray) (hl : l.length < 8796093022208) : Ev (fun k => tachographref13_Put.f k l s) (put l s, if s ∈ l then (l.idxOf s : Int) else (l.length : Int)) := by
  unfold tachographref13_Put.f
  refine Ev.bind (place_ev l s (by omega)) ?_
  by_cases h : s ∈ l
  · simp only [if_pos h, put]
    rw [if_pos (by omega)]
    exact Ev.now _
  · simp only [if_neg h, put]
    rw [if_neg (by omega)]
    simp only [Option.bind_some, List.length_nil, Nat.zero_add, List.nil_append]
    rw [if_pos hl, if_pos hl]
    exact Ev.now _
theorem rof2 (t : List Pnt) (i j : Nat) (hj : j < 9223372036854775806) (xs : List Argm) (hx : xs.length < 8796093022208) (v : List ByteArray) : ∀ (d q : Nat) (s : List ByteArray), d + q = xs.length → s.length + ((xs.drop q).filterMap strA).length < 8796093022208 →
    Ev (fun k => tachographref13_Of.l1 k t (puts s ((xs.drop q).filterMap strA)) (i : Int) ((j + 1 : Nat) : Int)) v → Ev (fun k => tachographref13_Of.l2 k t s (i : Int) (j : Int) xs (q : Int)) v
  | 0, q, s => fun hd hl hv => by
    rw [List.drop_eq_nil_of_le (by omega)] at hv
    refine Ev.step (f := fun k => tachographref13_Of.l1 k t s (i : Int) ((j + 1 : Nat) : Int)) (fun k => ?_) hv
    simp only [tachographref13_Of.l2]
    rw [if_neg (by omega), w64 (by omega) (by omega)]
    rfl
  | d + 1, q, s => fun hd hl hv => by
    rw [List.drop_eq_getElem_cons (by omega : q < xs.length)] at hl hv
    by_cases h2 : xs[q].f0 = 2
    · have e1 : strA xs[q] = some xs[q].f2 := if_pos h2
      rw [List.filterMap_cons_some e1] at hl hv
      simp only [List.length_cons] at hl
      have h3 := put_len s xs[q].f2
      have ih := rof2 t i j hj xs hx v d (q + 1) (put s xs[q].f2) (by omega) (by omega) hv
      refine Ev.step (f := fun k => (tachographref13_Put.f k s xs[q].f2).bind fun bt => tachographref13_Of.l2 k t bt.1 (i : Int) (j : Int) xs ((q + 1 : Nat) : Int)) (fun k => ?_) (Ev.bind (rput_ev s xs[q].f2 (by omega)) ih)
      simp only [tachographref13_Of.l2]
      rw [if_pos (by omega), if_pos (by omega), at_a xs q (by omega), if_pos h2, w64 (x := (q : Int) + 1) (by omega) (by omega)]
      rfl
    · have e1 : strA xs[q] = none := if_neg h2
      rw [List.filterMap_cons_none e1] at hl hv
      have ih := rof2 t i j hj xs hx v d (q + 1) s (by omega) hl hv
      refine Ev.step (f := fun k => tachographref13_Of.l2 k t s (i : Int) (j : Int) xs ((q + 1 : Nat) : Int)) (fun k => ?_) ih
      simp only [tachographref13_Of.l2]
      rw [if_pos (by omega), if_pos (by omega), at_a xs q (by omega), if_neg h2, w64 (x := (q : Int) + 1) (by omega) (by omega)]
      rfl
theorem rof1 (t : List Pnt) (ht : FitsT t) (i : Nat) (hi : i < t.length) (v : List ByteArray) : ∀ (d j : Nat) (s : List ByteArray), d + j = t[i].f1.length → s.length + ((t[i].f1.drop j).flatMap strsE).length < 8796093022208 →
    Ev (fun k => tachographref13_Of.l0 k t (puts s ((t[i].f1.drop j).flatMap strsE)) ((i + 1 : Nat) : Int)) v → Ev (fun k => tachographref13_Of.l1 k t s (i : Int) (j : Int)) v
  | 0, j, s => fun hd hl hv => by
    rw [List.drop_eq_nil_of_le (by omega)] at hv
    have hlt := ht.1
    refine Ev.step (f := fun k => tachographref13_Of.l0 k t s ((i + 1 : Nat) : Int)) (fun k => ?_) hv
    simp only [tachographref13_Of.l1]
    rw [if_pos (by omega), if_pos (by omega), at_pt t i hi, if_neg (by omega), w64 (by omega) (by omega)]
    rfl
  | d + 1, j, s => fun hd hl hv => by
    rw [List.drop_eq_getElem_cons (by omega : j < t[i].f1.length), List.flatMap_cons] at hl hv
    rw [puts_app] at hv
    rw [List.length_append] at hl
    obtain ⟨_, hm, hf⟩ := ht.2 t[i] (List.getElem_mem _)
    obtain ⟨_, h2, h3⟩ := hf (t[i].f1[j]'(by omega)) (List.getElem_mem _)
    have hln := puts_len (strsE (t[i].f1[j]'(by omega))) s
    have ih := rof1 t ht i hi v d (j + 1) (puts s (strsE (t[i].f1[j]'(by omega)))) (by omega) (by omega) hv
    refine Ev.step (f := fun k => tachographref13_Of.l2 k t s (i : Int) (j : Int) (t[i].f1[j]'(by omega)).f1 0) (fun k => ?_) (rof2 t i j (by omega) (t[i].f1[j]'(by omega)).f1 h2 v _ 0 s rfl (by rw [List.drop_zero]; have : (strsE (t[i].f1[j]'(by omega))).length = ((t[i].f1[j]'(by omega)).f1.filterMap strA).length := rfl; omega) ih)
    simp only [tachographref13_Of.l1]
    rw [if_pos (by omega), if_pos (by omega), at_pt t i hi, if_pos (by omega), if_pos (by omega), at_e _ j (by omega)]
theorem rof0 (t : List Pnt) (ht : FitsT t) : ∀ (d i : Nat) (s : List ByteArray), d + i = t.length → s.length + ((t.drop i).flatMap strsP).length < 8796093022208 → Ev (fun k => tachographref13_Of.l0 k t s (i : Int)) (puts s ((t.drop i).flatMap strsP))
  | 0, i, s => fun hd hl => by
    rw [List.drop_eq_nil_of_le (by omega)]
    refine Ev.step (f := fun _ => some s) (fun k => ?_) (Ev.now _)
    simp only [tachographref13_Of.l0]
    rw [if_neg (by omega)]
  | d + 1, i, s => fun hd hl => by
    rw [List.drop_eq_getElem_cons (by omega : i < t.length), List.flatMap_cons] at hl ⊢
    rw [puts_app]
    rw [List.length_append] at hl
    have hln := puts_len (strsP t[i]) s
    have ih := rof0 t ht d (i + 1) (puts s (strsP t[i])) (by omega) (by omega)
    refine Ev.step (f := fun k => tachographref13_Of.l1 k t s (i : Int) 0) (fun k => ?_) (rof1 t ht i (by omega) _ _ 0 s rfl (by rw [List.drop_zero]; have : (strsP t[i]).length = (t[i].f1.flatMap strsE).length := rfl; omega) ih)
    simp only [tachographref13_Of.l0]
    rw [if_pos (by omega)]
theorem rof_ev (t : List Pnt) (ht : FitsT t) (hl : (strs t).length < 8796093022208) : Ev (fun k => tachographref13_Of.f k t) (puts [] (strs t)) :=
  rof0 t ht t.length 0 [] (by omega) (by rw [List.drop_zero]; show 0 + (strs t).length < _; omega)
end Go.Proofs.Ytjfklfmfeghjnab.MDict
