/- Plain laws on dictionaries (layer 13): a text more, its place; in the program and in the reference. -/
import Derived.Test.YtjfklfmfeghjnabMBase
import Derived.Test.YtjfklfmfeghjnabDict
import Derived.Test.YtjfklfmfeghjnabPDx1
set_option linter.unusedVariables false
namespace Go.Proofs.Ytjfklfmfeghjnab.MPut
open Go.RowKit Go.Proofs.Ytjfklfmfeghjnab.PD Go.Proofs.Ytjfklfmfeghjnab.MBase Go.Proofs.YtjfklfmfeghjnabAid Go.Proofs.YtjfklfmfeghjnabW.PrintWords Go.Proofs.YtjfklfmfeghjnabW.PrintLast Go.Proofs.YtjfklfmfeghjnabW.PrintMore

theorem at_s (l : List ByteArray) (i : Nat) (h : i < l.length) : rdOf ByteArray.empty l (i : Int) = l[i] := by simp [rdOf, List.getD_eq_getElem?_getD, List.getElem?_eq_getElem h]
/-- A text more. -/
def put {α : Type} [DecidableEq α] (l : List α) (s : α) : List α := if s ∈ l then l else l ++ [s]
def puts {α : Type} [DecidableEq α] (l : List α) (xs : List α) : List α := xs.foldl put l
section
variable {α : Type} [DecidableEq α]
theorem put_nodup {l : List α} (h : l.Nodup) (s : α) : (put l s).Nodup := by
  unfold put
  split
  · exact h
  · rename_i hn
    exact List.nodup_append.2 ⟨h, by simp, fun a ha b hb => by simp only [List.mem_singleton] at hb; subst hb; exact fun e => hn (e ▸ ha)⟩
theorem puts_nodup : ∀ (xs : List α) {l : List α}, l.Nodup → (puts l xs).Nodup
  | [], _, h => h
  | x :: xs, _, h => puts_nodup xs (put_nodup h x)
theorem put_len (l : List α) (s : α) : (put l s).length ≤ l.length + 1 := by unfold put; split <;> simp
theorem puts_len : ∀ (xs l : List α), (puts l xs).length ≤ l.length + xs.length
  | [], l => by simp [puts]
  | x :: xs, l => by
    have h1 := put_len l x
    have h2 := puts_len xs (put l x)
    simp only [puts, List.foldl_cons, List.length_cons] at h2 ⊢
    omega
theorem mem_put {l : List α} {s x : α} : x ∈ put l s ↔ x ∈ l ∨ x = s := by
  unfold put
  split
  · rename_i h
    exact ⟨Or.inl, fun h' => h'.elim id (fun e => e ▸ h)⟩
  · simp
theorem mem_puts {x : α} : ∀ (xs : List α) {l : List α}, x ∈ puts l xs ↔ x ∈ l ∨ x ∈ xs
  | [], l => by simp [puts]
  | y :: xs, l => by
    have := mem_puts (x := x) xs (l := put l y)
    simp only [puts, List.foldl_cons] at this ⊢
    rw [this, mem_put, List.mem_cons, or_assoc]
end
/-! ### the program -/
def putS (s : ByteArray) (x : ByteArray) : ByteArray := if x ∈ ddec s then s else denc (ddec s ++ [x])
theorem ddec_putS (s x : ByteArray) : ddec (putS s x) = put (ddec s) x := by
  unfold putS put
  split
  · rfl
  · exact ddec_enc _
def putsS (s : ByteArray) (xs : List ByteArray) : ByteArray := xs.foldl putS s
theorem ddec_putsS : ∀ (xs : List ByteArray) (s : ByteArray), ddec (putsS s xs) = puts (ddec s) xs
  | [], s => rfl
  | x :: xs, s => by
    show ddec (putsS (putS s x) xs) = puts (put (ddec s) x) xs
    rw [ddec_putsS xs, ddec_putS]
theorem dput_eq (s x : ByteArray) (hx : x.size ≤ 140737488351232) (hl : (ddec s).length < 8796093022208) : ∃ n : Int, dict_Dict_Put.f s x = some (n, putS s x) ∧ n = (if x ∈ ddec s then ((ddec s).idxOf x : Int) else ((ddec s).length : Int)) := by
  unfold dict_Dict_Put.f putS
  rw [if_pos (by omega)]
  by_cases h : x ∈ ddec s
  · exact ⟨_, by rw [if_pos h, if_pos h], by rw [if_pos h]⟩
  · exact ⟨_, by rw [if_neg h, if_pos hl, if_neg h], by rw [if_neg h]⟩
theorem putsS_app (s : ByteArray) (a b : List ByteArray) : putsS s (a ++ b) = putsS (putsS s a) b := List.foldl_append
theorem puts_app {α : Type} [DecidableEq α] (s : List α) (a b : List α) : puts s (a ++ b) = puts (puts s a) b := List.foldl_append
/-! ### the reference -/
theorem toList_eq_iff (s t : ByteArray) : s.toList = t.toList ↔ s = t := ⟨toList_inj, fun h => by rw [h]⟩
theorem idx_ne {α : Type} [BEq α] [LawfulBEq α] {x s : α} (h : ¬ x = s) (r : List α) : (x :: r).idxOf s = r.idxOf s + 1 := by
  rw [List.idxOf_cons, beq_eq_false_iff_ne.2 h]
  rfl
theorem idx_at {α : Type} [BEq α] [LawfulBEq α] : ∀ (m : List α) (j : Nat) (h : j < m.length), m.Nodup → m.idxOf m[j] = j
  | [], j, h, _ => absurd h (by simp)
  | x :: m, 0, _, _ => List.idxOf_cons_self
  | x :: m, j + 1, h, hn => by
    obtain ⟨h1, h2⟩ := List.nodup_cons.1 hn
    have hj : j < m.length := by simpa using h
    have hne : ¬ x = m[j] := fun e => h1 (by rw [e]; exact List.getElem_mem hj)
    show (x :: m).idxOf m[j] = j + 1
    rw [idx_ne hne, idx_at m j hj h2]
theorem place_from (l : List ByteArray) (s : ByteArray) (hl : l.length < 9223372036854775807) : ∀ (d i : Nat), d + i = l.length → Ev (fun k => tachographref13_Place.l0 k l s (i : Int)) (if s ∈ l.drop i then ((i + (l.drop i).idxOf s : Nat) : Int) else -1)
  | 0, i => fun hd => by
    rw [List.drop_eq_nil_of_le (by omega), if_neg (by simp)]
    refine Ev.step (f := fun _ => some (-1)) (fun k => ?_) (Ev.now _)
    simp only [tachographref13_Place.l0]
    rw [if_neg (by omega)]
  | d + 1, i => fun hd => by
    rw [List.drop_eq_getElem_cons (by omega : i < l.length)]
    by_cases h : l[i] = s
    · rw [if_pos (by rw [h]; exact List.mem_cons_self)]
      refine Ev.step (f := fun _ => some (i : Int)) (fun k => ?_) ?_
      · simp only [tachographref13_Place.l0]
        rw [if_pos (by omega), if_pos (by omega), at_s l i (by omega), if_pos (by rw [h])]
      · rw [h, List.idxOf_cons_self]
        exact Ev.now _
    · have ih := place_from l s hl d (i + 1) (by omega)
      refine Ev.step (f := fun k => tachographref13_Place.l0 k l s ((i + 1 : Nat) : Int)) (fun k => ?_) ?_
      · simp only [tachographref13_Place.l0]
        rw [if_pos (by omega), if_pos (by omega), at_s l i (by omega), if_neg (fun e => h (toList_inj e)), w64 (by omega) (by omega)]
        rfl
      · have e : (if s ∈ l[i] :: l.drop (i + 1) then ((i + (l[i] :: l.drop (i + 1)).idxOf s : Nat) : Int) else -1) = (if s ∈ l.drop (i + 1) then ((i + 1 + (l.drop (i + 1)).idxOf s : Nat) : Int) else -1) := by
          rw [idx_ne h _]
          by_cases hm : s ∈ l.drop (i + 1)
          · rw [if_pos (List.mem_cons_of_mem _ hm), if_pos hm]
            congr 1
            omega
          · rw [if_neg (fun h' => (List.mem_cons.1 h').elim (fun e => h e.symm) hm), if_neg hm]
        rw [e]
        exact ih
theorem place_ev (l : List ByteArray) (s : ByteArray) (hl : l.length < 9223372036854775807) : Ev (fun k => tachographref13_Place.f k l s) (if s ∈ l then (l.idxOf s : Int) else -1) := by
  have h := place_from l s hl l.length 0 (by omega)
  simp only [List.drop_zero, Nat.zero_add] at h
  exact h
theorem rput_ev (l : List ByteArray) (s : ByteArray) (hl : l.length < 8796093022208) : Ev (fun k => tachographref13_Put.f k l s) (put l s, if s ∈ l then (l.idxOf s : Int) else (l.length : Int)) := by
  unfold tachographref13_Put.f
  refine Ev.bind (place_ev l s (by omega)) ?_
  by_cases h : s ∈ l
  · simp only [if_pos h, put]
    rw [if_pos (by omega)]
    exact Ev.now _
  · simp only [if_neg h, put]
    rw [if_neg (by omega)]
    simp only [Option.bind_some, List.length_nil, Nat.zero_add, List.nil_append]
    rw [if_pos hl, if_pos hl]
    exact Ev.now _
theorem same_from (a : List ByteArray) (ha : a.length < 9223372036854775807) : ∀ (d i : Nat), d + i = a.length → Ev (fun k => tachographref02_Same.l0 k a a (i : Int)) true
  | 0, i => fun hd => by
    refine Ev.step (f := fun _ => some true) (fun k => ?_) (Ev.now _)
    simp only [tachographref02_Same.l0]
    rw [if_neg (by omega)]
  | d + 1, i => fun hd => by
    refine Ev.step (f := fun k => tachographref02_Same.l0 k a a ((i + 1 : Nat) : Int)) (fun k => ?_) (same_from a ha d (i + 1) (by omega))
    simp only [tachographref02_Same.l0]
    rw [if_pos (by omega), if_pos (by omega), if_pos (by omega), if_pos trivial, w64 (by omega) (by omega)]
    rfl
theorem same_ev (a : List ByteArray) (ha : a.length < 9223372036854775807) : Ev (fun k => tachographref02_Same.f k a a) true := by
  unfold tachographref02_Same.f
  simp only [if_true]
  exact same_from a ha a.length 0 (by omega)
end Go.Proofs.Ytjfklfmfeghjnab.MPut
