/- Plain laws on dictionaries (layer 13): a text more, its place; in the program and in the reference. -/
import Derived.Test.YtjfklfmfeghjnabMBase
import Derived.Test.YtjfklfmfeghjnabDict
import Derived.Test.YtjfklfmfeghjnabPKx3
set_option linter.unusedVariables false
namespace Go.Proofs.Ytjfklfmfeghjnab.MPut
open Go.RowKit Go.Proofs.Ytjfklfmfeghjnab.PK Go.Proofs.Ytjfklfmfeghjnab.MBase Go.Proofs.YtjfklfmfeghjnabAid Go.Proofs.YtjfklfmfeghjnabW.PrintWords Go.Proofs.YtjfklfmfeghjnabW.PrintLast Go.Proofs.YtjfklfmfeghjnabW.PrintMore

theorem at_s (l : List ByteArray) (i : Nat) (h : i < l.length) : rdOf ByteArray.empty l (i : Int) = l[i] := by simp [rdOf, List.getD_eq_getElem?_getD, List.getElem?_eq_getElem h]
/-- A text more. -/
def put {α : Type} [DecidableEq α] (l : List α) (s : α) : List α := if s ∈ l then l else l ++ [s]
def puts {α : Type} [DecidableEq α] (l : List α) (xs : List α) : List α := xs.foldl put l
section
variable {α : Type} [DecidableEq α]
theorem put_nodup {l : List α} (h : l.Nodup) (s : α) : (put l s).Nodup := by
  unfold put
  split
  · exact h
  · rename_i hn
    exact List.nodup_append.2 ⟨h, by simp, fun a ha b hb => by simp only [List.mem_singleton] at hb; subst hb; exact fun e => hn (e ▸ ha)⟩
theorem puts_nodup : ∀ (xs : List α) {l : List α}, l.Nodup → (puts l xs).Nodup
  | [], _, h => h
  | x :: xs, _, h => puts_nodup xs (put_nodup h x)
theorem put_len (l : List α) (s : α) : (put l s).length ≤ l.length + 1 := by unfold put; split <;> simp
theorem puts_len : ∀ (xs l : List α), (puts l xs).length ≤ l.length + xs.length
  | [], l => by simp [puts]
  | x :: xs, l => by
    have h1 := put_len l x
    have h2 := puts_len xs (put l x)
    simp only [puts, List.foldl_cons, List.length_cons] at h2 ⊢
    omega
theorem mem_put {l : List α} {s x : α} : x ∈ put l s ↔ x ∈ l ∨ x = s := by
  unfold put
  split
  · rename_i h
    exact ⟨Or.inl, fun h' => h'.elim id (fun e => e ▸ h)⟩
  · simp
theorem mem_puts {x : α} : ∀ (xs : List α) {l : List α}, x ∈ puts l xs ↔ x ∈ l ∨ x ∈ xs
  | [], l => by simp [puts]
  | y :: xs, l => by
    have := mem_puts (x := x) xs (l := put l y)
    simp only [puts, List.foldl_cons] at this ⊢
    rw [this, mem_put, List.mem_cons, or_assoc]
end
/-! ### the program -/
def putS (s : ByteArray) (x : ByteArray) : ByteArray := if x ∈ ddec s then s else denc (ddec s ++ [x])
theorem ddec_putS (s x : ByteArray) : ddec (putS s x) = put (ddec s) x := by
  unfold putS put
  split
  · rfl
  · exact ddec_enc _
def putsS (s : ByteArray) (xs : List ByteArray) : ByteArray := xs.foldl putS s
theorem ddec_putsS : ∀ (xs : List ByteArray) (s : ByteArray), ddec (putsS s xs) = puts (ddec s) xs
  | [], s => rfl
  | x :: xs, s => by
    show ddec (putsS (putS s x) xs) = puts (put (ddec s) x) xs
    rw [ddec_putsS xs, ddec_putS]
theorem dput_eq (s x : ByteArray) (hx : x.size ≤ 140737488351232) (hl : (ddec s).length < 8796093022208) : ∃ n : Int, dict_Dict_Put.f s x = some (n, putS s x) ∧ n = (if x ∈ ddec s then ((ddec s).idxOf x : Int) else ((ddec s).length : Int)) := by
  unfold dict_Dict_Put.f putS
  rw [if_pos (by omega)]
  by_cases h : x ∈ ddec s
  · exact ⟨_, by rw [if_pos h, if_pos h], by rw [if_pos h]⟩
  · exact ⟨_, by rw [if_neg h, if_pos hl, if_neg h], by rw [if_neg h]⟩
theorem putsS_app (s : ByteArray) (a b : List ByteArray) : putsS s (a ++ b) = putsS (putsS s a) b := List.foldl_append
theorem puts_app {α : Type} [DecidableEq α] (s : List α) (a b : List α) : puts s (a ++ b) = puts (puts s a) b := List.foldl_append
/-! ### the reference -/
theorem toList_eq_iff (s t : ByteArray) : s.toList = t.toList ↔ s = t := ⟨toList_inj, fun h => by rw [h]⟩
theorem idx_ne {α : Type} [BEq α] [LawfulBEq α] {x s : α} (h : ¬ x = s) (r : List α) : (x :: r).idxOf s = r.idxOf s + 1 := by
  rw [List.idxOf_cons, beq_eq_false_iff_ne.2 h]
  rfl
theorem idx_at {α : Type} [BEq α] [LawfulBEq α] : ∀ (m : List α) (j : Nat) (h : j < m.length), m.Nodup → m.idxOf m[j] = j
  | [], j, h, _ => absurd h (by simp)
  | x :: m, 0, _, _ => List.idxOf_cons_self
  | x :: m, j + 1, h, hn => by
    obtain ⟨h1, h2⟩ := List.nodup_cons.1 hn
    have hj : j < m.length := by simpa using h
    have hne : ¬ x = m[j] := fun e => h1 (by rw [e]; exact List.getElem_mem hj)
    show (x :: m).idxOf m[j] = j + 1
    rw [idx_ne hne, idx_at m j hj h2]
end Go.Proofs.Ytjfklfmfeghjnab.MPut
