/- Plain laws on dictionaries (layer 13): a text more, its place; in the program and in the reference. -/
import Derived.Test.YtmmfakdncjeoeaaMBase
import Derived.Test.YtmmfakdncjeoeaaDict
import Derived.Test.YtmmfakdncjeoeaaPCx3
import Derived.Test.YtmmfakdncjeoeaaPCx4
set_option linter.unusedVariables false
namespace Go.Proofs.Ytmmfakdncjeoeaa.MPut
open Go.RowKit Go.Proofs.Ytmmfakdncjeoeaa.PC Go.Proofs.Ytmmfakdncjeoeaa.MBase Go.Proofs.YtmmfakdncjeoeaaAid Go.Proofs.YtmmfakdncjeoeaaW.PrintWords Go.Proofs.YtmmfakdncjeoeaaW.PrintLast Go.Proofs.YtmmfakdncjeoeaaW.PrintMore

theorem at_s (l : List ByteArray) (i : Nat) (h : i < l.length) : rdOf ByteArray.empty l (i : Int) = l[i] := by simp [rdOf, List.getD_eq_getElem?_getD, List.getElem?_eq_getElem h]
def put {α : Type} [DecidableEq α] (l : List α) (s : α) : List α := if s ∈ l then l else l ++ [s]
def puts {α : Type} [DecidableEq α] (l : List α) (xs : List α) : List α := xs.foldl put l
section
variable {α : Type} [DecidableEq α]
theorem put_len (l : List α) (s : α) : (put l s).length ≤ l.length + 1 := by unfold put; split <;> simp
theorem puts_len : ∀ (xs l : List α), (puts l xs).length ≤ l.length + xs.length
  | [], l => by simp [puts]
  | x :: xs, l => by
    have h1 := put_len l x
    have h2 := puts_len xs (put l x)
    simp only [puts, List.foldl_cons, List.length_cons] at h2 ⊢
    omega
theorem mem_put {l : List α} {s x : α} : x ∈ put l s ↔ x ∈ l ∨ x = s := by
  unfold put
  split
  · rename_i h
    exact ⟨Or.inl, fun h' => h'.elim id (fun e => e ▸ h)⟩
  · simp
theorem mem_puts {x : α} : ∀ (xs : List α) {l : List α}, x ∈ puts l xs ↔ x ∈ l ∨ x ∈ xs
  | [], l => by simp [puts]
  | y :: xs, l => by
    have := mem_puts (x := x) xs (l := put l y)
    simp only [puts, List.foldl_cons] at this ⊢
    rw [this, mem_put, List.mem_cons, or_assoc]
end
/-! ### the program -/
def putS (s : ByteArray) (x : ByteArray) : ByteArray := if x ∈ ddec s then s else denc (ddec s ++ [x])
theorem ddec_putS (s x : ByteArray) : ddec (putS s x) = put (ddec s) x := by
  unfold putS put
  split
  · rfl
  · exact ddec_enc _
def putsS (s : ByteArray) (xs : List ByteArray) : ByteArray := xs.foldl putS s
theorem ddec_putsS : ∀ (xs : List ByteArray) (s : ByteArray), ddec (putsS s xs) = puts (ddec s) xs
  | [], s => rfl
  | x :: xs, s => by
    show ddec (putsS (putS s x) xs) = puts (put (ddec s) x) xs
    rw [ddec_putsS xs, ddec_putS]
theorem dput_eq (s x : ByteArray) (hx : x.size ≤ 140737488351232) (hl : (ddec s).length < 8796093022208) : ∃ n : Int, dict_Dict_Put.f s x = some (n, putS s x) ∧ n = (if x ∈ ddec s then ((ddec s).idxOf x : Int) else ((ddec s).length : Int)) := by
  unfold dict_Dict_Put.f putS
  rw [if_pos (by omega)]
  by_cases h : x ∈ ddec s
  · exact ⟨_, by rw [if_pos h, if_pos h], by rw [if_pos h]⟩
  · exact ⟨_, by rw [if_neg h, if_pos hl, if_neg h], by rw [if_neg h]⟩
theorem putsS_app (s : ByteArray) (a b : List ByteArray) : putsS s (a ++ b) = putsS (putsS s a) b := List.foldl_append
/-! ### the reference -/
end Go.Proofs.Ytmmfakdncjeoeaa.MPut
