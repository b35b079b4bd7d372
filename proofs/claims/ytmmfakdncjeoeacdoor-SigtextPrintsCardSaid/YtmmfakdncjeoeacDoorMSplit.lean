/- Plain laws on a text that is cut at a byte: at its first place; at all its places; put together again. -/
import Derived.Lib.SplitLaws
import Derived.Lib.Join
namespace Go.Proofs.YtmmfakdncjeoeacDoor.MSplit
open Go

theorem index_in (c : UInt8) : ∀ (x r : List UInt8), c ∉ x → Lib.index (x ++ c :: r) [c] = (x.length : Int)
  | [], r, _ => by simp [Lib.index, List.isPrefixOf]
  | b :: x, r, h => by
    have hb : c ≠ b := fun e => h (by rw [e]; exact List.mem_cons_self)
    have ih := index_in c x r (fun e => h (List.mem_cons_of_mem _ e))
    have hp : ([c] : List UInt8).isPrefixOf (b :: (x ++ c :: r)) = false := by simp [List.isPrefixOf, hb]
    have hm : ((x.length : Int) == -1) = false := by rw [beq_eq_false_iff_ne]; omega
    rw [List.cons_append, Lib.index, hp, ih, hm]
    simp
theorem index_out (c : UInt8) : ∀ (x : List UInt8), c ∉ x → Lib.index x [c] = -1
  | [], _ => by simp [Lib.index]
  | b :: x, h => by
    have hb : c ≠ b := fun e => h (by rw [e]; exact List.mem_cons_self)
    have ih := index_out c x (fun e => h (List.mem_cons_of_mem _ e))
    have hp : ([c] : List UInt8).isPrefixOf (b :: x) = false := by simp [List.isPrefixOf, hb]
    rw [Lib.index, hp, ih]
    simp
/-- A text has the byte, and then a first one; or it has it not. -/
theorem parts (c : UInt8) : ∀ (s : List UInt8), c ∉ s ∨ ∃ x r, s = x ++ c :: r ∧ c ∉ x
  | [] => .inl (by simp)
  | b :: s => by
    by_cases hb : b = c
    · subst hb
      exact .inr ⟨[], s, rfl, by simp⟩
    · rcases parts c s with h | ⟨x, r, rfl, h⟩
      · exact .inl fun e => by
          rcases List.mem_cons.1 e with e | e
          · exact hb e.symm
          · exact h e
      · exact .inr ⟨b :: x, r, rfl, fun e => by
          rcases List.mem_cons.1 e with e | e
          · exact hb e.symm
          · exact h e⟩
theorem cut_in (c : UInt8) (x r : List UInt8) (h : c ∉ x) : Lib.cut (x ++ c :: r) [c] = (x, r, true) := by
  unfold Lib.cut
  rw [index_in c x r h, if_pos (by omega)]
  simp
theorem cut_out (c : UInt8) (x : List UInt8) (h : c ∉ x) : Lib.cut x [c] = (x, [], false) := by
  unfold Lib.cut
  rw [index_out c x h]
  rfl
theorem split_in (c : UInt8) (x r : List UInt8) (h : c ∉ x) : Lib.split (x ++ c :: r) [c] = x :: Lib.split r [c] := by
  have hi := index_in c x r h
  have hc : Lib.count (x ++ c :: r) [c] = Lib.count r [c] + 1 := by
    rw [Lib.count_hit (by simp) hi, Nat.add_comm]
    simp
  have hm : ((x.length : Int) == -1) = false := by rw [beq_eq_false_iff_ne]; omega
  unfold Lib.split
  rw [hc, Lib.splitK, hi, hm]
  simp
theorem split_out (c : UInt8) (x : List UInt8) (h : c ∉ x) : Lib.split x [c] = [x] := by
  unfold Lib.split
  rw [Lib.count_miss (index_out c x h)]
  rfl
/-- Cut at all places, and put together again: the text; no piece has the byte. -/
theorem join_split (c : UInt8) : ∀ (n : Nat) (s : List UInt8), s.length ≤ n → Lib.join (Lib.split s [c]) [c] = s ∧ Lib.split s [c] ≠ [] ∧ ∀ x ∈ Lib.split s [c], c ∉ x := by
  intro n
  induction n with
  | zero =>
    intro s hs
    obtain rfl : s = [] := List.length_eq_zero_iff.1 (by omega)
    rw [split_out c [] (by simp)]
    exact ⟨Lib.join_one _ _, by simp, by simp⟩
  | succ n ih =>
    intro s hs
    rcases parts c s with h | ⟨x, r, rfl, h⟩
    · rw [split_out c s h]
      exact ⟨Lib.join_one _ _, by simp, by simpa using h⟩
    · rw [split_in c x r h]
      have hl : (x ++ c :: r).length = x.length + (r.length + 1) := by simp
      obtain ⟨h1, h2, h3⟩ := ih r (by omega)
      refine ⟨?_, by simp, fun y hy => ?_⟩
      · cases hr : Lib.split r [c] with
        | nil => exact absurd hr h2
        | cons y ys =>
          rw [hr] at h1
          have e : Lib.join (x :: y :: ys) [c] = x ++ ([c] ++ Lib.join (y :: ys) [c]) := by simp [Lib.join, List.intercalate]
          rw [e, h1]
          rfl
      · rcases List.mem_cons.1 hy with rfl | hy
        · exact h
        · exact h3 y hy
theorem split_join (c : UInt8) : ∀ (l : List (List UInt8)), l ≠ [] → (∀ x ∈ l, c ∉ x) → Lib.split (Lib.join l [c]) [c] = l
  | [], h, _ => absurd rfl h
  | [x], _, h => by rw [Lib.join_one, split_out c x (h x List.mem_cons_self)]
  | x :: y :: l, _, h => by
    have e : Lib.join (x :: y :: l) [c] = x ++ c :: Lib.join (y :: l) [c] := by simp [Lib.join, List.intercalate]
    rw [e, split_in c x _ (h x List.mem_cons_self), split_join c (y :: l) (by simp) (fun z hz => h z (List.mem_cons_of_mem _ hz))]
/-- A piece is no longer than what is put together of it. -/
theorem piece_le : ∀ (l : List (List UInt8)) (sep : List UInt8) (x : List UInt8), x ∈ l → x.length ≤ (Lib.join l sep).length
  | [], _, x, h => by cases h
  | [y], sep, x, h => by
    rw [Lib.join_one]
    rcases List.mem_cons.1 h with rfl | h
    · exact Nat.le_refl _
    · cases h
  | y :: z :: l, sep, x, h => by
    have e : Lib.join (y :: z :: l) sep = y ++ (sep ++ Lib.join (z :: l) sep) := by simp [Lib.join, List.intercalate]
    rw [e, List.length_append, List.length_append]
    rcases List.mem_cons.1 h with rfl | h
    · omega
    · have := piece_le (z :: l) sep x h
      omega
end Go.Proofs.YtmmfakdncjeoeacDoor.MSplit
