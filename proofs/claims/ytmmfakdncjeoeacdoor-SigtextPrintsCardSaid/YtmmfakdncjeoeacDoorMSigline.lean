/- Plain laws on a predicate's line (layer 10): what it is, and which lines are one's. -/
import Derived.Test.YtmmfakdncjeoeacDoorMSig
import Derived.Test.YtmmfakdncjeoeacDoorMSplit
set_option linter.unusedVariables false
namespace Go.Proofs.YtmmfakdncjeoeacDoor.MSigline
open Go Go.RowKit Go.Proofs.YtmmfakdncjeoeacDoor.PE Go.Proofs.YtmmfakdncjeoeacDoor.MBase Go.Proofs.YtmmfakdncjeoeacDoor.MSig Go.Proofs.YtmmfakdncjeoeacDoor.MSplit Go.Proofs.YtmmfakdncjeoeacDoorW.PrintWords Go.Proofs.YtmmfakdncjeoeacDoorW.PrintLast Go.Proofs.YtmmfakdncjeoeacDoorW.PrintMore

def wordL (t : Int) : List UInt8 := if t = 1 then [105, 110, 116] else if t = 2 then [115, 116, 114, 105, 110, 103] else []
def argsL (a : List Int) : List UInt8 := Lib.join (a.map wordL) [44]
def lineL (nm : List UInt8) (a : List Int) : List UInt8 := nm ++ 40 :: (argsL a ++ [41])
def typeL (w : List UInt8) : Option Int := if w = [105, 110, 116] then some 1 else if w = [115, 116, 114, 105, 110, 103] then some 2 else none
def typesL : List (List UInt8) → Option (List Int)
  | [] => some []
  | w :: r => match typeL w with
    | none => none
    | some t => (typesL r).map (t :: ·)
def T12 (a : List Int) : Prop := ∀ t ∈ a, t = 1 ∨ t = 2
theorem typeL_back {w : List UInt8} {t : Int} (h : typeL w = some t) : (t = 1 ∨ t = 2) ∧ wordL t = w := by
  unfold typeL at h
  split at h
  · rename_i e
    injection h with h
    subst h
    exact ⟨.inl rfl, e.symm⟩
  · split at h
    · rename_i e
      injection h with h
      subst h
      exact ⟨.inr rfl, e.symm⟩
    · cases h
theorem typeL_word {t : Int} (h : t = 1 ∨ t = 2) : typeL (wordL t) = some t := by
  rcases h with rfl | rfl <;> rfl
theorem typesL_back : ∀ (l : List (List UInt8)) (a : List Int), typesL l = some a → T12 a ∧ a.map wordL = l
  | [], a, h => by
    simp only [typesL, Option.some.injEq] at h
    subst h
    exact ⟨fun t ht => (by cases ht), rfl⟩
  | w :: r, a, h => by
    simp only [typesL] at h
    cases ht : typeL w with
    | none => rw [ht] at h; cases h
    | some t =>
      rw [ht] at h
      simp only at h
      cases hr : typesL r with
      | none => rw [hr] at h; cases h
      | some b =>
        rw [hr] at h
        simp only [Option.map_some, Option.some.injEq] at h
        subst h
        obtain ⟨h1, h2⟩ := typeL_back ht
        obtain ⟨h3, h4⟩ := typesL_back r b hr
        refine ⟨fun x hx => ?_, by rw [List.map_cons, h2, h4]⟩
        rcases List.mem_cons.1 hx with rfl | hx
        · exact h1
        · exact h3 x hx
theorem typesL_words : ∀ (a : List Int), T12 a → typesL (a.map wordL) = some a
  | [], _ => rfl
  | t :: a, h => by
    have ih := typesL_words a (fun x hx => h x (List.mem_cons_of_mem _ hx))
    simp only [List.map_cons, typesL, typeL_word (h t List.mem_cons_self), ih, Option.map_some]
theorem word_no {t : Int} (h : t = 1 ∨ t = 2) : (44 : UInt8) ∉ wordL t ∧ (41 : UInt8) ∉ wordL t ∧ (10 : UInt8) ∉ wordL t ∧ wordL t ≠ [] := by
  rcases h with rfl | rfl <;> decide
theorem argsL_cons (t u : Int) (a : List Int) : argsL (t :: u :: a) = wordL t ++ 44 :: argsL (u :: a) := by simp [argsL, Lib.join, List.intercalate]
theorem argsL_one (t : Int) : argsL [t] = wordL t := Lib.join_one _ _
theorem argsL_nil : argsL [] = [] := rfl
theorem args_nil {a : List Int} (ha : T12 a) : argsL a = [] ↔ a = [] := by
  refine ⟨fun h => ?_, fun h => by rw [h]; rfl⟩
  cases a with
  | nil => rfl
  | cons t a =>
    exfalso
    have := (word_no (ha t List.mem_cons_self)).2.2.2
    cases a with
    | nil => rw [argsL_one] at h; exact this h
    | cons u a => rw [argsL_cons] at h; simp at h
theorem args_no10 : ∀ {a : List Int}, T12 a → (10 : UInt8) ∉ argsL a
  | [], _ => by simp [argsL, Lib.join, List.intercalate]
  | [t], ha => by rw [argsL_one]; exact (word_no (ha t List.mem_cons_self)).2.2.1
  | t :: u :: a, ha => by
    rw [argsL_cons]
    intro h
    rcases List.mem_append.1 h with h | h
    · exact (word_no (ha t List.mem_cons_self)).2.2.1 h
    · rcases List.mem_cons.1 h with h | h
      · cases h
      · exact args_no10 (a := u :: a) (fun x hx => ha x (List.mem_cons_of_mem _ hx)) h
theorem split_args {a : List Int} (ha : T12 a) (hne : a ≠ []) : Lib.split (argsL a) [44] = a.map wordL :=
  split_join 44 (a.map wordL) (by simpa using hne) (fun x hx => by
    obtain ⟨t, ht, rfl⟩ := List.mem_map.1 hx
    exact (word_no (ha t ht)).1)

/-! ### the names -/
theorem all_mem (s : ByteArray) : ∀ (n i : Nat), n + i = s.size → allFrom s n i = true → ∀ c ∈ s.data.toList.drop i, ∃ b, letr (c.toNat : Int) b = true
  | 0, i, hn, _ => by
    intro c hc
    rw [List.drop_eq_nil_of_le (by rw [Array.length_toList]; show s.size ≤ i; omega)] at hc
    cases hc
  | n + 1, i, hn, h => by
    have hi : i < s.data.toList.length := by rw [Array.length_toList]; show i < s.size; omega
    simp only [allFrom, Bool.and_eq_true] at h
    intro c hc
    rw [List.drop_eq_getElem_cons hi] at hc
    rcases List.mem_cons.1 hc with rfl | hc
    · have hb : bt s (i : Int) = ((s.data.toList[i].toNat : Nat) : Int) := by
        unfold bt
        rw [dif_pos (show (i : Int).toNat < s.size by rw [Int.toNat_natCast]; omega)]
        simp only [Int.toNat_natCast]
        rfl
      rw [hb] at h
      exact ⟨_, h.1⟩
    · exact all_mem s n (i + 1) (by omega) h.2 c hc
theorem name_mem {s : ByteArray} (h : nameOk s = true) {c : UInt8} (hc : c ∈ s.data.toList) : c ≠ 40 ∧ c ≠ 41 ∧ c ≠ 44 ∧ c ≠ 10 := by
  unfold nameOk at h
  simp only [Bool.and_eq_true] at h
  obtain ⟨b, hb⟩ := all_mem s s.size 0 rfl h.1.1 c (by simpa using hc)
  refine ⟨?_, ?_, ?_, ?_⟩ <;> rintro rfl <;> revert hb <;> cases b <;> decide
theorem name_pos {s : ByteArray} (h : nameOk s = true) : 1 ≤ s.size ∧ s.size ≤ 32 := by
  unfold nameOk at h
  simp only [Bool.and_eq_true, decide_eq_true_eq] at h
  exact ⟨h.1.2, h.2⟩

/-! ### the line -/
abbrev mkB (l : List UInt8) : ByteArray := ⟨l.toArray⟩
def predL (s : List UInt8) : Option Pred :=
  if (Lib.cut s [40]).2.2 = true ∧ (Lib.cut s [40]).2.1.getLast? = some 41 ∧ nameOk (mkB (Lib.cut s [40]).1) = true then
    (if (Lib.cut s [40]).2.1.dropLast = [] then some ⟨mkB (Lib.cut s [40]).1, []⟩ else (typesL (Lib.split (Lib.cut s [40]).2.1.dropLast [44])).map (fun a => ⟨mkB (Lib.cut s [40]).1, a⟩))
  else none
def LineOf (s : List UInt8) (p : Pred) : Prop := nameOk p.f0 = true ∧ T12 p.f1 ∧ s = lineL p.f0.data.toList p.f1
theorem predL_back {s : List UInt8} {p : Pred} (h : predL s = some p) : LineOf s p := by
  unfold predL at h
  split at h
  · rename_i hc
    obtain ⟨h1, h2, h3⟩ := hc
    have hs : s = (Lib.cut s [40]).1 ++ 40 :: (Lib.cut s [40]).2.1 := by
      rcases parts 40 s with hp | ⟨x, r, rfl, hp⟩
      · rw [cut_out 40 s hp] at h1
        cases h1
      · rw [cut_in 40 x r hp]
    have hr : (Lib.cut s [40]).2.1 = (Lib.cut s [40]).2.1.dropLast ++ [41] := by
      have hne : (Lib.cut s [40]).2.1 ≠ [] := by intro e; rw [e] at h2; cases h2
      rw [List.getLast?_eq_some_getLast hne, Option.some.injEq] at h2
      rw [← h2]
      exact (List.dropLast_concat_getLast hne).symm
    split at h
    · rename_i he
      injection h with h
      subst h
      refine ⟨h3, fun t ht => (by cases ht), ?_⟩
      rw [he] at hr
      rw [hr] at hs
      exact hs
    · rename_i he
      obtain ⟨a, ha, rfl⟩ := Option.map_eq_some_iff.1 h
      obtain ⟨k1, k2⟩ := typesL_back _ _ ha
      refine ⟨h3, k1, ?_⟩
      have hj := (join_split 44 _ (Lib.cut s [40]).2.1.dropLast (Nat.le_refl _)).1
      rw [← k2] at hj
      have : argsL a = (Lib.cut s [40]).2.1.dropLast := hj
      rw [← this] at hr
      rw [hr] at hs
      exact hs
  · cases h
theorem predL_line {s : List UInt8} {p : Pred} (h : LineOf s p) : predL s = some p := by
  obtain ⟨h1, h2, rfl⟩ := h
  have hc : Lib.cut (lineL p.f0.data.toList p.f1) [40] = (p.f0.data.toList, argsL p.f1 ++ [41], true) := cut_in 40 _ _ (fun e => (name_mem h1 e).1 rfl)
  unfold predL
  rw [hc]
  have hd : (argsL p.f1 ++ [41]).dropLast = argsL p.f1 := by simp
  simp only [hd]
  rw [if_pos ⟨trivial, by simp, h1⟩]
  by_cases ha : p.f1 = []
  · rw [if_pos ((args_nil h2).2 ha), ← ha]
  · rw [if_neg (fun e => ha ((args_nil h2).1 e)), split_args h2 ha, typesL_words _ h2]
    rfl
theorem predL_iff (s : List UInt8) (p : Pred) : predL s = some p ↔ LineOf s p := ⟨predL_back, predL_line⟩
theorem line_no10 {s : List UInt8} {p : Pred} (h : LineOf s p) : (10 : UInt8) ∉ s := by
  obtain ⟨h1, h2, rfl⟩ := h
  intro e
  unfold lineL at e
  rcases List.mem_append.1 e with e | e
  · exact (name_mem h1 e).2.2.2 rfl
  · rcases List.mem_cons.1 e with e | e
    · cases e
    · rcases List.mem_append.1 e with e | e
      · exact args_no10 h2 e
      · simp at e
end Go.Proofs.YtmmfakdncjeoeacDoor.MSigline
