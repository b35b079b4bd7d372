/- Plain laws on signatures (layer 9): what makes a name, where a name is found, why a signature may not be. -/
import Derived.Test.YtmmfakdncjeoeaaMBase
import Derived.Test.YtmmfakdncjeoeaaMapSet
import Derived.Test.YtmmfakdncjeoeaaPCx1
import Derived.Test.YtmmfakdncjeoeaaPCx2
namespace Go.Proofs.Ytmmfakdncjeoeaa.MSig
open Go.RowKit Go.Proofs.Ytmmfakdncjeoeaa.PC Go.Proofs.Ytmmfakdncjeoeaa.MBase Go.Proofs.YtmmfakdncjeoeaaAid Go.Proofs.YtmmfakdncjeoeaaW.PrintWords Go.Proofs.YtmmfakdncjeoeaaW.PrintLast Go.Proofs.YtmmfakdncjeoeaaW.PrintMore

abbrev Pred := S53
theorem rd_pred (l : List Pred) (i : Nat) : rd_T53 l (i : Int) = l.getD i z53 := by simp [rd_T53]

/-! ### a name -/
def lett (c : Int) : Bool := (decide (65 ≤ c) && decide (c ≤ 90)) || (decide (97 ≤ c) && decide (c ≤ 122)) || decide (c = 95)
def digit (c : Int) : Bool := decide (48 ≤ c) && decide (c ≤ 57)
def letr (c : Int) (first : Bool) : Bool := lett c || (!first && digit c)

theorem letter_ev (c : Int) (b : Bool) : Ev (fun k => sig_letter.f k c b) (letr c b) := by
  refine ⟨3, fun k hk => ?_⟩
  obtain ⟨m, rfl⟩ : ∃ m, k = m + 3 := ⟨k - 3, by omega⟩
  unfold sig_letter.f
  simp only [sig_letter.j0, sig_letter.j1, letr, lett, digit]
  cases b <;> (repeat' split) <;> simp_all <;> omega

def allFrom (s : ByteArray) : Nat → Nat → Bool
  | 0, _ => true
  | n + 1, i => letr (bt s i) (i == 0) && allFrom s n (i + 1)
def nameOk (s : ByteArray) : Bool := allFrom s s.size 0 && decide (1 ≤ s.size) && decide (s.size ≤ 32)

theorem name_from (s : ByteArray) (hs : s.size < 9223372036854775807) : ∀ (n i : Nat), n + i = s.size → Ev (fun k => sig_Name.l0 k s (s.size : Int) (i : Int)) (allFrom s n i && decide (1 ≤ s.size) && decide (s.size ≤ 32))
  | 0, i => fun h => by
    refine Ev.step (f := fun _ => some (allFrom s 0 i && decide (1 ≤ s.size) && decide (s.size ≤ 32))) (fun k => ?_) (Ev.now _)
    simp only [sig_Name.l0, allFrom]
    rw [if_neg (by omega)]
    by_cases h1 : (s.size : Int) ≥ 1
    · rw [if_pos h1]
      have h2 : 1 ≤ s.size := by omega
      simp [h2]
      omega
    · rw [if_neg h1]
      have h2 : ¬ 1 ≤ s.size := by omega
      simp [h2]
  | n + 1, i => fun h => by
    have ih := name_from s hs n (i + 1) (by omega)
    refine Ev.step (f := fun k => (sig_letter.f k (bt s (i : Int)) ((i : Int) == 0)).bind fun t => if t = true then sig_Name.l0 k s (s.size : Int) ((i + 1 : Nat) : Int) else some false) (fun k => ?_) ?_
    · simp only [sig_Name.l0]
      rw [if_pos (by omega), if_pos (by omega), if_pos (by omega), w64 (by omega) (by omega)]
      rfl
    · refine Ev.bind (letter_ev _ _) ?_
      have hb : (((i : Int) == 0) : Bool) = (i == 0) := by
        rw [Bool.eq_iff_iff, beq_iff_eq, beq_iff_eq]
        omega
      rw [hb]
      simp only [allFrom]
      by_cases hl : letr (bt s (i : Int)) (i == 0) = true
      · rw [hl]
        simpa using ih
      · rw [Bool.not_eq_true] at hl
        rw [hl]
        simpa using Ev.now false

theorem name_ev (s : ByteArray) (hs : s.size < 9223372036854775807) : Ev (fun k => sig_Name.f k s) (nameOk s) := by
  unfold sig_Name.f
  exact name_from s hs s.size 0 (by omega)

/-! ### where a name is found -/
abbrev names (l : List Pred) : List ByteArray := l.map (·.f0)

theorem getD_eq (l : List Pred) (i : Nat) (h : i < l.length) : l.getD i z53 = l[i] := by simp [List.getD_eq_getElem?_getD, List.getElem?_eq_getElem h]
theorem names_getD (l : List Pred) (i : Nat) (h : i < l.length) : (names l)[i]? = some (l.getD i z53).f0 := by rw [getD_eq l i h, List.getElem?_map, List.getElem?_eq_getElem h]; rfl

def place (l : List Pred) (nm : ByteArray) : Nat := (names l).idxOf nm
/-! ### why a signature may not be -/
def typeOk (t : Int) : Bool := decide (t = 1) || decide (t = 2)
def chk (l : List Pred) : Nat → Nat → Int
  | 0, _ => 0
  | n + 1, i => if (l.getD i z53).f0 ∈ (names l).take i ∨ nameOk (l.getD i z53).f0 = false then 9 else if (l.getD i z53).f1.length > 8 then 6 else if (l.getD i z53).f1.all typeOk = true then chk l n (i + 1) else 7
def check (l : List Pred) : Int := if l.length > 64 then 6 else chk l l.length 0

def Short (l : List Pred) : Prop := ∀ p ∈ l, p.f0.size < 9223372036854775807

theorem short_at {l : List Pred} (h : Short l) (i : Nat) (hi : i < l.length) : (l.getD i z53).f0.size < 9223372036854775807 := by
  rw [getD_eq l i hi]
  exact h _ (List.getElem_mem hi)

theorem types_from (l x14 : List Pred) (x3 : List ByteArray) (x15 x16 : Int) (a : List Int) (ha : a.length ≤ 8) (v : Int) (hv : Ev (fun k => sig_Check.l0 k x3 x14 x15 (wrap64 (x16 + 1))) v) : ∀ (n j : Nat), n + j = a.length →
    Ev (fun k => sig_Check.l1 k x3 x14 x15 x16 a (a.length : Int) (j : Int)) (if (a.drop j).all typeOk = true then v else 7)
  | 0, j => fun h => by
    have e : a.drop j = [] := List.drop_eq_nil_iff.2 (by omega)
    rw [e, List.all_nil, if_pos rfl]
    refine Ev.step (f := fun k => sig_Check.l0 k x3 x14 x15 (wrap64 (x16 + 1))) (fun k => ?_) hv
    simp only [sig_Check.l1]
    rw [if_neg (by omega)]
  | n + 1, j => fun h => by
    have hj : j < a.length := by omega
    have hr : rd a (j : Int) = a[j] := by simp [rd, List.getD_eq_getElem?_getD, List.getElem?_eq_getElem hj]
    rw [List.drop_eq_getElem_cons hj, List.all_cons]
    have ih := types_from l x14 x3 x15 x16 a ha v hv n (j + 1) (by omega)
    refine Ev.step (f := fun k => if typeOk a[j] = true then sig_Check.l1 k x3 x14 x15 x16 a (a.length : Int) ((j + 1 : Nat) : Int) else some 7) (fun k => ?_) ?_
    · simp only [sig_Check.l1]
      rw [if_pos (by omega), if_pos (by omega), if_pos (by omega), w64 (by omega) (by omega), hr]
      by_cases h1 : a[j] = 1
      · have : typeOk a[j] = true := by simp [typeOk, h1]
        rw [if_pos h1, if_pos this]
        rfl
      · by_cases h2 : a[j] = 2
        · have : typeOk a[j] = true := by simp [typeOk, h2]
          rw [if_neg h1, if_pos h2, if_pos this]
          rfl
        · have : ¬ typeOk a[j] = true := by simp [typeOk, h1, h2]
          rw [if_neg h1, if_neg h2, if_neg this]
    · by_cases h1 : typeOk a[j] = true
      · rw [h1]
        simpa using ih
      · rw [Bool.not_eq_true] at h1
        rw [h1]
        simpa using Ev.now (7 : Int)

theorem check_from (l : List Pred) (hl : l.length ≤ 64) (hs : Short l) : ∀ (n i : Nat), n + i = l.length → Ev (fun k => sig_Check.l0 k ((names l).take i) l (l.length : Int) (i : Int)) (chk l n i)
  | 0, i => fun h => by
    refine Ev.step (f := fun _ => some (chk l 0 i)) (fun k => ?_) (Ev.now _)
    simp only [sig_Check.l0, chk]
    rw [if_neg (by omega)]
  | n + 1, i => fun h => by
    have hi : i < l.length := by omega
    have ih := check_from l hl hs n (i + 1) (by omega)
    have hz := short_at hs i hi
    obtain ⟨p, hp⟩ : ∃ p, l.getD i z53 = p := ⟨_, rfl⟩
    rw [hp] at hz
    have htake : (names l).take (i + 1) = (names l).take i ++ [p.f0] := by rw [List.take_add_one, names_getD l i hi, hp]; rfl
    have hlen : ((names l).take i).length < 8796093022208 := by rw [List.length_take]; omega
    have hnine : Ev (fun k => sig_Check.j1 k ((names l).take i) l (l.length : Int) (i : Int) true p.f0 p.f1) 9 :=
      Ev.step (f := fun _ => some 9) (fun k => by simp only [sig_Check.j1, if_true]) (Ev.now _)
    have hgo : Ev (fun k => sig_Check.j1 k ((names l).take i) l (l.length : Int) (i : Int) false p.f0 p.f1) (if p.f1.length > 8 then 6 else if p.f1.all typeOk = true then chk l n (i + 1) else 7) := by
      by_cases h8 : p.f1.length > 8
      · rw [if_pos h8]
        refine Ev.step (f := fun _ => some 6) (fun k => ?_) (Ev.now _)
        simp only [sig_Check.j1, Bool.false_eq_true, if_false]
        rw [if_pos hlen, if_pos (by omega)]
      · rw [if_neg h8]
        have hv : Ev (fun k => sig_Check.l0 k ((names l).take i ++ [p.f0]) l (l.length : Int) (wrap64 ((i : Int) + 1))) (chk l n (i + 1)) := by
          rw [← htake, w64 (by omega) (by omega)]
          exact ih
        have ht := types_from l l ((names l).take i ++ [p.f0]) (l.length : Int) (i : Int) p.f1 (by omega) _ hv p.f1.length 0 (by omega)
        refine Ev.step (f := fun k => sig_Check.l1 k ((names l).take i ++ [p.f0]) l (l.length : Int) (i : Int) p.f1 (p.f1.length : Int) ((0 : Nat) : Int)) (fun k => ?_) ht
        simp only [sig_Check.j1, Bool.false_eq_true, if_false]
        rw [if_pos hlen, if_neg (by omega)]
        rfl
    simp only [chk, hp]
    by_cases hm : p.f0 ∈ (names l).take i
    · rw [if_pos (.inl hm)]
      refine Ev.step (f := fun k => sig_Check.j1 k ((names l).take i) l (l.length : Int) (i : Int) true p.f0 p.f1) (fun k => ?_) hnine
      simp only [sig_Check.l0]
      rw [if_pos (by omega), if_pos (by omega), if_pos (by omega), rd_pred, hp, if_pos (by omega), if_pos hm]
    · refine Ev.step (f := fun k => (sig_Name.f k p.f0).bind fun t => sig_Check.j1 k ((names l).take i) l (l.length : Int) (i : Int) (!t) p.f0 p.f1) (fun k => ?_) ?_
      · simp only [sig_Check.l0]
        rw [if_pos (by omega), if_pos (by omega), if_pos (by omega), rd_pred, hp, if_pos (by omega), if_neg hm]
      · refine Ev.bind (name_ev p.f0 hz) ?_
        cases hb : nameOk p.f0 with
        | true =>
          rw [if_neg (by simp [hm])]
          exact hgo
        | false =>
          rw [if_pos (.inr rfl)]
          exact hnine

theorem check_ev (l : List Pred) (hs : Short l) : Ev (fun k => sig_Check.f k l) (check l) := by
  unfold sig_Check.f check
  by_cases h : l.length > 64
  · rw [if_pos h]
    exact Ev.congr (f := fun _ => some 6) (fun k => by rw [if_pos (by omega)]) (Ev.now _)
  · rw [if_neg h]
    refine Ev.congr (f := fun k => sig_Check.l0 k ((names l).take 0) l (l.length : Int) ((0 : Nat) : Int)) (fun k => ?_) (check_from l (by omega) hs l.length 0 (by omega))
    rw [if_neg (by omega)]
    rfl

def Good (l : List Pred) (j : Nat) : Prop := (l.getD j z53).f0 ∉ (names l).take j ∧ nameOk (l.getD j z53).f0 = true ∧ (l.getD j z53).f1.length ≤ 8 ∧ (l.getD j z53).f1.all typeOk = true

theorem chk_good (l : List Pred) : ∀ (n i : Nat), n + i = l.length → (chk l n i = 0 ↔ ∀ j, i ≤ j → j < l.length → Good l j)
  | 0, i => fun h => ⟨fun _ j h1 h2 => absurd h2 (by omega), fun _ => rfl⟩
  | n + 1, i => fun h => by
    have ih := chk_good l n (i + 1) (by omega)
    have hi : i < l.length := by omega
    simp only [chk]
    constructor
    · intro h0 j h1 h2
      by_cases ha : (l.getD i z53).f0 ∈ (names l).take i ∨ nameOk (l.getD i z53).f0 = false
      · rw [if_pos ha] at h0
        exact absurd h0 (by decide)
      · rw [if_neg ha] at h0
        by_cases hb : (l.getD i z53).f1.length > 8
        · rw [if_pos hb] at h0
          exact absurd h0 (by decide)
        · rw [if_neg hb] at h0
          by_cases hc : (l.getD i z53).f1.all typeOk = true
          · rw [if_pos hc] at h0
            rcases Nat.lt_or_ge i j with hj | hj
            · exact ih.1 h0 j (by omega) h2
            · obtain rfl : i = j := by omega
              refine ⟨fun hm => ha (.inl hm), ?_, by omega, hc⟩
              cases hn : nameOk (l.getD i z53).f0 with
              | true => rfl
              | false => exact absurd (.inr hn) ha
          · rw [if_neg hc] at h0
            exact absurd h0 (by decide)
    · intro hg
      obtain ⟨g1, g2, g3, g4⟩ := hg i (Nat.le_refl _) hi
      rw [if_neg (by intro hh; rcases hh with hh | hh; exact g1 hh; rw [g2] at hh; cases hh), if_neg (by omega), if_pos g4]
      exact ih.2 (fun j h1 h2 => hg j (by omega) h2)

theorem check_zero (l : List Pred) : check l = 0 ↔ l.length ≤ 64 ∧ ∀ j, j < l.length → Good l j := by
  unfold check
  by_cases h : l.length > 64
  · rw [if_pos h]
    exact ⟨fun h' => absurd h' (by decide), fun h' => by omega⟩
  · rw [if_neg h, chk_good l l.length 0 (by omega)]
    exact ⟨fun h' => ⟨by omega, fun j hj => h' j (Nat.zero_le _) hj⟩, fun h' j _ hj => h'.2 j hj⟩

/-! ### more than is gone through -/
def great (l : List Pred) : Bool := l.any (fun p => decide (p.f1.length > 30) || decide (p.f0.size > 100)) || decide (l.length > 100)

theorem great_from (l : List Pred) (hl : l.length < 9223372036854775807) : ∀ (n i : Nat), n + i = l.length → Ev (fun k => tachographlaw09_Great.l0 k l l (l.length : Int) (i : Int)) ((l.drop i).any (fun p => decide (p.f1.length > 30) || decide (p.f0.size > 100)) || decide (l.length > 100))
  | 0, i => fun h => by
    have e : l.drop i = [] := List.drop_eq_nil_iff.2 (by omega)
    rw [e, List.any_nil, Bool.false_or]
    refine Ev.step (f := fun _ => some (decide (l.length > 100))) (fun k => ?_) (Ev.now _)
    simp only [tachographlaw09_Great.l0]
    rw [if_neg (by omega)]
    congr 1
    rw [decide_eq_decide]
    omega
  | n + 1, i => fun h => by
    have hi : i < l.length := by omega
    have ih := great_from l hl n (i + 1) (by omega)
    rw [List.drop_eq_getElem_cons hi, List.any_cons]
    refine Ev.step (f := fun k => if (l[i].f1.length > 30 ∨ l[i].f0.size > 100) then some true else tachographlaw09_Great.l0 k l l (l.length : Int) ((i + 1 : Nat) : Int)) (fun k => ?_) ?_
    · simp only [tachographlaw09_Great.l0]
      rw [if_pos (by omega), if_pos (by omega), if_pos (by omega), w64 (by omega) (by omega), rd_pred, getD_eq l i hi]
      by_cases h1 : l[i].f1.length > 30
      · rw [if_pos (by omega), if_pos (.inl h1)]
      · by_cases h2 : l[i].f0.size > 100
        · rw [if_neg (by omega), if_pos (by omega), if_pos (.inr h2)]
        · rw [if_neg (by omega), if_neg (by omega), if_neg (by omega)]
          rfl
    · by_cases h1 : l[i].f1.length > 30 ∨ l[i].f0.size > 100
      · have : (decide (l[i].f1.length > 30) || decide (l[i].f0.size > 100)) = true := by simpa using h1
        rw [this]
        simp only [if_pos h1]
        exact Ev.now _
      · have : (decide (l[i].f1.length > 30) || decide (l[i].f0.size > 100)) = false := by simpa using h1
        rw [this]
        simp only [if_neg h1]
        exact ih

theorem great_ev (l : List Pred) (hl : l.length < 9223372036854775807) : Ev (fun k => tachographlaw09_Great.f k l) (great l) := great_from l hl l.length 0 (by omega)

end Go.Proofs.Ytmmfakdncjeoeaa.MSig
