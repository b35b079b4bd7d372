/- Plain laws on lex (layer 21): tokens and places. -/
import Derived.Test.YtjfklfmfeghjnacMQuote
import Derived.Lib.LastIndexByte
import Derived.Test.YtjfklfmfeghjnacPLx3
import Derived.Test.YtjfklfmfeghjnacPLx4
import Derived.Test.YtjfklfmfeghjnacPLx7
import Derived.Test.YtjfklfmfeghjnacPLx8
set_option linter.unusedVariables false
namespace Go.Proofs.Ytjfklfmfeghjnac.MLex
open Go.RowKit Go.Proofs.Ytjfklfmfeghjnac.PL Go.Proofs.Ytjfklfmfeghjnac.MBase Go.Proofs.Ytjfklfmfeghjnac.MQuote Go.Proofs.YtjfklfmfeghjnacW.PrintWords Go.Proofs.YtjfklfmfeghjnacW.PrintLast Go.Proofs.YtjfklfmfeghjnacW.PrintMore

/-! ### bytes -/
def dig (c : Int) : Bool := decide (48 ≤ c) && decide (c ≤ 57)
def lett (c : Int) : Bool := ((decide (65 ≤ c) && decide (c ≤ 90)) || (decide (97 ≤ c) && decide (c ≤ 122)) || decide (c = 95)) || dig c
def sgn (c : Int) : Int := if c = 64 then 1 else if c = 40 then 2 else if c = 41 then 3 else if c = 44 then 4 else 0
theorem ldig_eq (c : Int) : lex_digit.f c = some (dig c) := by
 unfold lex_digit.f dig
 by_cases h : c ≥ 48
 ·rw [if_pos h]
  have h' : 48 ≤ c := h
  simp [h']
 ·rw [if_neg h]
  have h' : ¬ 48 ≤ c := h
  simp [h']
theorem llett_eq (c : Int) : lex_letter.f c = some (lett c) := by
 unfold lex_letter.f lett
 simp only [ldig_eq, Option.bind_some, ge_iff_le]
 by_cases a1 : 65 ≤ c <;> by_cases a2 : c ≤ 90 <;> by_cases a3 : 97 ≤ c <;> by_cases a4 : c ≤ 122 <;> by_cases a5 : c = 95 <;> simp [a1, a2, a3, a4, a5]
def cnt (p : Int → Bool) (l : List Int) : Nat := (l.takeWhile p).length
theorem cnt_cons (p : Int → Bool) (c : Int) (r : List Int) : cnt p (c :: r) = if p c = true then cnt p r + 1 else 0 := by
 unfold cnt
 rw [List.takeWhile_cons]
 split <;> simp
theorem cnt_le (p : Int → Bool) : ∀ l, cnt p l ≤ l.length
 | [] => by simp [cnt]
 | c :: r => by
  have := cnt_le p r
  rw [cnt_cons, List.length_cons]
  split <;> omega
theorem many_from (is : Int → Option Bool) (p : Int → Bool) (his : ∀ c, is c = some (p c)) (s : ByteArray) (hs : s.size ≤ 10000000000) : ∀ n i, n + i = s.size → Ev (fun k => lex_many.l0 is k s (i : Int)) ((i + cnt p ((bytesOf s).drop i) : Nat) : Int)
 | 0, i => fun hn => by
  have hl := bytesOf_length s
  rw [List.drop_eq_nil_iff.2 (by omega)]
  refine Ev.step (f := fun _ => some (i : Int)) (fun k => ?_) (Ev.now _)
  simp only [lex_many.l0]
  rw [if_neg (by omega)]
 | n + 1, i => fun hn => by
  have ih := many_from is p his s hs n (i + 1) (by omega)
  rw [bt_drop s i (by omega), cnt_cons]
  refine Ev.step (f := fun k => if p (bt s (i : Int)) = true then lex_many.l0 is k s ((i + 1 : Nat) : Int) else some (i : Int)) (fun k => ?_) ?_
  ·simp only [lex_many.l0]
   rw [if_pos (by omega), if_pos (by omega), his, w64 (by omega) (by omega)]
   rfl
  ·by_cases hp : p (bt s (i : Int)) = true
   ·simp only [if_pos hp]
    have e : i + (cnt p ((bytesOf s).drop (i + 1)) + 1) = i + 1 + cnt p ((bytesOf s).drop (i + 1)) := by omega
    rw [e]
    exact ih
   ·simp only [if_neg hp]
    exact Ev.now _
theorem many_ev (is : Int → Option Bool) (p : Int → Bool) (his : ∀ c, is c = some (p c)) (s : ByteArray) (hs : s.size ≤ 10000000000) : Ev (fun k => lex_many.l0 is k s 0) ((cnt p (bytesOf s) : Nat) : Int) := by
 have h := many_from is p his s hs s.size 0 (by omega)
 rw [List.drop_zero, Nat.zero_add] at h
 exact h

/-! ### places -/
def adv (p : Int × Int) (l : List Int) : Int × Int := l.foldl (fun p c => if c = 10 then (p.1 + 1, 1) else (p.1, p.2 + 1)) p
theorem adv_nil (p) : adv p [] = p := rfl
theorem adv_cons (p : Int × Int) (c : Int) (l : List Int) : adv p (c :: l) = adv (if c = 10 then (p.1 + 1, 1) else (p.1, p.2 + 1)) l := rfl
theorem adv_append (p : Int × Int) (l m : List Int) : adv p (l ++ m) = adv (adv p l) m := List.foldl_append ..
theorem adv_no : ∀ (l : List Int) (p : Int × Int), (10 : Int) ∉ l → adv p l = (p.1, p.2 + (l.length : Int))
 | [], p => fun _ => by simp [adv_nil]
 | c :: l, p => fun h => by
  have hc : ¬ c = 10 := fun e => h (by rw [e]; exact List.mem_cons_self)
  rw [adv_cons, if_neg hc, adv_no l _ (fun h' => h (List.mem_cons_of_mem _ h'))]
  simp only [List.length_cons, Prod.mk.injEq, true_and]
  omega
theorem adv_fst : ∀ (l : List Int) (p : Int × Int), (adv p l).1 = p.1 + (l.count 10 : Nat)
 | [], p => by simp [adv_nil]
 | c :: l, p => by
  rw [adv_cons, adv_fst l, List.count_cons]
  by_cases h : c = 10
  ·rw [if_pos h, h]
   simp
   omega
  ·rw [if_neg h]
   simp [h]
theorem adv_bound : ∀ (l : List Int) (p : Int × Int), 1 ≤ p.1 → 1 ≤ p.2 → 1 ≤ (adv p l).1 ∧ 1 ≤ (adv p l).2 ∧ (adv p l).1 ≤ p.1 + (l.length : Int) ∧ (adv p l).2 ≤ p.2 + (l.length : Int)
 | [], p => fun h1 h2 => by simp only [adv_nil, List.length_nil]; omega
 | c :: l, p => fun h1 h2 => by
  rw [adv_cons]
  by_cases h : c = 10
  ·rw [if_pos h]
   have := adv_bound l (p.1 + 1, 1) (by dsimp only; omega) (by dsimp only; omega)
   dsimp only at this
   rw [List.length_cons]
   omega
  ·rw [if_neg h]
   have := adv_bound l (p.1, p.2 + 1) h1 (by dsimp only; omega)
   dsimp only at this
   rw [List.length_cons]
   omega
theorem bytesOf_getElem (s : ByteArray) (j : Nat) (hj : j < s.size) : ((s.data[j]!).toNat : Int) = (bytesOf s)[j]'(by rw [bytesOf_length]; exact hj) := by
 have h : j < s.data.size := hj
 simp [bytesOf, getElem!_pos s.data j h]
theorem count_bytes (s : ByteArray) : Lib.countByte s.data.toList 10 = (bytesOf s).count 10 := by
 unfold Lib.countByte bytesOf
 generalize s.data.toList = l
 induction l with
 | nil => rfl
 | cons u l ih =>
  rw [List.map_cons, List.count_cons, List.count_cons, ih]
  congr 1
  by_cases h : u = 10
  ·rw [h]; rfl
  ·have h' : ¬ ((u.toNat : Int) = 10) := fun e => h (by
    apply UInt8.toNat_inj.1
    show u.toNat = 10
    omega)
   simp [h, h']
theorem on_eq (p : Int × Int) (s : ByteArray) (hs : s.size ≤ 10000000000) (h1 : 1 ≤ p.1) (h2 : 1 ≤ p.2) (h3 : p.1 ≤ 100000000000) (h4 : p.2 ≤ 100000000000) : lex_on.f p.1 p.2 s = some ((adv p (bytesOf s)).1, (adv p (bytesOf s)).2) := by
 have hl := bytesOf_length s
 have hcl : (bytesOf s).count 10 ≤ (bytesOf s).length := List.count_le_length
 have hc : strings_Count.f s ⟨#[10]⟩ = some (((bytesOf s).count 10 : Nat) : Int) := by
  show some ((Lib.countByte s.data.toList 10 : Nat) : Int) = _
  rw [count_bytes]
 unfold lex_on.f
 rw [hc]
 simp only [Option.bind_some]
 by_cases h0 : (bytesOf s).count 10 = 0
 ·have hn : (10 : Int) ∉ bytesOf s := List.count_eq_zero.1 h0
  rw [if_neg (by omega), adv_no _ _ hn, w64 (by omega) (by omega), hl]
 ·rw [if_pos (by omega)]
  unfold strings_LastIndexByte.f
  rw [if_pos (by omega)]
  simp only [Option.bind_some]
  rcases Lib.lastIndexByte_spec s 10 with ⟨e, hno⟩ | ⟨i, hi, e, hc, hno⟩
  ·exfalso
   apply h0
   rw [List.count_eq_zero]
   intro hm
   obtain ⟨j, hj, hj'⟩ := List.mem_iff_getElem.1 hm
   exact hno j (by omega) (by rw [bytesOf_getElem s j (by omega)]; exact hj')
  ·rw [e, w64 (by omega) (by omega), if_pos (by omega), if_pos (by omega), w64 (by omega) (by omega)]
   have hsp : bytesOf s = (bytesOf s).take i ++ 10 :: (bytesOf s).drop (i + 1) := by
    have h10 : (bytesOf s)[i]'(by omega) = 10 := by rw [← bytesOf_getElem s i hi]; exact hc
    conv => lhs; rw [← List.take_append_drop i (bytesOf s)]
    rw [List.drop_eq_getElem_cons (by omega), h10]
   have hnd : (10 : Int) ∉ (bytesOf s).drop (i + 1) := by
    intro hm
    obtain ⟨j, hj, hj'⟩ := List.mem_iff_getElem.1 hm
    rw [List.length_drop] at hj
    rw [List.getElem_drop] at hj'
    exact hno (i + 1 + j) (by omega) (by omega) (by rw [bytesOf_getElem s _ (by omega)]; exact hj')
   have hf := adv_fst (bytesOf s) p
   have hs2 : (adv p (bytesOf s)).2 = 1 + ((s.size - (i + 1) : Nat) : Int) := by
    rw [hsp, adv_append, adv_cons, if_pos rfl, adv_no _ _ hnd, List.length_drop, hl]
   have hz : ((s.extract (((i : Int) + 1)).toNat s.size).size : Int) = ((s.size - (i + 1) : Nat) : Int) := by
    rw [ByteArray.size_extract]
    omega
   rw [hf, hs2, hz, w64 (by omega) (by omega)]
theorem end_eq (s : ByteArray) (hs : s.size ≤ 10000000000) : lex_End.f s = some ((adv (1, 1) (bytesOf s)).1, (adv (1, 1) (bytesOf s)).2) := by
 unfold lex_End.f
 have h := on_eq (1, 1) s hs (by omega) (by omega) (by omega) (by omega)
 rw [show lex_on.f 1 1 s = lex_on.f ((1 : Int), (1 : Int)).1 ((1 : Int), (1 : Int)).2 s from rfl, h]
 rfl
abbrev SG : ByteArray := ⟨#[64, 40, 41, 44]⟩
/-! ### one token that is no quote: its kind, how many bytes -/
def tok : List Int → Int × Nat
 | [] => (0, 0)
 | c :: r => if sgn c > 0 then (sgn c, 1) else if (lett c && !dig c) = true then (5, cnt lett (c :: r)) else if c = 45 then (if cnt dig r > 0 then (6, cnt dig r + 1) else (0, 0)) else if cnt dig (c :: r) > 0 then (6, cnt dig (c :: r)) else (0, 0)
theorem tok_le : ∀ l, (tok l).2 ≤ l.length
 | [] => by simp [tok]
 | c :: r => by
  have h1 := cnt_le lett (c :: r)
  have h2 := cnt_le dig (c :: r)
  have h3 := cnt_le dig r
  simp only [tok]
  by_cases a1 : sgn c > 0
  ·rw [if_pos a1]; simp
  ·rw [if_neg a1]
   by_cases a2 : (lett c && !dig c) = true
   ·rw [if_pos a2]; exact h1
   ·rw [if_neg a2]
    by_cases a3 : c = 45
    ·rw [if_pos a3]
     by_cases a4 : cnt dig r > 0
     ·rw [if_pos a4, List.length_cons]; dsimp only; omega
     ·rw [if_neg a4]; simp
    ·rw [if_neg a3]
     by_cases a4 : cnt dig (c :: r) > 0
     ·rw [if_pos a4]; exact h2
     ·rw [if_neg a4]; simp
/-! ### the program's tokens -/
theorem cut_bytes (s : ByteArray) (c : Int) (r : List Int) (h : bytesOf s = c :: r) : ∃ t, strings_CutPrefix.f s ⟨#[45]⟩ = some (t, decide (c = 45)) ∧ bytesOf t = if c = 45 then r else c :: r := by
 refine ⟨⟨(Lib.trimPrefix s.data.toList [45]).toArray⟩, ?_, ?_⟩
 ·show some (_, Lib.hasPrefix s.data.toList [45]) = _
  congr 2
  unfold bytesOf at h
  cases hd : s.data.toList with
  | nil => rw [hd] at h; cases h
  | cons u l =>
   rw [hd, List.map_cons] at h
   obtain ⟨h1, h2⟩ := List.cons.inj h
   simp only [Lib.hasPrefix, List.isPrefixOf, Bool.and_true]
   by_cases hu : u = 45
   ·have : c = 45 := by rw [← h1, hu]; rfl
    simp [hu, this]
   ·have : ¬ c = 45 := fun e => hu (by
     apply UInt8.toNat_inj.1
     show u.toNat = 45
     omega)
    have hu' : ¬ 45 = u := fun e => hu e.symm
    simp [hu', this]
 ·unfold bytesOf at h ⊢
  cases hd : s.data.toList with
  | nil => rw [hd] at h; cases h
  | cons u l =>
   rw [hd, List.map_cons] at h
   obtain ⟨h1, h2⟩ := List.cons.inj h
   by_cases hu : u = 45
   ·have hc : c = 45 := by rw [← h1, hu]; rfl
    rw [if_pos hc, ← h2, hu]
    simp [Lib.trimPrefix, Lib.hasPrefix, List.isPrefixOf]
   ·have hc : ¬ c = 45 := fun e => hu (by
     apply UInt8.toNat_inj.1
     show u.toNat = 45
     omega)
    have hu' : ¬ 45 = u := fun e => hu e.symm
    rw [if_neg hc, ← h1, ← h2]
    simp [Lib.trimPrefix, Lib.hasPrefix, List.isPrefixOf, hu']
def szs (l : List Int) (c : Int) (r : List Int) (i : Nat) : Nat := if i = 0 then 0 else if i = 1 then (if c = 64 then 1 else 0) else if i = 2 then (if c = 40 then 1 else 0) else if i = 3 then (if c = 41 then 1 else 0) else if i = 4 then (if c = 44 then 1 else 0)
 else if i = 5 then (if dig c = true then 0 else cnt lett (c :: r)) else (if c = 45 then (if cnt dig r = 0 then 0 else cnt dig r + 1) else cnt dig (c :: r))
theorem size_ev (s : ByteArray) (hs : s.size ≤ 10000000000) (c : Int) (r : List Int) (h : bytesOf s = c :: r) (i : Nat) (hi : i < 7) : Ev (fun k => lex_shapes_1.f k 0 (i : Int) s) ((szs (c :: r) c r i : Int), 0) := by
 have hl := bytesOf_length s
 rw [h, List.length_cons] at hl
 obtain ⟨hp, hb0⟩ := bt_cons h
 have hS : ∀ x : Int, Ev (fun k => (lex_many.l0 (fun y => some (decide (y = x))) k (s.extract 0 (min 1 s.size)) 0).bind fun t => some (t, (0 : Int))) (((if c = x then 1 else 0 : Nat) : Int), 0) := by
  intro x
  have h1 := many_ev (fun y => some (decide (y = x))) (fun y => decide (y = x)) (fun _ => rfl) (s.extract 0 (min 1 s.size)) (by rw [ByteArray.size_extract]; omega)
  have h2 : bytesOf (s.extract 0 (min 1 s.size)) = [c] := by
   rw [bytesOf_extract, h, List.drop_zero, show min 1 s.size = 1 by omega]
   rfl
  rw [h2, cnt_cons] at h1
  refine Ev.bind h1 ?_
  by_cases hx : c = x
  ·simp only [hx, decide_true, if_true]
   exact Ev.now _
  ·simp only [hx, decide_false, Bool.false_eq_true, if_false]
   exact Ev.now _
 obtain rfl | rfl | rfl | rfl | rfl | rfl | rfl : i = 0 ∨ i = 1 ∨ i = 2 ∨ i = 3 ∨ i = 4 ∨ i = 5 ∨ i = 6 := by omega
 ·exact Ev.now _
 ·exact hS 64
 ·exact hS 40
 ·exact hS 41
 ·exact hS 44
 ·show Ev (fun k => (lex_word.f k s).bind fun t => some (t, (0 : Int))) (((if dig c = true then 0 else cnt lett (c :: r) : Nat) : Int), 0)
  refine Ev.bind (a := ((if dig c = true then 0 else cnt lett (c :: r) : Nat) : Int)) ?_ (Ev.now _)
  unfold lex_word.f
  by_cases hd : dig c = true
  ·refine Ev.congr (f := fun _ => some 0) (fun k => ?_) (by rw [if_pos hd]; exact Ev.now _)
   rw [if_neg (cons_toList s h), if_pos (by omega), hb0, ldig_eq, hd]
   rfl
  ·have hm := many_ev lex_letter.f lett llett_eq s hs
   rw [h] at hm
   refine Ev.congr (f := fun k => (lex_many.l0 lex_letter.f k s 0).bind fun t => some t) (fun k => ?_) (by rw [if_neg hd]; exact Ev.bind hm (Ev.now _))
   rw [if_neg (cons_toList s h), if_pos (by omega), hb0, ldig_eq]
   simp only [Option.bind_some]
   rw [if_neg hd]
   rfl
 ·show Ev (fun k => (lex_number.f k s).bind fun t => some (t, (0 : Int))) (((if c = 45 then (if cnt dig r = 0 then 0 else cnt dig r + 1) else cnt dig (c :: r) : Nat) : Int), 0)
  refine Ev.bind (a := ((if c = 45 then (if cnt dig r = 0 then 0 else cnt dig r + 1) else cnt dig (c :: r) : Nat) : Int)) ?_ (Ev.now _)
  obtain ⟨t, ht1, ht2⟩ := cut_bytes s c r h
  have htl := bytesOf_length t
  have hle := cnt_le dig (bytesOf t)
  have hm := many_ev lex_digit.f dig ldig_eq t (by
   rw [← htl, ht2]
   split
   ·omega
   ·rw [List.length_cons]; omega)
  unfold lex_number.f
  refine Ev.congr (f := fun k => (lex_many.l0 lex_digit.f k t 0).bind fun t116 => (if t116 = 0 then (some 0) else (some (wrap64 ((wrap64 ((s.size : Int) - (t.size : Int))) + t116))))) (fun k => ?_) (Ev.bind hm ?_)
  ·rw [ht1]
   rfl
  ·rw [htl] at hle
   by_cases h45 : c = 45
   ·rw [if_pos h45] at ht2
    rw [if_pos h45]
    rw [ht2] at htl hle ⊢
    by_cases hz : cnt dig r = 0
    ·rw [if_pos (by omega), if_pos hz]
     exact Ev.now _
    ·rw [if_neg (by omega), if_neg hz, w64 (x := (s.size : Int) - (t.size : Int)) (by omega) (by omega), w64 (by omega) (by omega), show (s.size : Int) - (t.size : Int) + ((cnt dig r : Nat) : Int) = ((cnt dig r + 1 : Nat) : Int) by omega]
     exact Ev.now _
   ·rw [if_neg h45] at ht2
    rw [if_neg h45]
    rw [ht2] at htl hle ⊢
    rw [List.length_cons] at htl
    by_cases hz : cnt dig (c :: r) = 0
    ·rw [if_pos (by omega), hz]
     exact Ev.now _
    ·rw [if_neg (by omega), w64 (x := (s.size : Int) - (t.size : Int)) (by omega) (by omega), w64 (by omega) (by omega), show (s.size : Int) - (t.size : Int) + ((cnt dig (c :: r) : Nat) : Int) = ((cnt dig (c :: r) : Nat) : Int) by omega]
     exact Ev.now _
theorem szs_le (c : Int) (r : List Int) (i : Nat) : szs (c :: r) c r i ≤ r.length + 1 := by
 have h1 := cnt_le lett (c :: r)
 have h2 := cnt_le dig (c :: r)
 have h3 := cnt_le dig r
 rw [List.length_cons] at h1 h2
 unfold szs
 repeat' split
 all_goals omega
theorem szs_tok (c : Int) (r : List Int) (h0 : 0 ≤ c) :
  (∃ i, i < 7 ∧ (∀ j, j < i → szs (c :: r) c r j = 0) ∧ szs (c :: r) c r i > 0 ∧ tok (c :: r) = ((i : Int), szs (c :: r) c r i)) ∨ ((∀ j, j < 7 → szs (c :: r) c r j = 0) ∧ (tok (c :: r)).2 = 0) := by
 have j7 : ∀ {j n : Nat}, j < n → n ≤ 7 → j = 0 ∨ j = 1 ∨ j = 2 ∨ j = 3 ∨ j = 4 ∨ j = 5 ∨ j = 6 := fun h h' => by omega
 by_cases a1 : c = 64
 ·subst a1
  exact .inl ⟨1, by omega, fun j hj => by
   obtain rfl : j = 0 := by omega
   rfl, by show (1 : Nat) > 0; omega, rfl⟩
 by_cases a2 : c = 40
 ·subst a2
  exact .inl ⟨2, by omega, fun j hj => by
   obtain rfl | rfl : j = 0 ∨ j = 1 := by omega
   all_goals rfl, by show (1 : Nat) > 0; omega, rfl⟩
 by_cases a3 : c = 41
 ·subst a3
  exact .inl ⟨3, by omega, fun j hj => by
   obtain rfl | rfl | rfl : j = 0 ∨ j = 1 ∨ j = 2 := by omega
   all_goals rfl, by show (1 : Nat) > 0; omega, rfl⟩
 by_cases a4 : c = 44
 ·subst a4
  exact .inl ⟨4, by omega, fun j hj => by
   obtain rfl | rfl | rfl | rfl : j = 0 ∨ j = 1 ∨ j = 2 ∨ j = 3 := by omega
   all_goals rfl, by show (1 : Nat) > 0; omega, rfl⟩
 have hs : sgn c = 0 := by unfold sgn; rw [if_neg a1, if_neg a2, if_neg a3, if_neg a4]
 have z4 : ∀ j, j < 5 → szs (c :: r) c r j = 0 := fun j hj => by
  obtain rfl | rfl | rfl | rfl | rfl : j = 0 ∨ j = 1 ∨ j = 2 ∨ j = 3 ∨ j = 4 := by omega
  ·rfl
  ·show (if c = 64 then 1 else 0) = 0; rw [if_neg a1]
  ·show (if c = 40 then 1 else 0) = 0; rw [if_neg a2]
  ·show (if c = 41 then 1 else 0) = 0; rw [if_neg a3]
  ·show (if c = 44 then 1 else 0) = 0; rw [if_neg a4]
 have s5 : szs (c :: r) c r 5 = if dig c = true then 0 else cnt lett (c :: r) := rfl
 have s6 : szs (c :: r) c r 6 = if c = 45 then (if cnt dig r = 0 then 0 else cnt dig r + 1) else cnt dig (c :: r) := rfl
 have hns : ¬ (0 : Int) > 0 := by omega
 by_cases hw : (lett c && !dig c) = true
 ·obtain ⟨hw1, hw2⟩ := Bool.and_eq_true_iff.1 hw
  have hw3 : dig c = false := by simpa using hw2
  have e5 : szs (c :: r) c r 5 = cnt lett (c :: r) := by rw [s5, hw3]; rfl
  refine .inl ⟨5, by omega, z4, ?_, ?_⟩
  ·rw [e5, cnt_cons, if_pos hw1]; omega
  ·rw [e5]
   simp only [tok, hs, if_neg hns, hw, if_true]
   rfl
 ·have hw' : (lett c && !dig c) = false := by simpa using hw
  have e5 : szs (c :: r) c r 5 = 0 := by
   rw [s5]
   by_cases hd : dig c = true
   ·rw [if_pos hd]
   ·rw [if_neg hd, cnt_cons]
    rw [Bool.not_eq_true] at hd
    rw [hd] at hw'
    have : lett c = false := by simpa using hw'
    rw [this]
    rfl
  have z5 : ∀ j, j < 6 → szs (c :: r) c r j = 0 := fun j hj => by
   rcases Nat.lt_succ_iff_lt_or_eq.1 hj with h | rfl
   ·exact z4 j h
   ·exact e5
  have ht : tok (c :: r) = if c = 45 then (if cnt dig r > 0 then (6, cnt dig r + 1) else (0, 0)) else if cnt dig (c :: r) > 0 then (6, cnt dig (c :: r)) else (0, 0) := by
   simp only [tok, hs, if_neg hns, hw', Bool.false_eq_true, if_false]
  by_cases h6 : szs (c :: r) c r 6 = 0
  ·refine .inr ⟨fun j hj => ?_, ?_⟩
   ·rcases Nat.lt_succ_iff_lt_or_eq.1 hj with h | rfl
    ·exact z5 j h
    ·exact h6
   ·rw [ht]
    rw [s6] at h6
    by_cases h45 : c = 45
    ·rw [if_pos h45] at h6 ⊢
     by_cases hz : cnt dig r = 0
     ·rw [if_neg (by omega)]
     ·rw [if_neg hz] at h6; omega
    ·rw [if_neg h45] at h6 ⊢
     rw [if_neg (by omega)]
  ·refine .inl ⟨6, by omega, z5, by omega, ?_⟩
   rw [ht, s6]
   rw [s6] at h6
   by_cases h45 : c = 45
   ·rw [if_pos h45] at h6 ⊢
    rw [if_pos h45]
    by_cases hz : cnt dig r = 0
    ·rw [if_pos hz] at h6; exact absurd rfl h6
    ·rw [if_pos (by omega), if_neg hz]
     rfl
   ·rw [if_neg h45] at h6 ⊢
    rw [if_neg h45, if_pos (by omega)]
    rfl
/-- What a token is: its kind, its text, how many bytes, the error. -/
def stp (s : ByteArray) : Int × ByteArray × Int × Int := match bytesOf s with
 | [] => (0, ByteArray.empty, 0, 4)
 | c :: r => if c = 34 then (7, (qval (qget s)).1, (qget s).2.1, (qget s).2.2) else if (tok (c :: r)).2 > 0 then ((tok (c :: r)).1, s.extract 0 (tok (c :: r)).2, ((tok (c :: r)).2 : Int), 0) else (0, ⟨#[]⟩, 0, 4)
theorem first_ev (s : ByteArray) (hs : s.size ≤ 10000000000) (c : Int) (r : List Int) (h : bytesOf s = c :: r) : Ev (fun k => lex_first.f k 0 s) ((stp s).1, (stp s).2.1, 0, 0, (stp s).2.2.1, (stp s).2.2.2, 0) := by
 obtain ⟨hp, hb0⟩ := bt_cons h
 have hl := bytesOf_length s
 rw [h, List.length_cons] at hl
 have hby := byt_bytesOf s c (by rw [h]; exact List.mem_cons_self)
 unfold lex_first.f stp
 rw [h]
 by_cases h34 : c = 34
 ·simp only [if_pos h34]
  refine Ev.congr (f := fun k => (quote_Get.f k s).bind fun b => some (7, b.1, 0, 0, b.2.1, b.2.2, 0)) (fun k => by rw [if_pos (by omega), if_pos (by omega)]) ?_
  exact Ev.bind (get_ev s hs).1 (Ev.now _)
 ·simp only [if_neg h34]
  refine Ev.congr (f := fun k => lex_first.l0 k s ((0 : Nat) : Int) 0) (fun k => by rw [if_pos (by omega), if_neg (by omega)]; rfl) ?_
  have stepz : ∀ (i : Nat) (v), i < 7 → szs (c :: r) c r i = 0 → Ev (fun k => lex_first.l0 k s ((i + 1 : Nat) : Int) 0) v → Ev (fun k => lex_first.l0 k s (i : Int) 0) v := by
   intro i v hi hz hv
   refine Ev.step (f := fun k => (lex_shapes_1.f k 0 (i : Int) s).bind fun bt137 => (if bt137.1 > 0 then (if 0 ≤ bt137.1 then (if bt137.1 ≤ (s.size : Int) then (some ((i : Int), s.extract 0 (bt137.1 : Int).toNat, 0, 0, bt137.1, 0, bt137.2)) else (none)) else (none)) else (lex_first.l0 k s ((i + 1 : Nat) : Int) bt137.2))) (fun k => ?_) (Ev.bind (size_ev s hs c r h i hi) ?_)
   ·simp only [lex_first.l0]
    rw [if_pos (by omega), w64 (by omega) (by omega)]
    rfl
   ·simp only [hz]
    exact hv
  have steps : ∀ (n i : Nat) (v), (∀ j, j < n + i → szs (c :: r) c r j = 0) → n + i ≤ 7 → Ev (fun k => lex_first.l0 k s ((n + i : Nat) : Int) 0) v → Ev (fun k => lex_first.l0 k s (i : Int) 0) v := by
   intro n
   induction n with
   | zero => intro i v _ _ hv; rw [Nat.zero_add] at hv; exact hv
   | succ n ih =>
    intro i v hz hn hv
    refine stepz i v (by omega) (hz i (by omega)) (ih (i + 1) v (fun j hj => hz j (by omega)) (by omega) ?_)
    rw [show n + (i + 1) = n + 1 + i by omega]
    exact hv
  rcases szs_tok c r hby.1 with ⟨i, hi, hz, hpos, ht⟩ | ⟨hz, ht⟩
  ·have hle := szs_le c r i
   rw [ht]
   simp only [if_pos hpos]
   refine steps i 0 _ (fun j hj => hz j (by omega)) (by omega) ?_
   refine Ev.step (f := fun k => (lex_shapes_1.f k 0 (i : Int) s).bind fun bt137 => (if bt137.1 > 0 then (if 0 ≤ bt137.1 then (if bt137.1 ≤ (s.size : Int) then (some ((i : Int), s.extract 0 (bt137.1 : Int).toNat, 0, 0, bt137.1, 0, bt137.2)) else (none)) else (none)) else (lex_first.l0 k s (wrap64 ((i : Int) + 1)) bt137.2))) (fun k => ?_) (Ev.bind (size_ev s hs c r h i hi) ?_)
   ·simp only [lex_first.l0]
    rw [Nat.add_zero, if_pos (by omega)]
   ·have hc1 : ((szs (c :: r) c r i : Nat) : Int) > 0 := by omega
    have hc2 : 0 ≤ ((szs (c :: r) c r i : Nat) : Int) := by omega
    have hc3 : ((szs (c :: r) c r i : Nat) : Int) ≤ (s.size : Int) := by omega
    simp only [if_pos hc1, if_pos hc2, if_pos hc3, Int.toNat_natCast]
    exact Ev.now _
  ·rw [if_neg (by omega)]
   refine steps 7 0 _ (fun j hj => hz j (by omega)) (by omega) ?_
   refine Ev.step (f := fun _ => some (0, (⟨#[]⟩ : ByteArray), 0, 0, 0, 4, 0)) (fun k => ?_) (Ev.now _)
   simp only [lex_first.l0]
   rw [if_neg (by omega)]

theorem gq_lo : ∀ (n : Nat) (l out : List Int) (a : Int), (gq n l out a).2.2 = 0 → a < (gq n l out a).2.1
 | 0, l, out, a => fun h => by simp [gq] at h
 | n + 1, [], out, a => fun h => by simp [gq] at h
 | n + 1, c :: r, out, a => fun h => by
  simp only [gq] at h ⊢
  by_cases hq : c = 34
  ·simp only [if_pos hq] at h ⊢
   by_cases h2 : out.length > 200
   ·rw [if_pos h2] at h; cases h
   ·rw [if_neg h2]; dsimp only; omega
  ·simp only [if_neg hq] at h ⊢
   by_cases hz : (nx (c :: r)).2.2 = 0
   ·rw [if_pos hz] at h ⊢
    have := gq_lo n _ _ _ h
    have := (nx_fits c r hz).1
    omega
   ·rw [if_neg hz] at h
    exact absurd h hz
theorem stp_fits (s : ByteArray) (h : (stp s).2.2.2 = 0) : 1 ≤ (stp s).2.2.1 ∧ (stp s).2.2.1 ≤ (s.size : Int) := by
 have hl := bytesOf_length s
 have hq := qget_fits s
 unfold stp at h ⊢
 cases hb : bytesOf s with
 | nil => rw [hb] at h; simp at h
 | cons c r =>
  rw [hb] at h hl
  have ht := tok_le (c :: r)
  by_cases h34 : c = 34
  ·simp only [if_pos h34] at h ⊢
   refine ⟨?_, hq.2.2 h⟩
   unfold qget at h ⊢
   rw [hb] at h ⊢
   simp only [if_pos h34] at h ⊢
   have := gq_lo _ _ _ _ h
   omega
  ·simp only [if_neg h34] at h ⊢
   by_cases hp : (tok (c :: r)).2 > 0
   ·rw [if_pos hp]
    dsimp only
    omega
   ·rw [if_neg hp] at h
    simp at h

/-! ### all tokens -/
abbrev T := Int × ByteArray × Int × Int
def ws (c : Int) : Bool := decide (c = 32) || decide (c = 9) || decide (c = 10) || decide (c = 13)
def run : Nat → ByteArray → Int × Int → List T → List T × Int × Int × Int
 | 0, _, p, _ => ([], 9, p.1, p.2)
 | n + 1, s, p, out => if s.size = 0 then (out, 0, 0, 0) else if ws (bt s 0) = true then run n (s.extract 1 s.size) (adv p [bt s 0]) out
  else if (stp s).2.2.2 = 0 then run n (s.extract (stp s).2.2.1.toNat s.size) (adv p ((bytesOf s).take (stp s).2.2.1.toNat)) (out ++ [((stp s).1, (stp s).2.1, p.1, p.2)])
  else ([], (stp s).2.2.2, p.1, p.2)
def mkA (t : T) : S46 := ⟨t.1, t.2.1, ⟨t.2.2.1, t.2.2.2⟩⟩
def mkB (t : T) : S47 := ⟨t.1, t.2.1, ⟨t.2.2.1, t.2.2.2⟩⟩
set_option maxRecDepth 100000 in
theorem ws_eq (c : Int) (h0 : 0 ≤ c) (h1 : c < 256) : ∃ t, strings_IndexByte.f ⟨#[32, 9, 10, 13]⟩ c = some t ∧ (decide (t ≥ 0)) = ws c := by
 refine ⟨_, rfl, ?_⟩
 obtain ⟨m, rfl⟩ := Int.eq_ofNat_of_zero_le h0
 have hm : m < 256 := by omega
 have key : ∀ k : Fin 256, decide (Lib.indexByte [32, 9, 10, 13] ((k.1 : Int)).toNat.toUInt8 ≥ 0) = ws (k.1 : Int) := by decide
 exact key ⟨m, hm⟩
theorem cons_of (s : ByteArray) (h : s.size ≠ 0) : ∃ c r, bytesOf s = c :: r ∧ bt s 0 = c := by
 cases hb : bytesOf s with
 | nil => have := bytesOf_length s; rw [hb] at this; exact absurd this.symm h
 | cons c r => exact ⟨c, r, rfl, (bt_cons hb).2⟩
theorem lex_from : ∀ (n : Nat) (s : ByteArray) (p : Int × Int) (out : List T), s.size < n → s.size ≤ 10000000000 → 1 ≤ p.1 → 1 ≤ p.2 → p.1 + (s.size : Int) ≤ 20000000000 → p.2 + (s.size : Int) ≤ 20000000000 → out.length + s.size ≤ 20000000000 →
  Ev (fun k => lex_Lex.l0 k s (out.map mkA) 0 p.1 p.2) ((run n s p out).1.map mkA, (run n s p out).2.1, (run n s p out).2.2.1, (run n s p out).2.2.2)
 | 0, s, p, out => fun h => absurd h (by omega)
 | n + 1, s, p, out => fun hn hs h1 h2 h3 h4 h5 => by
  by_cases hz : s.size = 0
  ·have hb : bytesOf s = [] := List.length_eq_zero_iff.1 (by rw [bytesOf_length]; exact hz)
   simp only [run, if_pos hz]
   refine Ev.step (f := fun _ => some (out.map mkA, 0, 0, 0)) (fun k => ?_) (Ev.now _)
   simp only [lex_Lex.l0]
   rw [if_pos (nil_toList s hb)]
  ·obtain ⟨c, r, hb, hc⟩ := cons_of s hz
   have hl := bytesOf_length s
   rw [hb, List.length_cons] at hl
   have hr := bt_range s 0
   obtain ⟨t, ht, htw⟩ := ws_eq (bt s 0) hr.1 (by omega)
   simp only [run, if_neg hz]
   by_cases hw : ws (bt s 0) = true
   ·rw [if_pos hw]
    have hx : (s.extract 1 s.size).size = s.size - 1 := by rw [ByteArray.size_extract]; omega
    have hbd := adv_bound [bt s 0] p h1 h2
    simp only [List.length_cons, List.length_nil] at hbd
    have h01 : bytesOf (s.extract 0 1) = [bt s 0] := by rw [bytesOf_extract, hb, hc]; rfl
    have ih := lex_from n (s.extract 1 s.size) (adv p [bt s 0]) out (by omega) (by omega) hbd.1 hbd.2.1 (by omega) (by omega) (by omega)
    refine Ev.step (f := fun k => lex_Lex.l0 k (s.extract 1 s.size) (out.map mkA) 0 (adv p [bt s 0]).1 (adv p [bt s 0]).2) (fun k => ?_) ih
    simp only [lex_Lex.l0]
    have hon := on_eq p (s.extract 0 1) (by rw [ByteArray.size_extract]; omega) h1 h2 (by omega) (by omega)
    rw [h01] at hon
    rw [hw] at htw
    rw [if_neg (cons_toList s hb), if_pos (by omega), ht]
    simp only [Option.bind_some]
    rw [if_pos (of_decide_eq_true htw), if_pos (by omega), if_pos (by omega), hon]
    rfl
   ·rw [if_neg hw]
    rw [Bool.not_eq_true] at hw
    rw [hw] at htw
    have hf := first_ev s hs c r hb
    refine Ev.step (f := fun k => (lex_first.f k 0 s).bind fun bt149 => (if bt149.2.2.2.2.2.1 = 0 then (if (out.map mkA).length < 3518437208883 then (if 0 ≤ bt149.2.2.2.2.1 then (if bt149.2.2.2.2.1 ≤ (s.size : Int) then ((lex_on.f p.1 p.2 (s.extract 0 (bt149.2.2.2.2.1 : Int).toNat)).bind fun bt160 => (lex_Lex.l0 k (s.extract (bt149.2.2.2.2.1 : Int).toNat s.size) (out.map mkA ++ [(⟨bt149.1, bt149.2.1, (⟨p.1, p.2⟩ : S36)⟩ : S46)]) bt149.2.2.2.2.2.2 bt160.1 bt160.2)) else (none)) else (none)) else (none)) else (some (([] : List (S46)), bt149.2.2.2.2.2.1, p.1, p.2)))) (fun k => ?_) (Ev.bind hf ?_)
    ·simp only [lex_Lex.l0]
     rw [if_neg (cons_toList s hb), if_pos (by omega), ht]
     simp only [Option.bind_some]
     rw [if_neg (of_decide_eq_false htw)]
    ·dsimp only
     by_cases he : (stp s).2.2.2 = 0
     ·obtain ⟨f1, f2⟩ := stp_fits s he
      obtain ⟨m, hm⟩ : ∃ m : Nat, (stp s).2.2.1 = (m : Int) := ⟨(stp s).2.2.1.toNat, by omega⟩
      have hc1 : (out.map mkA).length < 3518437208883 := by rw [List.length_map]; omega
      have hc2 : 0 ≤ (m : Int) := by omega
      rw [hm] at f1 f2
      simp only [if_pos he, if_pos hc1, hm, if_pos hc2, if_pos f2, Int.toNat_natCast]
      have hx : (s.extract m s.size).size = s.size - m := by rw [ByteArray.size_extract]; omega
      have h0m : bytesOf (s.extract 0 m) = (bytesOf s).take m := by rw [bytesOf_extract, List.drop_zero]
      have hbd := adv_bound ((bytesOf s).take m) p h1 h2
      rw [List.length_take, bytesOf_length] at hbd
      have ih := lex_from n (s.extract m s.size) (adv p ((bytesOf s).take m)) (out ++ [((stp s).1, (stp s).2.1, p.1, p.2)]) (by omega) (by omega) hbd.1 hbd.2.1 (by omega) (by omega) (by rw [List.length_append, List.length_singleton]; omega)
      have hon := on_eq p (s.extract 0 m) (by rw [ByteArray.size_extract]; omega) h1 h2 (by omega) (by omega)
      rw [h0m] at hon
      simp only [hon, Option.bind_some]
      rw [List.map_append] at ih
      exact ih
     ·simp only [if_neg he]
      exact Ev.now _
theorem lex_ev (s : ByteArray) (hs : s.size ≤ 10000000000) : Ev (fun k => lex_Lex.f k s) ((run (s.size + 1) s (1, 1) []).1.map mkA, (run (s.size + 1) s (1, 1) []).2.1, (run (s.size + 1) s (1, 1) []).2.2.1, (run (s.size + 1) s (1, 1) []).2.2.2) := by
 have he := end_eq (⟨#[]⟩ : ByteArray) (by show (0 : Nat) ≤ _; omega)
 have h := lex_from (s.size + 1) s (1, 1) [] (by omega) hs (by omega) (by omega) (by dsimp only; omega) (by dsimp only; omega) (by simp only [List.length_nil]; omega)
 refine Ev.congr (f := fun k => lex_Lex.l0 k s [] 0 1 1) (fun k => ?_) h
 unfold lex_Lex.f
 rw [he]
 rfl
theorem ba_bytes {s t : ByteArray} (h : bytesOf s = bytesOf t) : s = t := by rw [← strOfNums_bytesOf s, h, strOfNums_bytesOf]
end Go.Proofs.Ytjfklfmfeghjnac.MLex
