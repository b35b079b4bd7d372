/- Plain laws on the numbers of a text (layer 21). -/
import Derived.Test.YtjfklfmfeghjnacDoorMBase
import Derived.Test.YtjfklfmfeghjnacDoorPNx2
import Derived.Test.YtjfklfmfeghjnacDoorPNx6
import Derived.Test.YtjfklfmfeghjnacDoorPNx7
set_option linter.unusedVariables false
namespace Go.Proofs.YtjfklfmfeghjnacDoor.MNum
open Go.RowKit Go.Proofs.YtjfklfmfeghjnacDoor.PN Go.Proofs.YtjfklfmfeghjnacDoor.MBase Go.Proofs.YtjfklfmfeghjnacDoorW.PrintWords Go.Proofs.YtjfklfmfeghjnacDoorW.PrintLast Go.Proofs.YtjfklfmfeghjnacDoorW.PrintMore

def dig (c : Int) : Bool := decide (48 ≤ c) && decide (c ≤ 57)
theorem ldig_eq (c : Int) : lex_digit.f c = some (dig c) := by
  unfold lex_digit.f dig
  by_cases h : c ≥ 48
  · rw [if_pos h]
    have h' : 48 ≤ c := h
    simp [h']
  · rw [if_neg h]
    have h' : ¬ 48 ≤ c := h
    simp [h']
def cnt (p : Int → Bool) (l : List Int) : Nat := (l.takeWhile p).length
theorem cnt_cons (p : Int → Bool) (c : Int) (r : List Int) : cnt p (c :: r) = if p c = true then cnt p r + 1 else 0 := by
  unfold cnt
  rw [List.takeWhile_cons]
  split <;> simp
theorem cnt_le (p : Int → Bool) : ∀ l, cnt p l ≤ l.length
  | [] => by simp [cnt]
  | c :: r => by
    have := cnt_le p r
    rw [cnt_cons, List.length_cons]
    split <;> omega
theorem bt_drop (s : ByteArray) (i : Nat) (h : i < s.size) : (bytesOf s).drop i = bt s (i : Int) :: (bytesOf s).drop (i + 1) := by
  have hl := bytesOf_length s
  rw [List.drop_eq_getElem_cons (by omega)]
  congr 1
  have h1 := rd_bytesOf s i
  rw [← h1]
  simp [rd, List.getD_eq_getElem?_getD, List.getElem?_eq_getElem (show i < (bytesOf s).length by omega)]
theorem bt_cons {s : ByteArray} {c : Int} {r : List Int} (h : bytesOf s = c :: r) : 0 < s.size ∧ bt s 0 = c := by
  have hl := bytesOf_length s
  have h0 : 0 < s.size := by rw [← hl, h]; simp
  refine ⟨h0, ?_⟩
  have := bt_drop s 0 h0
  rw [List.drop_zero, h] at this
  exact (List.cons.inj this).1.symm
theorem nil_toList (s : ByteArray) (h : bytesOf s = []) : s.toList = ([] : List UInt8) := by
  have hl := bytesOf_length s
  rw [h] at hl
  rw [toList_eq]
  exact List.length_eq_zero_iff.1 (by rw [Array.length_toList]; exact hl.symm)
theorem cons_toList (s : ByteArray) {c : Int} {r : List Int} (h : bytesOf s = c :: r) : ¬ s.toList = ([] : List UInt8) := fun h' => by
  rw [toList_eq] at h'
  unfold bytesOf at h
  rw [h'] at h
  cases h
theorem many_from (is : Int → Option Bool) (p : Int → Bool) (his : ∀ c, is c = some (p c)) (s : ByteArray) (hs : s.size ≤ 10000000000) : ∀ n i, n + i = s.size → Ev (fun k => lex_many.l0 is k s (i : Int)) ((i + cnt p ((bytesOf s).drop i) : Nat) : Int)
  | 0, i => fun hn => by
    have hl := bytesOf_length s
    rw [List.drop_eq_nil_iff.2 (by omega)]
    refine Ev.step (f := fun _ => some (i : Int)) (fun k => ?_) (Ev.now _)
    simp only [lex_many.l0]
    rw [if_neg (by omega)]
  | n + 1, i => fun hn => by
    have ih := many_from is p his s hs n (i + 1) (by omega)
    rw [bt_drop s i (by omega), cnt_cons]
    refine Ev.step (f := fun k => if p (bt s (i : Int)) = true then lex_many.l0 is k s ((i + 1 : Nat) : Int) else some (i : Int)) (fun k => ?_) ?_
    · simp only [lex_many.l0]
      rw [if_pos (by omega), if_pos (by omega), his, w64 (by omega) (by omega)]
      rfl
    · by_cases hp : p (bt s (i : Int)) = true
      · simp only [if_pos hp]
        have e : i + (cnt p ((bytesOf s).drop (i + 1)) + 1) = i + 1 + cnt p ((bytesOf s).drop (i + 1)) := by omega
        rw [e]
        exact ih
      · simp only [if_neg hp]
        exact Ev.now _
theorem many_ev (is : Int → Option Bool) (p : Int → Bool) (his : ∀ c, is c = some (p c)) (s : ByteArray) (hs : s.size ≤ 10000000000) : Ev (fun k => lex_many.l0 is k s 0) ((cnt p (bytesOf s) : Nat) : Int) := by
  have h := many_from is p his s hs s.size 0 (by omega)
  rw [List.drop_zero, Nat.zero_add] at h
  exact h
theorem cut_bytes (s : ByteArray) (c : Int) (r : List Int) (h : bytesOf s = c :: r) : ∃ t, strings_CutPrefix.f s ⟨#[45]⟩ = some (t, decide (c = 45)) ∧ bytesOf t = if c = 45 then r else c :: r := by
  refine ⟨⟨(Lib.trimPrefix s.data.toList [45]).toArray⟩, ?_, ?_⟩
  · show some (_, Lib.hasPrefix s.data.toList [45]) = _
    congr 2
    unfold bytesOf at h
    cases hd : s.data.toList with
    | nil => rw [hd] at h; cases h
    | cons u l =>
      rw [hd, List.map_cons] at h
      obtain ⟨h1, h2⟩ := List.cons.inj h
      simp only [Lib.hasPrefix, List.isPrefixOf, Bool.and_true]
      by_cases hu : u = 45
      · have : c = 45 := by rw [← h1, hu]; rfl
        simp [hu, this]
      · have : ¬ c = 45 := fun e => hu (by
          apply UInt8.toNat_inj.1
          show u.toNat = 45
          omega)
        have hu' : ¬ 45 = u := fun e => hu e.symm
        simp [hu', this]
  · unfold bytesOf at h ⊢
    cases hd : s.data.toList with
    | nil => rw [hd] at h; cases h
    | cons u l =>
      rw [hd, List.map_cons] at h
      obtain ⟨h1, h2⟩ := List.cons.inj h
      by_cases hu : u = 45
      · have hc : c = 45 := by rw [← h1, hu]; rfl
        rw [if_pos hc, ← h2, hu]
        simp [Lib.trimPrefix, Lib.hasPrefix, List.isPrefixOf]
      · have hc : ¬ c = 45 := fun e => hu (by
          apply UInt8.toNat_inj.1
          show u.toNat = 45
          omega)
        have hu' : ¬ 45 = u := fun e => hu e.symm
        rw [if_neg hc, ← h1, ← h2]
        simp [Lib.trimPrefix, Lib.hasPrefix, List.isPrefixOf, hu']
theorem is_ev (c : Int) (h0 : 0 ≤ c) (h1 : c < 256) : Ev (fun k => tachographref21_is.f k c true) (dig c) := by
  unfold tachographref21_is.f
  refine Ev.congr (f := fun _ => some (dig c)) (fun k => ?_) (Ev.now _)
  simp only [if_true]
  rw [← ldig_eq]
  rfl
theorem rrun_from (s : ByteArray) (hs : s.size ≤ 10000000000) : ∀ n i, n + i = s.size → Ev (fun k => tachographref21_run.l0 k s (i : Int) true) ((i + cnt dig ((bytesOf s).drop i) : Nat) : Int)
  | 0, i => fun hn => by
    have hl := bytesOf_length s
    rw [List.drop_eq_nil_iff.2 (by omega)]
    refine Ev.step (f := fun _ => some (i : Int)) (fun k => ?_) (Ev.now _)
    simp only [tachographref21_run.l0]
    rw [if_neg (by omega)]
  | n + 1, i => fun hn => by
    have ih := rrun_from s hs n (i + 1) (by omega)
    have hr := bt_range s (i : Int)
    rw [bt_drop s i (by omega), cnt_cons]
    refine Ev.step (f := fun k => (tachographref21_is.f k (bt s (i : Int)) true).bind fun t => if t = true then tachographref21_run.l0 k s ((i + 1 : Nat) : Int) true else some (i : Int)) (fun k => ?_) ?_
    · simp only [tachographref21_run.l0]
      rw [if_pos (by omega), if_pos (by omega), w64 (by omega) (by omega)]
      rfl
    · refine Ev.bind (is_ev _ hr.1 (by omega)) ?_
      by_cases hp : dig (bt s (i : Int)) = true
      · simp only [if_pos hp]
        rw [show i + (cnt dig ((bytesOf s).drop (i + 1)) + 1) = i + 1 + cnt dig ((bytesOf s).drop (i + 1)) by omega]
        exact ih
      · simp only [if_neg hp]
        exact Ev.now _

/-! ### the value of digits -/
def uval : Nat → List Int → Option Nat
  | acc, [] => some acc
  | acc, c :: r => if acc * 10 + (c - 48).toNat ≤ 18446744073709551615 then uval (acc * 10 + (c - 48).toNat) r else none
def pr (o : Option Nat) : Int × Bool := match o with | some n => ((n : Int), true) | none => (0, false)
def uns (l : List Int) : Int × Bool := if l = [] then (0, false) else if cnt dig l = l.length then pr (uval 0 l) else (0, false)
def sgnd (l : List Int) : Int × Bool := match l with
  | [] => (0, false)
  | c :: r => if c = 45 then (if (uns r).2 = true ∧ (uns r).1 ≤ 9223372036854775808 then (-(uns r).1, true) else (0, false)) else (if (uns (c :: r)).2 = true ∧ (uns (c :: r)).1 ≤ 9223372036854775807 then ((uns (c :: r)).1, true) else (0, false))
theorem cnt_all : ∀ l : List Int, cnt dig l = l.length → ∀ c ∈ l, dig c = true
  | [], _, c, h => by cases h
  | a :: l, h, c, hc => by
    rw [cnt_cons, List.length_cons] at h
    have := cnt_le dig l
    by_cases ha : dig a = true
    · rw [if_pos ha] at h
      rcases List.mem_cons.1 hc with rfl | hc
      · exact ha
      · exact cnt_all l (by omega) c hc
    · rw [if_neg ha] at h
      omega
theorem dig_lo {c : Int} (h : dig c = true) : 48 ≤ c ∧ c ≤ 57 := by
  unfold dig at h
  simpa using h
theorem uval_lt : ∀ (l : List Int) (acc n : Nat), acc ≤ 18446744073709551615 → uval acc l = some n → n ≤ 18446744073709551615
  | [], acc, n, ha, h => by simp only [uval] at h; injection h with h; omega
  | c :: r, acc, n, ha, h => by
    simp only [uval] at h
    split at h
    · exact uval_lt r _ n (by assumption) h
    · cases h
def ends (o : Option Nat) : Lib.NumEnd Nat := match o with | some n => .ok n | none => .range
theorem parse_from : ∀ (l : List UInt8) (acc : Nat), (∀ c ∈ l.map (fun u => (u.toNat : Int)), dig c = true) → Lib.parseUintM (2 ^ 64 - 1) acc l = ends (uval acc (l.map fun u => (u.toNat : Int)))
  | [], acc, _ => rfl
  | c :: r, acc, h => by
    have hc := dig_lo (h (c.toNat : Int) (by simp))
    have ih := parse_from r (acc * 10 + (c.toNat - 48)) (fun d hd => h d (by simp only [List.map_cons]; exact List.mem_cons_of_mem _ hd))
    simp only [Lib.parseUintM, List.map_cons, uval]
    rw [if_pos (by omega)]
    have e : ((c.toNat : Int) - 48).toNat = c.toNat - 48 := by omega
    rw [e]
    by_cases h1 : acc * 10 + (c.toNat - 48) ≤ 18446744073709551615
    · rw [if_neg (by omega), if_neg (by omega), if_pos h1]
      exact ih
    · rw [if_neg h1]
      split
      · rfl
      · rw [if_pos (by omega)]
        rfl
theorem bytes_map (s : ByteArray) : bytesOf s = s.data.toList.map fun u => (u.toNat : Int) := rfl
theorem parse_ev (l : List UInt8) (hl : l ≠ []) (h : cnt dig (l.map fun u => (u.toNat : Int)) = (l.map fun u => (u.toNat : Int)).length) : Lib.parseUintB 64 l = ends (uval 0 (l.map fun u => (u.toNat : Int))) := by
  unfold Lib.parseUintB
  rw [if_neg hl]
  exact parse_from l 0 (cnt_all _ h)

theorem uns_ok (l : List Int) (hl : l ≠ []) (h : cnt dig l = l.length) : uns l = pr (uval 0 l) := by
  unfold uns
  rw [if_neg hl, if_pos h]
theorem uns_no (l : List Int) (h : l ≠ [] → cnt dig l ≠ l.length) : uns l = (0, false) := by
  unfold uns
  by_cases hl : l = []
  · rw [if_pos hl]
  · rw [if_neg hl, if_neg (h hl)]
/-! ### Unsigned -/
theorem unsigned_ev (s : ByteArray) (hs : s.size ≤ 10000000000) : Ev (fun k => lex_Unsigned.f k s) (uns (bytesOf s)) := by
  unfold lex_Unsigned.f
  have hl := bytesOf_length s
  cases hb : bytesOf s with
  | nil => exact Ev.congr (f := fun _ => some (0, false)) (fun k => by rw [if_pos (nil_toList s hb)]) (Ev.now _)
  | cons c r =>
    have hne := cons_toList s hb
    have hbn : bytesOf s ≠ [] := by rw [hb]; simp
    simp only [if_neg hne]
    have m : Ev (fun k => lex_many.f k s 13) ((cnt dig (bytesOf s) : Nat) : Int) := Ev.congr (fun k => by unfold lex_many.f; rw [if_pos rfl]) (many_ev lex_digit.f dig ldig_eq s hs)
    refine Ev.bind m ?_
    rw [← hb]
    by_cases h : cnt dig (bytesOf s) = (bytesOf s).length
    · rw [uns_ok _ hbn h]
      refine Ev.congr (f := fun _ => some (pr (uval 0 (bytesOf s)))) (fun k => ?_) (Ev.now _)
      rw [if_pos (by omega), if_pos (by omega)]
      have p := parse_ev s.data.toList (by rw [← toList_eq]; exact hne) (by rw [← bytes_map]; exact h)
      unfold lex_Unsigned.g
      rw [p, ← bytes_map]
      cases uval 0 (bytesOf s) <;> rfl
    · rw [uns_no _ (fun _ => h)]
      exact Ev.congr (f := fun _ => some (0, false)) (fun k => by rw [if_neg (by omega)]) (Ev.now _)
theorem rval_from (s : ByteArray) (hs : s.size ≤ 10000000000) (hd : ∀ c ∈ bytesOf s, dig c = true) : ∀ (n i acc : Nat), n + i = s.size → acc ≤ 18446744073709551615 → Ev (fun k => tachographref21_Unsigned.l0 k s (acc : Int) (i : Int)) (pr (uval acc ((bytesOf s).drop i)))
  | 0, i, acc => fun hn ha => by
    have hl := bytesOf_length s
    rw [List.drop_eq_nil_iff.2 (by omega)]
    refine Ev.step (f := fun _ => some ((acc : Int), true)) (fun k => ?_) (Ev.now _)
    simp only [tachographref21_Unsigned.l0]
    rw [if_neg (by omega)]
  | n + 1, i, acc => fun hn ha => by
    have hb := bt_drop s i (by omega)
    have hc := dig_lo (hd (bt s (i : Int)) (List.mem_of_mem_drop (i := i) (by rw [hb]; simp)))
    rw [hb]
    simp only [uval]
    by_cases h1 : acc * 10 + (bt s (i : Int) - 48).toNat ≤ 18446744073709551615
    · rw [if_pos h1]
      have ih := rval_from s hs hd n (i + 1) _ (by omega) h1
      refine Ev.step (f := fun k => tachographref21_Unsigned.l0 k s ((acc * 10 + (bt s (i : Int) - 48).toNat : Nat) : Int) ((i + 1 : Nat) : Int)) (fun k => ?_) ih
      simp only [tachographref21_Unsigned.l0]
      rw [if_pos (by omega), if_pos (by omega), if_neg (by omega), w64 (x := (i : Int) + 1) (by omega) (by omega), wu64 (x := 10 * (acc : Int)) (by omega) (by omega), wu64 (by omega) (by omega)]
      congr 1
      omega
    · rw [if_neg h1]
      refine Ev.step (f := fun _ => some (0, false)) (fun k => ?_) (Ev.now _)
      simp only [tachographref21_Unsigned.l0]
      rw [if_pos (by omega), if_pos (by omega), if_pos (by omega)]
theorem runsigned_ev (s : ByteArray) (hs : s.size ≤ 10000000000) : Ev (fun k => tachographref21_Unsigned.f k s) (uns (bytesOf s)) := by
  have jt : Ev (fun k => tachographref21_Unsigned.j0 k s true) (0, false) := Ev.step (f := fun _ => some (0, false)) (fun k => by simp only [tachographref21_Unsigned.j0, if_true]) (Ev.now _)
  unfold tachographref21_Unsigned.f
  have hl := bytesOf_length s
  cases hb : bytesOf s with
  | nil =>
    simp only [if_pos (nil_toList s hb)]
    exact jt
  | cons c r =>
    have hbn : bytesOf s ≠ [] := by rw [hb]; simp
    simp only [if_neg (cons_toList s hb)]
    have m := rrun_from s hs s.size 0 (by omega)
    rw [List.drop_zero, Nat.zero_add] at m
    refine Ev.bind (a := ((cnt dig (bytesOf s) : Nat) : Int)) m ?_
    rw [← hb]
    have hle := cnt_le dig (bytesOf s)
    by_cases h : cnt dig (bytesOf s) = (bytesOf s).length
    · rw [uns_ok _ hbn h, decide_eq_false (by omega)]
      have v := rval_from s hs (cnt_all _ h) s.size 0 0 (by omega) (by omega)
      rw [List.drop_zero] at v
      exact Ev.step (f := fun k => tachographref21_Unsigned.l0 k s ((0 : Nat) : Int) ((0 : Nat) : Int)) (fun k => by simp only [tachographref21_Unsigned.j0, Bool.false_eq_true, if_false]; rfl) v
    · rw [uns_no _ (fun _ => h), decide_eq_true (by omega)]
      exact jt

/-! ### Signed -/
theorem pr_bounds (o : Option Nat) (h : ∀ n, o = some n → n ≤ 18446744073709551615) : 0 ≤ (pr o).1 ∧ (pr o).1 ≤ 18446744073709551615 := by
  cases o with
  | none => exact ⟨Int.le_refl _, by show (0 : Int) ≤ _; omega⟩
  | some n => have := h n rfl; exact ⟨by show (0 : Int) ≤ (n : Int); omega, by show (n : Int) ≤ _; omega⟩
theorem uns_bounds (l : List Int) : 0 ≤ (uns l).1 ∧ (uns l).1 ≤ 18446744073709551615 := by
  unfold uns
  split
  · exact ⟨Int.le_refl _, by show (0 : Int) ≤ _; omega⟩
  · split
    · exact pr_bounds _ (fun n h => uval_lt l 0 n (by omega) h)
    · exact ⟨Int.le_refl _, by show (0 : Int) ≤ _; omega⟩
theorem number_ev (s : ByteArray) (hs : s.size ≤ 10000000000) (c : Int) (r : List Int) (h : bytesOf s = c :: r) : Ev (fun k => lex_number.f k s) (if cnt dig (if c = 45 then r else c :: r) = 0 then 0 else (((r.length + 1 - (if c = 45 then r else c :: r).length) + cnt dig (if c = 45 then r else c :: r) : Nat) : Int)) := by
  obtain ⟨t, h1, h2⟩ := cut_bytes s c r h
  have hl := bytesOf_length s
  have hlt := bytesOf_length t
  rw [h, List.length_cons] at hl
  rw [← h2]
  have hle : (bytesOf t).length ≤ r.length + 1 := by rw [h2]; split <;> simp
  have hcl := cnt_le dig (bytesOf t)
  unfold lex_number.f
  simp only [h1, Option.bind_some]
  have m : Ev (fun k => lex_many.f k t 13) ((cnt dig (bytesOf t) : Nat) : Int) := Ev.congr (fun k => by unfold lex_many.f; rw [if_pos rfl]) (many_ev lex_digit.f dig ldig_eq t (by omega))
  refine Ev.bind m ?_
  by_cases h0 : cnt dig (bytesOf t) = 0
  · rw [if_pos h0]
    exact Ev.congr (f := fun _ => some 0) (fun k => by rw [if_pos (by omega)]) (Ev.now _)
  · rw [if_neg h0]
    refine Ev.congr (f := fun _ => some _) (fun k => ?_) (Ev.now _)
    rw [if_neg (by omega), w64 (x := (s.size : Int) - (t.size : Int)) (by omega) (by omega), w64 (by omega) (by omega)]
    congr 1
    omega
theorem neg_none : (if ((0 : Int), false).2 = true ∧ ((0 : Int), false).1 ≤ 9223372036854775808 then (-((0 : Int), false).1, true) else ((0 : Int), false)) = (0, false) := by simp
theorem pos_none : (if ((0 : Int), false).2 = true ∧ ((0 : Int), false).1 ≤ 9223372036854775807 then (((0 : Int), false).1, true) else ((0 : Int), false)) = (0, false) := by simp
theorem signed_ev (s : ByteArray) (hs : s.size ≤ 10000000000) : Ev (fun k => lex_Signed.f k s) (sgnd (bytesOf s)) := by
  unfold lex_Signed.f
  have hl := bytesOf_length s
  cases hb : bytesOf s with
  | nil => exact Ev.congr (f := fun _ => some (0, false)) (fun k => by rw [if_pos (nil_toList s hb)]) (Ev.now _)
  | cons c r =>
    have hne := cons_toList s hb
    rw [hb, List.length_cons] at hl
    simp only [if_neg hne]
    refine Ev.bind (number_ev s hs c r hb) ?_
    obtain ⟨u, l', hd⟩ : ∃ u l', s.data.toList = u :: l' := by
      cases hx : s.data.toList with
      | nil => rw [bytes_map, hx] at hb; cases hb
      | cons u l' => exact ⟨u, l', rfl⟩
    have hm := hb
    rw [bytes_map, hd, List.map_cons] at hm
    obtain ⟨hu, hr⟩ := List.cons.inj hm
    have no : ∀ x : Int, x ≠ (s.size : Int) → Ev (fun k => (fun t : Int => if t = (s.size : Int) then (if s.size ≤ 281474976710656 then some (((lex_Signed.g s).1 : Int), (lex_Signed.g s).2) else none) else some (0, false)) x) (0, false) := fun x hx => Ev.congr (f := fun _ => some (0, false)) (fun k => by simp only [if_neg hx]) (Ev.now _)
    have yes : ∀ x : Int, x = (s.size : Int) → Ev (fun k => (fun t : Int => if t = (s.size : Int) then (if s.size ≤ 281474976710656 then some (((lex_Signed.g s).1 : Int), (lex_Signed.g s).2) else none) else some (0, false)) x) (lex_Signed.g s) := fun x hx => Ev.congr (f := fun _ => some (lex_Signed.g s)) (fun k => by simp only [if_pos hx]; rw [if_pos (by omega)]) (Ev.now _)
    by_cases hc : c = 45
    · have hu45 : u.toNat = 45 := by omega
      simp only [sgnd, if_pos hc]
      have hcl := cnt_le dig r
      by_cases h0 : cnt dig r = 0
      · rw [uns_no r (fun hr0 e => by cases r with | nil => exact hr0 rfl | cons a b => rw [h0, List.length_cons] at e; omega), neg_none]
        rw [if_pos h0]
        exact no _ (by omega)
      · rw [if_neg h0]
        by_cases h1 : cnt dig r = r.length
        · have hrn : r ≠ [] := fun e => h0 (by rw [e]; rfl)
          rw [uns_ok r hrn h1]
          have hl'n : l' ≠ [] := fun e => hrn (by rw [← hr, e]; rfl)
          have p := parse_ev l' hl'n (by rw [hr]; exact h1)
          rw [hr] at p
          have e : lex_Signed.g s = if (pr (uval 0 r)).2 = true ∧ (pr (uval 0 r)).1 ≤ 9223372036854775808 then (-(pr (uval 0 r)).1, true) else (0, false) := by
            unfold lex_Signed.g
            rw [hd]
            simp only [Lib.parseIntB, hu45]
            rw [if_pos (Or.inr trivial), p]
            cases uval 0 r with
            | none => rfl
            | some n =>
              by_cases hn : n ≤ 9223372036854775808
              · simp [ends, pr, show ¬ 9223372036854775808 < n from by omega, show (n : Int) ≤ 9223372036854775808 from by omega]
              · simp [ends, pr, show 9223372036854775808 < n from by omega, show ¬ (n : Int) ≤ 9223372036854775808 from by omega]
          rw [← e]
          exact yes _ (by omega)
        · rw [uns_no r (fun _ => h1), neg_none]
          exact no _ (by omega)
    · have hu45 : ¬ u.toNat = 45 := by omega
      simp only [sgnd, if_neg hc]
      have hcl := cnt_le dig (c :: r)
      rw [List.length_cons] at hcl
      by_cases h1 : cnt dig (c :: r) = (c :: r).length
      · have h1' := h1
        rw [List.length_cons] at h1'
        have hz : ¬ cnt dig (c :: r) = 0 := by omega
        rw [if_neg hz, uns_ok _ (by simp) h1]
        have hdg := dig_lo (cnt_all _ h1 c (by simp))
        have p := parse_ev s.data.toList (by rw [hd]; simp) (by rw [← bytes_map, hb]; exact h1)
        rw [← bytes_map, hb] at p
        have e : lex_Signed.g s = if (pr (uval 0 (c :: r))).2 = true ∧ (pr (uval 0 (c :: r))).1 ≤ 9223372036854775807 then ((pr (uval 0 (c :: r))).1, true) else (0, false) := by
          unfold lex_Signed.g
          rw [hd] at p ⊢
          simp only [Lib.parseIntB]
          rw [if_neg (by omega), p]
          cases uval 0 (c :: r) with
          | none => rfl
          | some n =>
            by_cases hn : n ≤ 9223372036854775807
            · simp [ends, pr, hu45, show ¬ 9223372036854775808 ≤ n from by omega, show (n : Int) ≤ 9223372036854775807 from by omega]
            · simp [ends, pr, hu45, show 9223372036854775808 ≤ n from by omega, show ¬ (n : Int) ≤ 9223372036854775807 from by omega]
        rw [← e]
        exact yes _ (by have e2 : (c :: r).length = r.length + 1 := rfl; omega)
      · rw [uns_no _ (fun _ => h1), pos_none]
        rw [List.length_cons] at h1
        refine no _ ?_
        split
        · omega
        · have e2 : (c :: r).length = r.length + 1 := rfl; omega
theorem rsigned_ev (s : ByteArray) (hs : s.size ≤ 10000000000) : Ev (fun k => tachographref21_Signed.f k s) (sgnd (bytesOf s)) := by
  unfold tachographref21_Signed.f
  have hl := bytesOf_length s
  have pos : ∀ (l : List Int) (h : bytesOf s = l), Ev (fun k => tachographref21_Signed.j0 k s false) (if (uns l).2 = true ∧ (uns l).1 ≤ 9223372036854775807 then ((uns l).1, true) else (0, false)) := fun l h => by
    have u := runsigned_ev s hs
    rw [h] at u
    have hbd := uns_bounds l
    refine Ev.step (f := fun k => (tachographref21_Unsigned.f k s).bind fun bt221 => (if bt221.2 = true then (if bt221.1 > 9223372036854775807 then (some (0, false)) else (some (wrap64 (bt221.1), true))) else (some (0, false)))) (fun k => by simp only [tachographref21_Signed.j0, Bool.false_eq_true, if_false]) ?_
    refine Ev.bind u ?_
    obtain ⟨x, b⟩ : ∃ x, x = uns l := ⟨_, rfl⟩
    rw [← b] at hbd ⊢
    obtain ⟨x1, x2⟩ := x
    cases x2 with
    | true =>
      by_cases h3 : x1 ≤ 9223372036854775807
      · refine Ev.congr (f := fun _ => some (x1, true)) (fun k => ?_) (by simp only [h3, and_self, if_true]; exact Ev.now _)
        dsimp only at hbd ⊢
        rw [if_pos rfl, if_neg (by omega), w64 (by omega) (by omega)]
      · refine Ev.congr (f := fun _ => some (0, false)) (fun k => ?_) (by simp only [h3, and_false, if_false]; exact Ev.now _)
        dsimp only at hbd ⊢
        rw [if_pos rfl, if_pos (by omega)]
    | false =>
      exact Ev.congr (f := fun _ => some (0, false)) (fun k => by simp) (by simp only [Bool.false_eq_true, false_and, if_false]; exact Ev.now _)
  cases hb : bytesOf s with
  | nil =>
    simp only [if_pos (nil_toList s hb)]
    exact pos [] hb
  | cons c r =>
    rw [hb, List.length_cons] at hl
    simp only [if_neg (cons_toList s hb)]
    obtain ⟨b0, b1⟩ := bt_cons hb
    rw [b1]
    by_cases hc : c = 45
    · simp only [sgnd, if_pos hc]
      rw [show (c == 45) = true from by simp [hc]]
      have hx : bytesOf (s.extract 1 s.size) = r := by rw [bytesOf_extract, List.take_of_length_le (by rw [hb, List.length_cons]; omega), hb]; rfl
      have hxs : (s.extract 1 s.size).size = r.length := by rw [← bytesOf_length, hx]
      have u := runsigned_ev (s.extract 1 s.size) (by omega)
      rw [hx] at u
      have hbd := uns_bounds r
      refine Ev.congr (f := fun k => tachographref21_Signed.j0 k s true) (fun k => by rw [if_pos (by omega)]) ?_
      refine Ev.step (f := fun k => (tachographref21_Unsigned.f k (s.extract 1 s.size)).bind fun bt219 => (if bt219.2 = true then (tachographref21_Signed.j1 k bt219.1 (decide (bt219.1 > 9223372036854775808))) else (tachographref21_Signed.j1 k bt219.1 true))) (fun k => by simp only [tachographref21_Signed.j0, if_true]; rw [if_pos (by omega)]) ?_
      refine Ev.bind u ?_
      have jt : ∀ x, Ev (fun k => tachographref21_Signed.j1 k x true) (0, false) := fun x => Ev.step (f := fun _ => some (0, false)) (fun k => by simp only [tachographref21_Signed.j1, if_true]) (Ev.now _)
      by_cases h2 : (uns r).2 = true
      · simp only [if_pos h2]
        by_cases h3 : (uns r).1 ≤ 9223372036854775808
        · rw [if_pos ⟨h2, h3⟩, decide_eq_false (by omega)]
          refine Ev.step (f := fun _ => some (-(uns r).1, true)) (fun k => ?_) (Ev.now _)
          simp only [tachographref21_Signed.j1, Bool.false_eq_true, if_false]
          by_cases h4 : (uns r).1 = 0
          · rw [if_pos h4, h4]; rfl
          · rw [if_neg h4, wu64 (by omega) (by omega), w64 (x := (uns r).1 - 1) (by omega) (by omega), w64 (x := -((uns r).1 - 1)) (by omega) (by omega), w64 (by omega) (by omega)]
            congr 2
            omega
        · rw [if_neg (fun e => h3 e.2), decide_eq_true (by omega)]
          exact jt _
      · simp only [if_neg h2]
        rw [if_neg (fun e => h2 e.1)]
        exact jt _
    · simp only [sgnd, if_neg hc]
      rw [show (c == 45) = false from by simp [hc]]
      exact Ev.congr (f := fun k => tachographref21_Signed.j0 k s false) (fun k => by rw [if_pos (by omega)]) (pos _ hb)
end Go.Proofs.YtjfklfmfeghjnacDoor.MNum
