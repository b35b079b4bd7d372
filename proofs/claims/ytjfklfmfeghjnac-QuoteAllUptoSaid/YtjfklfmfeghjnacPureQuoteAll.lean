/- QuoteAll, plainly. -/
import Derived.Test.YtjfklfmfeghjnacMQuote
import Derived.Lib.Join
import Derived.Test.YtjfklfmfeghjnacPQx1
import Derived.Test.YtjfklfmfeghjnacPQx5
import Derived.Test.YtjfklfmfeghjnacPQx6
set_option linter.unusedVariables false
namespace Go.Proofs.Ytjfklfmfeghjnac.Pure
open Go.RowKit Go.Proofs.Ytjfklfmfeghjnac.PQ Go.Proofs.Ytjfklfmfeghjnac.MQuote Go.Proofs.Ytjfklfmfeghjnac.MBase Go.Proofs.YtjfklfmfeghjnacW.PrintWords Go.Proofs.YtjfklfmfeghjnacW.PrintLast Go.Proofs.YtjfklfmfeghjnacW.PrintMore

theorem fixed20a : Ev (fun k => tachographlaw20_fixed.f k) true := by
  unfold tachographlaw20_fixed.f
  refine Ev.bind (put_ev _ (by decide)) ?_
  refine Ev.congr (f := fun _ => some true) (fun k => ?_) (Ev.now _)
  rw [toList_strOfNums]
  decide

/-- The quotes of texts, a comma between each two. -/
def qs : List ByteArray → List Int
  | [] => []
  | [x] => quo (bytesOf x)
  | x :: y :: r => quo (bytesOf x) ++ 44 :: qs (y :: r)
def Q (s : ByteArray) : ByteArray := strOfNums (quo (bytesOf s))

theorem byt_qs : ∀ l, Byt (qs l)
  | [] => Byt.nil
  | [x] => quo_byt _ (byt_bytesOf x)
  | x :: y :: r => (quo_byt _ (byt_bytesOf x)).append (fun z hz => by
      rcases List.mem_cons.1 hz with rfl | hz
      · omega
      · exact byt_qs (y :: r) z hz)
theorem join_two (x y : List UInt8) (r : List (List UInt8)) (sep : List UInt8) : Lib.join (x :: y :: r) sep = x ++ (sep ++ Lib.join (y :: r) sep) := by
  rw [Lib.join_cons, Lib.join_cons]
  simp [Lib.joinTail]
theorem join_qs : ∀ l : List ByteArray, Lib.join ((l.map Q).map (·.data.toList)) (⟨#[44]⟩ : ByteArray).data.toList = (strOfNums (qs l)).data.toList
  | [] => by simp only [List.map_nil, Lib.join_nil, qs]; rw [strOfNums_data]; rfl
  | [x] => by simp only [List.map_cons, List.map_nil, Lib.join_one, qs, Q]
  | x :: y :: r => by
    have ih := join_qs (y :: r)
    simp only [List.map_cons] at ih ⊢
    rw [join_two, ih]
    simp only [qs, Q, strOfNums_data, List.map_append, List.map_cons]
    rfl
theorem qs_len (l : List ByteArray) (h : ∀ s ∈ l, s.size ≤ 1048576) : (qs l).length ≤ 5000000 * l.length := by
  induction l with
  | nil => simp [qs]
  | cons x r ih =>
    have h1 := h x List.mem_cons_self
    have h2 := ih (fun s hs => h s (List.mem_cons_of_mem _ hs))
    have h3 := flat_len (bytesOf x)
    have h4 := bytesOf_length x
    have h5 : (quo (bytesOf x)).length ≤ 4999999 := by simp only [quo, List.length_cons, List.length_append, List.length_nil]; omega
    cases r with
    | nil => simp only [qs, List.length_cons, List.length_nil]; omega
    | cons y r =>
      simp only [qs, List.length_append, List.length_cons] at h2 ⊢
      omega

theorem rdq (l : List ByteArray) (i : Nat) (hi : i < l.length) : rdOf ByteArray.empty l (i : Int) = l[i] := by simp [rdOf, List.getD_eq_getElem?_getD, List.getElem?_eq_getElem hi]

theorem all_from (l : List ByteArray) (hl : l.length ≤ 20) (h : ∀ s ∈ l, s.size ≤ 1048576) : ∀ (n i : Nat), n + i = l.length → Ev (fun k => quote_All.l0 k ((l.map Q).take i) l (l.length : Int) (i : Int)) (strOfNums (qs l))
  | 0, i => fun hn => by
    have hj := join_qs l
    have hq := qs_len l h
    have hlen : (Lib.join ((l.map Q).map (·.data.toList)) (⟨#[44]⟩ : ByteArray).data.toList).length = (qs l).length := by rw [hj, strOfNums_data, List.length_map]
    refine Ev.step (f := fun _ => some (strOfNums (qs l))) (fun k => ?_) (Ev.now _)
    simp only [quote_All.l0]
    rw [if_neg (by omega), List.take_of_length_le (by rw [List.length_map]; omega)]
    unfold strings_Join.f
    rw [if_pos ⟨by rw [List.length_map]; omega, by rw [hlen]; omega⟩, hj]
    simp
  | n + 1, i => fun hn => by
    have hi : i < l.length := by omega
    have ih := all_from l hl h n (i + 1) (by omega)
    refine Ev.step (f := fun k => (quote_Put.f k l[i]).bind fun t => if ((l.map Q).take i).length < 8796093022208 then quote_All.l0 k ((l.map Q).take i ++ [t]) l (l.length : Int) ((i + 1 : Nat) : Int) else none) (fun k => ?_) ?_
    · simp only [quote_All.l0]
      rw [if_pos (by omega), if_pos (by omega), if_pos (by omega), rdq l i hi, w64 (by omega) (by omega)]
      rfl
    · refine Ev.bind (put_ev l[i] (by have := h l[i] (List.getElem_mem hi); omega)) ?_
      have hlt : ((l.map Q).take i).length < 8796093022208 := by rw [List.length_take, List.length_map]; omega
      simp only [if_pos hlt]
      have e : (l.map Q).take i ++ [strOfNums (quo (bytesOf l[i]))] = (l.map Q).take (i + 1) := by rw [List.take_add_one, List.getElem?_map, List.getElem?_eq_getElem hi]; rfl
      rw [e]
      exact ih

theorem read_from (l : List ByteArray) (hl : l.length ≤ 20) (h : ∀ s ∈ l, s.size ≤ 1048576) : ∀ (n i : Nat), n + i = l.length → Ev (fun k => tachographlaw20_QuoteAll.l0 k l (strOfNums (qs (l.drop i))) l (l.length : Int) (i : Int)) true
  | 0, i => fun hn => by
    have e : l.drop i = [] := List.drop_eq_nil_iff.2 (by omega)
    rw [e]
    refine Ev.step (f := fun k => (tachographlaw20_fixed.f k).bind fun t => if t = true then some ((strOfNums (qs [])).toList == ([] : List UInt8)) else some false) (fun k => ?_) ?_
    · simp only [tachographlaw20_QuoteAll.l0]
      rw [if_neg (by omega)]
    · refine Ev.bind fixed20a ?_
      simp only [if_true]
      refine Ev.congr (f := fun _ => some true) (fun k => ?_) (Ev.now _)
      rw [toList_strOfNums]
      rfl
  | n + 1, i => fun hn => by
    have hi : i < l.length := by omega
    have ih := read_from l hl h n (i + 1) (by omega)
    have hd : l.drop i = l[i] :: l.drop (i + 1) := List.drop_eq_getElem_cons hi
    obtain ⟨x, hx⟩ : ∃ x, l[i] = x := ⟨_, rfl⟩
    rw [hx] at hd
    have hxs : x.size ≤ 1048576 := by rw [← hx]; exact h _ (List.getElem_mem hi)
    by_cases hbig : (x.size : Int) > 200
    · refine Ev.step (f := fun k => (tachographlaw20_fixed.f k).bind fun t => some t) (fun k => ?_) (Ev.bind fixed20a (Ev.now _))
      simp only [tachographlaw20_QuoteAll.l0]
      rw [if_pos (by omega), if_pos (by omega), if_pos (by omega), rdq l i hi, hx, if_pos hbig]
    · have hlx := bytesOf_length x
      have hbx := byt_bytesOf x
      obtain ⟨R, hR, hR1⟩ : ∃ R, qs (l.drop i) = quo (bytesOf x) ++ R ∧ ((R = [] ∧ l.drop (i + 1) = []) ∨ (R = 44 :: qs (l.drop (i + 1)) ∧ l.drop (i + 1) ≠ [])) := by
        rw [hd]
        cases hr : l.drop (i + 1) with
        | nil => exact ⟨[], by simp [qs], .inl ⟨rfl, rfl⟩⟩
        | cons y r => exact ⟨44 :: qs (y :: r), by simp [qs], .inr ⟨rfl, by simp⟩⟩
      have hRb : Byt R := by
        rcases hR1 with ⟨hR1, _⟩ | ⟨hR1, _⟩
        · rw [hR1]; exact Byt.nil
        · rw [hR1]
          intro z hz
          rcases List.mem_cons.1 hz with rfl | hz
          · omega
          · exact byt_qs _ z hz
      have hql := qs_len (l.drop i) (fun s hs => h s (List.mem_of_mem_drop hs))
      have hdl : (l.drop i).length ≤ 20 := by rw [List.length_drop]; omega
      rw [hR] at hql ⊢
      obtain ⟨W, hW⟩ : ∃ W, strOfNums (quo (bytesOf x) ++ R) = W := ⟨_, rfl⟩
      have hWs : W.size = (quo (bytesOf x)).length + R.length := by rw [← hW, strOfNums_size, List.length_append]
      rw [List.length_append] at hql
      have hg := (get_ev W (by omega)).1
      have hq := qget_quo (bytesOf x) R hbx hRb
      rw [hW, if_neg (by omega)] at hq
      rw [hq] at hg
      rw [hW]
      have hcut : W.extract (((quo (bytesOf x)).length : Int)).toNat W.size = strOfNums R := by
        rw [← hW, strOfNums_extract_end, Int.toNat_natCast, List.drop_left]
      have hlt : (R = [] ∧ l.drop (i + 1) = [] ∧ ¬ i + 1 < l.length ∧ R.length = 0) ∨ (R = 44 :: qs (l.drop (i + 1)) ∧ i + 1 < l.length ∧ 0 < R.length) := by
        rcases hR1 with ⟨a, b⟩ | ⟨a, b⟩
        · have := List.drop_eq_nil_iff.1 b
          exact .inl ⟨a, b, by omega, by rw [a]; rfl⟩
        · have : ¬ l.length ≤ i + 1 := fun h' => b (List.drop_eq_nil_iff.2 h')
          exact .inr ⟨a, by omega, by rw [a]; simp⟩
      have hflag : ((decide (((quo (bytesOf x)).length : Int) < (W.size : Int))) != (decide (((i + 1 : Nat) : Int) < (l.length : Int)))) = false := by
        rcases hlt with ⟨_, _, a, b⟩ | ⟨_, a, b⟩
        · rw [decide_eq_false (by omega), decide_eq_false (by omega)]; rfl
        · rw [decide_eq_true (by omega), decide_eq_true (by omega)]; rfl
      have hj : Ev (fun k => tachographlaw20_QuoteAll.j1 k l W ((quo (bytesOf x)).length : Int) l (l.length : Int) (i : Int) false) true := by
        have hw : wrap64 ((i : Int) + 1) = ((i + 1 : Nat) : Int) := w64 (by omega) (by omega)
        rcases hlt with ⟨a1, a2, a3, a4⟩ | ⟨a1, a2, a3⟩
        · refine Ev.step (f := fun k => tachographlaw20_QuoteAll.l0 k l (strOfNums (qs (l.drop (i + 1)))) l (l.length : Int) ((i + 1 : Nat) : Int)) (fun k => ?_) ih
          simp only [tachographlaw20_QuoteAll.j1, Bool.false_eq_true, if_false]
          rw [if_pos (by omega), if_pos (by omega), hcut, hw, a1, a2]
          rw [if_pos (by rw [toList_strOfNums]; rfl)]
          rfl
        · obtain ⟨T, hT⟩ : ∃ T, qs (l.drop (i + 1)) = T := ⟨_, rfl⟩
          rw [hT] at a1 ih
          have hbR : bytesOf (strOfNums R) = 44 :: T := by rw [bytesOf_strOfNums hRb, a1]
          obtain ⟨b1, b2⟩ := bt_cons hbR
          have hsR : (strOfNums R).size = R.length := strOfNums_size R
          refine Ev.step (f := fun k => tachographlaw20_QuoteAll.l0 k l (strOfNums T) l (l.length : Int) ((i + 1 : Nat) : Int)) (fun k => ?_) ih
          simp only [tachographlaw20_QuoteAll.j1, Bool.false_eq_true, if_false]
          rw [if_pos (by omega), if_pos (by omega), hcut, hw, if_neg (cons_toList _ hbR), if_pos (by omega), b2, if_pos rfl, if_pos (by omega), strOfNums_extract_end, a1]
          rfl
      refine Ev.step (f := fun k => (quote_Get.f k W).bind fun b => (if b.1.toList = x.toList then (if b.2.2 = 0 then (if b.2.1 > (W.size : Int) then (tachographlaw20_QuoteAll.j1 k l W b.2.1 l (l.length : Int) (i : Int) true) else (tachographlaw20_QuoteAll.j1 k l W b.2.1 l (l.length : Int) (i : Int) ((decide (b.2.1 < (W.size : Int))) != (decide (((i + 1 : Nat) : Int) < (l.length : Int)))))) else (tachographlaw20_QuoteAll.j1 k l W b.2.1 l (l.length : Int) (i : Int) true)) else (tachographlaw20_QuoteAll.j1 k l W b.2.1 l (l.length : Int) (i : Int) true))) (fun k => ?_) ?_
      · simp only [tachographlaw20_QuoteAll.l0]
        rw [if_pos (by omega), if_pos (by omega), if_pos (by omega), rdq l i hi, hx, if_neg hbig, w64 (by omega) (by omega)]
        rfl
      · refine Ev.bind hg ?_
        have hng : ¬ ((quo (bytesOf x)).length : Int) > (W.size : Int) := by omega
        simp only [qval, strOfNums_bytesOf, if_true, if_neg hng, hflag]
        exact hj

theorem bulk_mem {s : ByteArray} : ∀ {l : List ByteArray}, s ∈ l → s.size ≤ Go.Proofs.YtjfklfmfeghjnacOpen.sliceBulk Go.Proofs.YtjfklfmfeghjnacOpen.strBulk l
  | [], h => nomatch h
  | x :: r, h => by
    have e : Go.Proofs.YtjfklfmfeghjnacOpen.sliceBulk Go.Proofs.YtjfklfmfeghjnacOpen.strBulk (x :: r) = (x.size + 1) + Go.Proofs.YtjfklfmfeghjnacOpen.sliceBulk Go.Proofs.YtjfklfmfeghjnacOpen.strBulk r := by
      simp only [Go.Proofs.YtjfklfmfeghjnacOpen.sliceBulk, Go.Proofs.YtjfklfmfeghjnacOpen.strBulk, List.map_cons, List.sum_cons]; omega
    rcases List.mem_cons.1 h with rfl | h
    · omega
    · have := bulk_mem h; omega
theorem QuoteAll : tachographlaw20_QuoteAll.Pure := by
  intro l hl hbk
  refine Ev.rounds ?_
  unfold tachographlaw20_QuoteAll.f
  have hsz : ∀ s ∈ l, s.size ≤ 1048576 := fun s hs => Nat.le_trans (bulk_mem hs) hbk
  by_cases h1 : (l.length : Int) > 20
  · exact Ev.congr (f := fun k => (tachographlaw20_fixed.f k).bind fun t => some t) (fun k => by rw [if_pos h1]) (Ev.bind fixed20a (Ev.now _))
  · refine Ev.congr (f := fun k => (quote_All.f k l).bind fun t => tachographlaw20_QuoteAll.l0 k l t l (l.length : Int) ((0 : Nat) : Int)) (fun k => by rw [if_neg h1]; rfl) ?_
    have ha : Ev (fun k => quote_All.f k l) (strOfNums (qs l)) := all_from l (by omega) hsz l.length 0 (by omega)
    refine Ev.bind ha ?_
    have := read_from l (by omega) hsz l.length 0 (by omega)
    rw [List.drop_zero] at this
    exact this
end Go.Proofs.Ytjfklfmfeghjnac.Pure
