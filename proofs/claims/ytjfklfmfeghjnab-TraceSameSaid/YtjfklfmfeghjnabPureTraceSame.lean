/- TraceSame, plainly. -/
import Derived.Test.YtjfklfmfeghjnabMPts
import Derived.Test.YtjfklfmfeghjnabPTx4
import Derived.Test.YtjfklfmfeghjnabPTx5
import Derived.Test.YtjfklfmfeghjnabPTx6
import Derived.Test.YtjfklfmfeghjnabPTx7
import Derived.Test.YtjfklfmfeghjnabPTx8
set_option linter.unusedVariables false
namespace Go.Proofs.Ytjfklfmfeghjnab.Pure
open Go.RowKit Go.Proofs.Ytjfklfmfeghjnab.PT Go.Proofs.Ytjfklfmfeghjnab.MPts Go.Proofs.Ytjfklfmfeghjnab.MBase Go.Proofs.YtjfklfmfeghjnabW.PrintWords Go.Proofs.YtjfklfmfeghjnabW.PrintLast Go.Proofs.YtjfklfmfeghjnabW.PrintMore

theorem fixed_same : Ev (fun k => tachographlaw12_fixed.f k) true := Ev.of (fun k => tachographlaw12_fixed.mono k) (k := 60) (by kernel_rfl)
abbrev KA := Int × Int × List UInt8
instance deqA : DecidableEq KA := inferInstance
abbrev KE := Int × List KA
instance deqLA : DecidableEq (List KA) := @instDecidableEqList KA deqA
instance deqE : DecidableEq KE := @instDecidableEqProd Int (List KA) inferInstance deqLA
instance deqLE : DecidableEq (List KE) := @instDecidableEqList KE deqE
abbrev KP := Int × List KE
instance deqP : DecidableEq KP := @instDecidableEqProd Int (List KE) inferInstance deqLE
def ka (a : Argm) : KA := (a.f0, a.f1, a.f2.toList)
def ke (e : Evt) : KE := (e.f0, e.f1.map ka)
def kp (p : Pnt) : KP := (p.f0, p.f1.map ke)
def same {α β : Type} [DecidableEq β] (κ : α → β) (l m : List α) : Bool := decide (l.map κ = m.map κ)
section
variable {α β : Type} [DecidableEq β] (κ : α → β)
theorem same_cons (x y : α) (l m : List α) : same κ (x :: l) (y :: m) = (decide (κ x = κ y) && same κ l m) := by
  unfold same
  by_cases c : κ x = κ y
  · simp [c]
  · simp [c]
theorem same_self (l : List α) : same κ l l = true := by simp [same]
theorem same_len {l m : List α} (h : l.length ≠ m.length) : same κ l m = false := decide_eq_false (fun e => h (by simpa using congrArg List.length e))
/-- A loop that asks of each place whether the two rows' elements are the same. -/
theorem loop_same (l m : List α) (he : l.length = m.length) (L : Nat → Int → Option Bool) (E : Nat → α → α → Option Bool) (v : Bool) (hend : Ev (fun k => L k (l.length : Int)) v)
    (hstep : ∀ k i (h1 : i < l.length) (h2 : i < m.length), L (k + 1) (i : Int) = (E k l[i] m[i]).bind fun t => if t = true then L k ((i + 1 : Nat) : Int) else some false)
    (hE : ∀ i (h1 : i < l.length) (h2 : i < m.length), Ev (fun k => E k l[i] m[i]) (decide (κ l[i] = κ m[i]))) :
    ∀ n i, n + i = l.length → Ev (fun k => L k (i : Int)) (same κ (l.drop i) (m.drop i) && v) := by
  intro n
  induction n with
  | zero =>
    intro i h
    rw [List.drop_eq_nil_of_le (by omega), List.drop_eq_nil_of_le (by omega), same_self, Bool.true_and, show i = l.length by omega]
    exact hend
  | succ n ih =>
    intro i h
    have h1 : i < l.length := by omega
    have h2 : i < m.length := by omega
    have r := ih (i + 1) (by omega)
    rw [List.drop_eq_getElem_cons h1, List.drop_eq_getElem_cons h2, same_cons]
    refine Ev.step (f := fun k => (E k l[i] m[i]).bind fun t => if t = true then L k ((i + 1 : Nat) : Int) else some false) (fun k => hstep k i h1 h2) ?_
    refine Ev.bind (hE i h1 h2) ?_
    by_cases c : κ l[i] = κ m[i]
    · simp only [decide_eq_true c, if_true, Bool.true_and]
      exact r
    · simp only [decide_eq_false c, Bool.false_eq_true, if_false, Bool.false_and]
      exact Ev.now _
end
theorem rdP (l : List Pnt) (i : Nat) (h : i < l.length) : rd_T44 l (i : Int) = l[i] := by rw [rd_pt]; simp [List.getD_eq_getElem?_getD, List.getElem?_eq_getElem h]
theorem rdE (l : List Evt) (i : Nat) (h : i < l.length) : rd_T61 l (i : Int) = l[i] := by rw [rd_e]; simp [List.getD_eq_getElem?_getD, List.getElem?_eq_getElem h]
theorem rdA (l : List Argm) (i : Nat) (h : i < l.length) : rd_T70 l (i : Int) = l[i] := by rw [rd_a]; simp [List.getD_eq_getElem?_getD, List.getElem?_eq_getElem h]
theorem ka_eq (a b : Argm) : (!(a.f0 == b.f0) || (!(a.f1 == b.f1) || !(a.f2.toList == b.f2.toList))) = !(decide (ka a = ka b)) := by
  by_cases h0 : a.f0 = b.f0 <;> by_cases h1 : a.f1 = b.f1 <;> by_cases h2 : a.f2.toList = b.f2.toList <;> simp [ka, h0, h1, h2]
theorem arg_ev (l m : List Argm) (hl : l.length < 9223372036854775807) : Ev (fun k => api_Arg_66.f k l m) (same ka l m) := by
  unfold api_Arg_66.f
  by_cases he : l.length = m.length
  · have r := loop_same ka l m he (fun k i => api_Arg_66.l0 k l m (l.length : Int) i) (fun _ a b => some (decide (ka a = ka b))) true
      (Ev.step (f := fun _ => some true) (fun k => by simp only [api_Arg_66.l0]; rw [if_neg (by omega)]) (Ev.now _))
      (fun k i h1 h2 => by
        simp only [api_Arg_66.l0]
        rw [if_pos (by omega), if_pos (by omega), if_pos (by omega), if_pos (by omega), rdA l i h1, rdA m i h2, ka_eq, w64 (x := (i : Int) + 1) (by omega) (by omega), Option.bind_some]
        by_cases c : ka l[i] = ka m[i]
        · simp [c]
        · simp [c])
      (fun _ _ _ => Ev.now _) l.length 0 (by omega)
    rw [List.drop_zero, List.drop_zero, Bool.and_true] at r
    exact Ev.congr (fun k => by rw [if_pos (by omega)]; rfl) r
  · rw [same_len ka he]
    exact Ev.congr (f := fun _ => some false) (fun k => by rw [if_neg (by omega)]) (Ev.now _)
theorem ke_eq (x y : Evt) : decide (ke x = ke y) = (decide (x.f0 = y.f0) && same ka x.f1 y.f1) := by
  unfold same ke
  by_cases h : x.f0 = y.f0 <;> simp [h]
theorem kp_eq (x y : Pnt) : decide (kp x = kp y) = (decide (x.f0 = y.f0) && same ke x.f1 y.f1) := by
  unfold same kp
  by_cases h : x.f0 = y.f0 <;> simp [h]
theorem evt_ev (x y : Evt) (hx : x.f1.length < 9223372036854775807) : Ev (fun k => trace_Same_1_1.f k x.f0 x.f1 y.f0 y.f1) (decide (ke x = ke y)) := by
  unfold trace_Same_1_1.f
  rw [ke_eq]
  by_cases c : x.f0 = y.f0
  · simp only [if_pos c, decide_eq_true c, Bool.true_and]
    exact Ev.bind (arg_ev _ _ hx) (Ev.now _)
  · simp only [if_neg c, decide_eq_false c, Bool.false_and]
    exact Ev.now _
def FitA (l : List Evt) : Prop := ∀ e ∈ l, e.f1.length < 9223372036854775807
theorem evts_ev (l m : List Evt) (z : Int) (hl : l.length < 9223372036854775807) (hf : FitA l) : Ev (fun k => api_Event.f k l m z) (same ke l m) := by
  unfold api_Event.f
  by_cases he : l.length = m.length
  · have r := loop_same ke l m he (fun k i => api_Event.l0 k m l (l.length : Int) i) (fun k x y => trace_Same_1_1.f k x.f0 x.f1 y.f0 y.f1) true
      (Ev.step (f := fun _ => some true) (fun k => by simp only [api_Event.l0]; rw [if_neg (by omega)]) (Ev.now _))
      (fun k i h1 h2 => by
        simp only [api_Event.l0]
        rw [if_pos (by omega), if_pos (by omega), if_pos (by omega), if_pos (by omega), rdE l i h1, rdE m i h2, w64 (x := (i : Int) + 1) (by omega) (by omega)]
        rfl)
      (fun i h1 _ => evt_ev _ _ (hf _ (List.getElem_mem h1))) l.length 0 (by omega)
    rw [List.drop_zero, List.drop_zero, Bool.and_true] at r
    exact Ev.congr (fun k => by rw [if_pos (by omega)]; rfl) r
  · rw [same_len ke he]
    exact Ev.congr (f := fun _ => some false) (fun k => by rw [if_neg (by omega)]) (Ev.now _)
theorem pnt_ev (x y : Pnt) (hx : x.f1.length < 9223372036854775807) (hf : FitA x.f1) : Ev (fun k => trace_Same_1.f k x.f0 x.f1 y.f0 y.f1) (decide (kp x = kp y)) := by
  unfold trace_Same_1.f
  rw [kp_eq]
  by_cases c : x.f0 = y.f0
  · simp only [if_pos c, decide_eq_true c, Bool.true_and]
    exact Ev.bind (evts_ev _ _ _ hx hf) (Ev.now _)
  · simp only [if_neg c, decide_eq_false c, Bool.false_and]
    exact Ev.now _
def FitE (l : List Pnt) : Prop := ∀ p ∈ l, p.f1.length < 9223372036854775807 ∧ FitA p.f1
theorem same_ev (l m : List Pnt) (hl : l.length < 9223372036854775807) (hf : FitE l) : Ev (fun k => trace_Same.f k l m) (same kp l m) := by
  unfold trace_Same.f
  refine Ev.bind (a := same kp l m) ?_ (Ev.now _)
  unfold api_Point.f
  by_cases he : l.length = m.length
  · have r := loop_same kp l m he (fun k i => api_Point.l0 k m l (l.length : Int) i) (fun k x y => trace_Same_1.f k x.f0 x.f1 y.f0 y.f1) true
      (Ev.step (f := fun _ => some true) (fun k => by simp only [api_Point.l0]; rw [if_neg (by omega)]) (Ev.now _))
      (fun k i h1 h2 => by
        simp only [api_Point.l0]
        rw [if_pos (by omega), if_pos (by omega), if_pos (by omega), if_pos (by omega), rdP l i h1, rdP m i h2, w64 (x := (i : Int) + 1) (by omega) (by omega)]
        rfl)
      (fun i h1 _ => pnt_ev _ _ (hf _ (List.getElem_mem h1)).1 (hf _ (List.getElem_mem h1)).2) l.length 0 (by omega)
    rw [List.drop_zero, List.drop_zero, Bool.and_true] at r
    exact Ev.congr (fun k => by rw [if_pos (by omega)]; rfl) r
  · rw [same_len kp he]
    exact Ev.congr (f := fun _ => some false) (fun k => by rw [if_neg (by omega)]) (Ev.now _)
theorem revt_ev (x y : Evt) (hx : x.f1.length < 9223372036854775807) : Ev (fun k => tachographref12_event.f k x.f0 x.f1 y.f0 y.f1) (decide (ke x = ke y)) := by
  unfold tachographref12_event.f
  rw [ke_eq]
  have jt : Ev (fun k => tachographref12_event.j0 k true x.f0 x.f1 y.f0 y.f1) false := Ev.step (f := fun _ => some false) (fun k => by simp only [tachographref12_event.j0, if_true]) (Ev.now _)
  by_cases c : x.f0 = y.f0
  · simp only [if_pos c, decide_eq_true c, Bool.true_and]
    by_cases he : x.f1.length = y.f1.length
    · rw [show ((x.f1.length : Int) != (y.f1.length : Int)) = false from by simp [he]]
      have r := loop_same ka x.f1 y.f1 he (fun k i => tachographref12_event.l0 k i x.f0 x.f1 y.f0 y.f1) (fun _ a b => some (decide (ka a = ka b))) true
        (Ev.step (f := fun _ => some true) (fun k => by simp only [tachographref12_event.l0]; rw [if_neg (by omega)]) (Ev.now _))
        (fun k i h1 h2 => by
          simp only [tachographref12_event.l0]
          rw [if_pos (by omega), if_pos (by omega), if_pos (by omega), rdA _ i h1, rdA _ i h2, ka_eq, w64 (x := (i : Int) + 1) (by omega) (by omega), Option.bind_some]
          by_cases c : ka x.f1[i] = ka y.f1[i]
          · simp [c]
          · simp [c])
        (fun _ _ _ => Ev.now _) x.f1.length 0 (by omega)
      rw [List.drop_zero, List.drop_zero, Bool.and_true] at r
      exact Ev.step (f := fun k => tachographref12_event.l0 k ((0 : Nat) : Int) x.f0 x.f1 y.f0 y.f1) (fun k => by simp only [tachographref12_event.j0, Bool.false_eq_true, if_false]; rfl) r
    · rw [show ((x.f1.length : Int) != (y.f1.length : Int)) = true from by simp; omega, same_len ka he]
      exact jt
  · simp only [if_neg c, decide_eq_false c, Bool.false_and]
    exact jt
theorem rsame_ev (l m : List Pnt) (hl : l.length < 9223372036854775807) (hf : FitE l) : Ev (fun k => tachographref12_Same.f k l m) (same kp l m) := by
  unfold tachographref12_Same.f
  by_cases he : l.length = m.length
  · refine Ev.congr (f := fun k => tachographref12_Same.l0 k l m ((0 : Nat) : Int)) (fun k => by rw [if_pos (by omega)]; rfl) ?_
    have key : ∀ n i, n + i = l.length → Ev (fun k => tachographref12_Same.l0 k l m (i : Int)) (same kp (l.drop i) (m.drop i)) := by
      intro n
      induction n with
      | zero =>
        intro i h
        rw [List.drop_eq_nil_of_le (by omega), List.drop_eq_nil_of_le (by omega), same_self]
        exact Ev.step (f := fun _ => some true) (fun k => by simp only [tachographref12_Same.l0]; rw [if_neg (by omega)]) (Ev.now _)
      | succ n ih =>
        intro i h
        have h1 : i < l.length := by omega
        have h2 : i < m.length := by omega
        have r := ih (i + 1) (by omega)
        obtain ⟨f1, f2⟩ := hf _ (List.getElem_mem h1)
        have jt : Ev (fun k => tachographref12_Same.j1 k l m (i : Int) true) false := Ev.step (f := fun _ => some false) (fun k => by simp only [tachographref12_Same.j1, if_true]) (Ev.now _)
        rw [List.drop_eq_getElem_cons h1, List.drop_eq_getElem_cons h2, same_cons, kp_eq]
        by_cases c : l[i].f0 = m[i].f0
        · rw [decide_eq_true c, Bool.true_and]
          refine Ev.step (f := fun k => tachographref12_Same.j1 k l m (i : Int) ((l[i].f1.length : Int) != (m[i].f1.length : Int))) (fun k => by
            simp only [tachographref12_Same.l0]
            rw [if_pos (by omega), if_pos (by omega), if_pos (by omega), rdP l i h1, rdP m i h2, if_pos c]) ?_
          by_cases he1 : l[i].f1.length = m[i].f1.length
          · rw [show ((l[i].f1.length : Int) != (m[i].f1.length : Int)) = false from by simp [he1]]
            have q := loop_same ke l[i].f1 m[i].f1 he1 (fun k j => tachographref12_Same.l1 k l m (i : Int) j) (fun k x y => tachographref12_event.f k x.f0 x.f1 y.f0 y.f1) (same kp (l.drop (i + 1)) (m.drop (i + 1)))
              (Ev.step (f := fun k => tachographref12_Same.l0 k l m ((i + 1 : Nat) : Int)) (fun k => by
                simp only [tachographref12_Same.l1]
                rw [if_pos (by omega), if_pos (by omega), rdP l i h1, if_neg (by omega), w64 (by omega) (by omega)]
                rfl) r)
              (fun k j g1 g2 => by
                simp only [tachographref12_Same.l1]
                rw [if_pos (by omega), if_pos (by omega), rdP l i h1, rdP m i h2, if_pos (by omega), if_pos (by omega), if_pos (by omega), if_pos (by omega), rdE _ j g1, rdE _ j g2, w64 (x := (j : Int) + 1) (by omega) (by omega)]
                rfl)
              (fun j g1 _ => revt_ev _ _ (f2 _ (List.getElem_mem g1))) l[i].f1.length 0 (by omega)
            rw [List.drop_zero, List.drop_zero] at q
            exact Ev.step (f := fun k => tachographref12_Same.l1 k l m (i : Int) ((0 : Nat) : Int)) (fun k => by simp only [tachographref12_Same.j1, Bool.false_eq_true, if_false]; rfl) q
          · rw [show ((l[i].f1.length : Int) != (m[i].f1.length : Int)) = true from by simp; omega, same_len ke he1, Bool.false_and]
            exact jt
        · rw [decide_eq_false c, Bool.false_and, Bool.false_and]
          exact Ev.step (f := fun k => tachographref12_Same.j1 k l m (i : Int) true) (fun k => by
            simp only [tachographref12_Same.l0]
            rw [if_pos (by omega), if_pos (by omega), if_pos (by omega), rdP l i h1, rdP m i h2, if_neg c]) jt
    have r := key l.length 0 (by omega)
    rw [List.drop_zero, List.drop_zero] at r
    exact r
  · rw [same_len kp he]
    exact Ev.congr (f := fun _ => some false) (fun k => by rw [if_neg (by omega)]) (Ev.now _)
def Lean4 (l : List Pnt) : Prop := l.length ≤ 4398046511104 ∧ ∀ p ∈ l, p.f1.length ≤ 4398046511104 ∧ ∀ e ∈ p.f1, e.f1.length ≤ 4398046511104
theorem clone_in (l : List Pnt) (hl : Lean4 l) (i : Nat) (h1 : i < l.length) (acc : List Pnt) (ha : acc.length = i) (v : List Pnt) (hv : Ev (fun k => trace_Clone.l0 k (acc ++ [l[i]]) l (l.length : Int) ((i + 1 : Nat) : Int)) v) :
    ∀ (n j : Nat) (ac : List Evt), n + j = l[i].f1.length → ac = l[i].f1.take j → Ev (fun k => trace_Clone.l1 k acc l (l.length : Int) (i : Int) l[i].f1 (l[i].f1.length : Int) (j : Int) l[i].f0 ac) v
  | 0, j, ac => fun h hac => by
    refine Ev.step (f := fun k => trace_Clone.l0 k (acc ++ [l[i]]) l (l.length : Int) ((i + 1 : Nat) : Int)) (fun k => ?_) hv
    have := hl.1
    simp only [trace_Clone.l1]
    rw [if_neg (by omega), if_pos (by omega), w64 (x := (i : Int) + 1) (by omega) (by omega), hac, List.take_of_length_le (by omega)]
    rfl
  | n + 1, j, ac => fun h hac => by
    have hb := hl.2 _ (List.getElem_mem h1)
    have hj : j < l[i].f1.length := by omega
    have ih := clone_in l hl i h1 acc ha v hv n (j + 1) (ac ++ [l[i].f1[j]]) (by omega) (by rw [hac, List.take_succ_eq_append_getElem hj])
    have hal : ac.length = j := by rw [hac, List.length_take]; omega
    have he := hb.2 _ (List.getElem_mem hj)
    refine Ev.step (f := fun k => trace_Clone.l1 k acc l (l.length : Int) (i : Int) l[i].f1 (l[i].f1.length : Int) ((j + 1 : Nat) : Int) l[i].f0 (ac ++ [l[i].f1[j]])) (fun k => ?_) ih
    simp only [trace_Clone.l1, api_Arg_61.f]
    rw [if_pos (by omega), if_pos (by omega), if_pos (by omega), rdE _ j hj, if_pos he, Option.bind_some, if_pos (by omega), w64 (x := (j : Int) + 1) (by omega) (by omega)]
    rfl
theorem clone_from (l : List Pnt) (hl : Lean4 l) : ∀ (n i : Nat) (acc : List Pnt), n + i = l.length → acc.length = i → Ev (fun k => trace_Clone.l0 k acc l (l.length : Int) (i : Int)) (acc ++ l.drop i)
  | 0, i, acc => fun h ha => by
    rw [List.drop_eq_nil_of_le (by omega), List.append_nil]
    refine Ev.step (f := fun _ => some acc) (fun k => ?_) (Ev.now _)
    simp only [trace_Clone.l0]
    rw [if_neg (by omega)]
  | n + 1, i, acc => fun h ha => by
    have h1 : i < l.length := by omega
    have ih := clone_from l hl n (i + 1) (acc ++ [l[i]]) (by omega) (by simp [ha])
    rw [List.drop_eq_getElem_cons h1]
    rw [List.append_assoc, List.singleton_append] at ih
    refine Ev.step (f := fun k => trace_Clone.l1 k acc l (l.length : Int) (i : Int) l[i].f1 (l[i].f1.length : Int) ((0 : Nat) : Int) l[i].f0 []) (fun k => ?_) (clone_in l hl i h1 acc ha _ ih l[i].f1.length 0 [] (by omega) rfl)
    simp only [trace_Clone.l0]
    rw [if_pos (by omega), if_pos (by omega), if_pos (by omega), rdP l i h1]
    rfl
theorem clone_ev (l : List Pnt) (hl : Lean4 l) : Ev (fun k => trace_Clone.f k l) l := clone_from l hl l.length 0 [] (by omega) rfl
theorem Lean4.fit {l : List Pnt} (h : Lean4 l) : FitE l := fun p hp => ⟨by have := (h.2 p hp).1; omega, fun e he => by have := (h.2 p hp).2 e he; omega⟩
theorem TraceSame : tachographlaw12_TraceSame.Pure := by
  intro l m hl hm
  refine Ev.rounds ?_
  have hlen : l.length < 9223372036854775807 := by have := hl.2.1; omega
  have hlen2 : m.length < 9223372036854775807 := by have := hm.2.1; omega
  have ok : ∀ t : List Pnt, (Go.Proofs.YtjfklfmfeghjnabOpen.sliceOk 32 (fun b_ : Pnt => (Go.Proofs.YtjfklfmfeghjnabOpen.pairOk (Go.Proofs.YtjfklfmfeghjnabOpen.intOk .u64) (Go.Proofs.YtjfklfmfeghjnabOpen.sliceOk 32 (fun b_ : Evt => (Go.Proofs.YtjfklfmfeghjnabOpen.pairOk (Go.Proofs.YtjfklfmfeghjnabOpen.intOk .i64) (Go.Proofs.YtjfklfmfeghjnabOpen.sliceOk 32 (fun b_ : Argm => (Go.Proofs.YtjfklfmfeghjnabOpen.pairOk (Go.Proofs.YtjfklfmfeghjnabOpen.intOk .i64) (Go.Proofs.YtjfklfmfeghjnabOpen.pairOk (Go.Proofs.YtjfklfmfeghjnabOpen.intOk .i64) Go.Proofs.YtjfklfmfeghjnabOpen.strOk)) (b_.f0, b_.f1, b_.f2)))) (b_.f0, b_.f1)))) (b_.f0, b_.f1))) t → Lean4 t ∧ Fits t := by
    intro t ht
    refine ⟨⟨by have h : t.length * 32 ≤ 140737488351232 := ht.2.1; omega, fun p hp => ?_⟩, ?_⟩
    · obtain ⟨_, h2⟩ := ht.2.2 p hp
      refine ⟨by have h : p.f1.length * 32 ≤ 140737488351232 := h2.2.1; omega, fun e he => ?_⟩
      obtain ⟨_, h4⟩ := h2.2.2 e he
      have h : e.f1.length * 32 ≤ 140737488351232 := h4.2.1
      omega
    · intro i hi
      have e : rd_T44 t (i : Int) = t[i] := rdP t i hi
      rw [e]
      obtain ⟨h1, h2⟩ := ht.2.2 t[i] (List.getElem_mem hi)
      have h3 := wf_u64 h1
      refine ⟨h3.1, h3.2, by have h : t[i].f1.length * 32 ≤ 140737488351232 := h2.2.1; omega, fun j hj => ?_⟩
      rw [rdE t[i].f1 j hj]
      obtain ⟨_, h4⟩ := h2.2.2 t[i].f1[j] (List.getElem_mem hj)
      have h : t[i].f1[j].f1.length * 32 ≤ 140737488351232 := h4.2.1
      omega
  obtain ⟨l4, lf⟩ := ok l hl
  obtain ⟨_, mf⟩ := ok m hm
  have hj : Ev (fun k => tachographlaw12_TraceSame.j0 k l m true) true :=
    Ev.step (f := fun k => (tachographlaw12_fixed.f k).bind fun t => some t) (fun k => by simp only [tachographlaw12_TraceSame.j0, if_true]) (Ev.bind fixed_same (Ev.now _))
  have hj0 : Ev (fun k => tachographlaw12_TraceSame.j0 k l m false) true := by
    have cl := clone_ev l l4
    have r1 := same_ev l l hlen l4.fit
    have r2 := rsame_ev l l hlen l4.fit
    rw [same_self] at r1 r2
    refine Ev.step (f := fun k => (trace_Clone.f k l).bind fun t172 => ((trace_Clone.f k l).bind fun t175 => ((trace_Same.f k l m).bind fun t178 => ((tachographref12_Same.f k l m).bind fun t179 => (if (t178 != t179) = true then (tachographlaw12_TraceSame.j1 k l t175 true) else ((trace_Same.f k l t172).bind fun t180 => (if t180 = true then ((tachographref12_Same.f k l t172).bind fun t181 => (tachographlaw12_TraceSame.j1 k l t175 (!t181))) else (tachographlaw12_TraceSame.j1 k l t175 true)))))))) (fun k => by simp only [tachographlaw12_TraceSame.j0, Bool.false_eq_true, if_false]) ?_
    refine Ev.bind cl (Ev.bind cl (Ev.bind (same_ev l m hlen l4.fit) (Ev.bind (rsame_ev l m hlen l4.fit) ?_)))
    simp only [bne_self_eq_false, Bool.false_eq_true, if_false]
    refine Ev.bind r1 ?_
    simp only [if_true]
    refine Ev.bind r2 ?_
    refine Ev.step (f := fun k => (tachographlaw12_fixed.f k).bind fun t182 => (if t182 = true then ((tachographref12_Same.f k l l).bind fun t183 => (some t183)) else (some false))) (fun k => by simp only [tachographlaw12_TraceSame.j1, Bool.not_true, Bool.false_eq_true, if_false]) ?_
    refine Ev.bind fixed_same ?_
    simp only [if_true]
    exact Ev.bind r2 (Ev.now _)
  unfold tachographlaw12_TraceSame.f
  obtain ⟨b, hb⟩ := tgreat_ev 3000 l lf hlen
  refine Ev.bind hb ?_
  cases b
  · obtain ⟨c, hc⟩ := tgreat_ev 3000 m mf hlen2
    refine Ev.bind hc ?_
    cases c
    · exact hj0
    · exact hj
  · exact hj
end Go.Proofs.Ytjfklfmfeghjnab.Pure
