/- SigSame, plainly. -/
import Derived.Test.YtjfklfmfeghjnaaMSig
import Derived.Test.YtjfklfmfeghjnaaPSx3
import Derived.Test.YtjfklfmfeghjnaaPSx6
import Derived.Test.YtjfklfmfeghjnaaPSx7
import Derived.Test.YtjfklfmfeghjnaaPSx8
set_option linter.unusedVariables false
namespace Go.Proofs.Ytjfklfmfeghjnaa.Pure
open Go.RowKit Go.Proofs.Ytjfklfmfeghjnaa.PS Go.Proofs.Ytjfklfmfeghjnaa.MSig Go.Proofs.Ytjfklfmfeghjnaa.MBase Go.Proofs.YtjfklfmfeghjnaaW.PrintWords Go.Proofs.YtjfklfmfeghjnaaW.PrintLast Go.Proofs.YtjfklfmfeghjnaaW.PrintMore

theorem fixed_same : Ev (fun k => tachographlaw09_fixed.f k) true := Ev.of (fun k => tachographlaw09_fixed.mono k) (k := 40) (by kernel_rfl)
def kp (p : Pred) : List UInt8 × List Int := (p.f0.toList, p.f1)
def same (l m : List Pred) : Bool := decide (l.map kp = m.map kp)
theorem cons_yes {α : Type} [DecidableEq α] {x y : α} {a b : List α} (c : x = y) : decide (x :: a = y :: b) = decide (a = b) := by subst c; simp
theorem cons_no {α : Type} [DecidableEq α] {x y : α} {a b : List α} (c : ¬ x = y) : decide (x :: a = y :: b) = false := by simp [c]
theorem same_yes {p q : Pred} {l m : List Pred} (c : kp p = kp q) : same (p :: l) (q :: m) = same l m := by unfold same; simp only [List.map_cons]; exact cons_yes c
theorem same_no {p q : Pred} {l m : List Pred} (c : ¬ kp p = kp q) : same (p :: l) (q :: m) = false := by unfold same; simp only [List.map_cons]; exact cons_no c
theorem same_and {p q : Pred} {l m : List Pred} (c : p.f0.toList = q.f0.toList) : same (p :: l) (q :: m) = (decide (p.f1 = q.f1) && same l m) := by
  by_cases d : p.f1 = q.f1
  · rw [same_yes (by simp only [kp, c, d]), decide_eq_true d, Bool.true_and]
  · rw [same_no (fun e => d (congrArg Prod.snd e)), decide_eq_false d, Bool.false_and]
theorem same_self (l : List Pred) : same l l = true := by simp [same]
theorem same_comm (l m : List Pred) : same l m = same m l := by unfold same; exact decide_eq_decide.2 ⟨Eq.symm, Eq.symm⟩
theorem rdS (l : List Pred) (i : Nat) (h : i < l.length) : rd_T92 l (i : Int) = l[i] := by rw [rd_pred]; simp [List.getD_eq_getElem?_getD, List.getElem?_eq_getElem h]
theorem rdI (l : List Int) (i : Nat) (h : i < l.length) : rd l (i : Int) = l[i] := by simp [rd, List.getD_eq_getElem?_getD, List.getElem?_eq_getElem h]
theorem eqi_from (a b : List Int) (he : a.length = b.length) (hm : a.length < 9223372036854775807) : ∀ (n i : Nat), n + i = a.length → Ev (fun k => slices_Equal_int_int.l0 k a b (a.length : Int) (i : Int)) (decide (a.drop i = b.drop i))
  | 0, i => fun h => by
    rw [List.drop_eq_nil_of_le (by omega), List.drop_eq_nil_of_le (by omega)]
    refine Ev.step (f := fun _ => some true) (fun k => ?_) (Ev.now _)
    simp only [slices_Equal_int_int.l0]
    rw [if_neg (by omega)]
  | n + 1, i => fun h => by
    have ih := eqi_from a b he hm n (i + 1) (by omega)
    rw [List.drop_eq_getElem_cons (by omega : i < a.length), List.drop_eq_getElem_cons (by omega : i < b.length)]
    by_cases c : a[i] = b[i]
    · rw [cons_yes c]
      refine Ev.step (f := fun k => slices_Equal_int_int.l0 k a b (a.length : Int) ((i + 1 : Nat) : Int)) (fun k => ?_) ih
      simp only [slices_Equal_int_int.l0]
      rw [if_pos (by omega), if_pos (by omega), if_pos (by omega), if_pos (by omega), rdI a i (by omega), rdI b i (by omega), if_pos c, w64 (by omega) (by omega)]
      rfl
    · rw [cons_no c]
      refine Ev.step (f := fun _ => some false) (fun k => ?_) (Ev.now _)
      simp only [slices_Equal_int_int.l0]
      rw [if_pos (by omega), if_pos (by omega), if_pos (by omega), if_pos (by omega), rdI a i (by omega), rdI b i (by omega), if_neg c]
theorem eqi_ev (a b : List Int) (hm : a.length < 9223372036854775807) : Ev (fun k => slices_Equal_int_int.f k a b) (decide (a = b)) := by
  unfold slices_Equal_int_int.f
  by_cases he : a.length = b.length
  · have h := eqi_from a b he hm a.length 0 (by omega)
    exact Ev.congr (fun k => by rw [if_pos (by omega)]; rfl) h
  · rw [show decide (a = b) = false from decide_eq_false (fun e => he (by rw [e]))]
    exact Ev.congr (f := fun _ => some false) (fun k => by rw [if_neg (by omega)]) (Ev.now _)
theorem one_ev (p q : Pred) (hm : p.f1.length < 9223372036854775807) : Ev (fun k => sig_Same_1.f k p.f0 p.f1 q.f0 q.f1) (decide (kp p = kp q)) := by
  unfold sig_Same_1.f
  by_cases c : p.f0.toList = q.f0.toList
  · rw [show decide (kp p = kp q) = decide (p.f1 = q.f1) from by simp [kp, c]]
    simp only [if_pos c]
    exact Ev.bind (eqi_ev _ _ hm) (Ev.now _)
  · rw [show decide (kp p = kp q) = false from by simp [kp, c]]
    simp only [if_neg c]
    exact Ev.now _
def Fit (l : List Pred) : Prop := ∀ p ∈ l, p.f1.length < 9223372036854775807
theorem fun_from (l m : List Pred) (he : l.length = m.length) (hl : l.length < 9223372036854775807) (hf : Fit l) : ∀ (n i : Nat), n + i = l.length → Ev (fun k => api_Pred.l0 k m l (l.length : Int) (i : Int)) (same (l.drop i) (m.drop i))
  | 0, i => fun h => by
    rw [List.drop_eq_nil_of_le (by omega), List.drop_eq_nil_of_le (by omega)]
    refine Ev.step (f := fun _ => some true) (fun k => ?_) (Ev.now _)
    simp only [api_Pred.l0]
    rw [if_neg (by omega)]
  | n + 1, i => fun h => by
    have ih := fun_from l m he hl hf n (i + 1) (by omega)
    rw [List.drop_eq_getElem_cons (by omega : i < l.length), List.drop_eq_getElem_cons (by omega : i < m.length)]
    refine Ev.step (f := fun k => (sig_Same_1.f k l[i].f0 l[i].f1 m[i].f0 m[i].f1).bind fun t => if t = true then api_Pred.l0 k m l (l.length : Int) ((i + 1 : Nat) : Int) else some false) (fun k => ?_) ?_
    · simp only [api_Pred.l0]
      rw [if_pos (by omega), if_pos (by omega), if_pos (by omega), if_pos (by omega), rdS l i (by omega), rdS m i (by omega), w64 (x := (i : Int) + 1) (by omega) (by omega)]
      rfl
    · refine Ev.bind (one_ev l[i] m[i] (hf _ (List.getElem_mem _))) ?_
      by_cases c : kp l[i] = kp m[i]
      · rw [same_yes c]
        simp only [decide_eq_true c, if_true]
        exact ih
      · rw [same_no c]
        simp only [decide_eq_false c, Bool.false_eq_true, if_false]
        exact Ev.now _
theorem same_len {l m : List Pred} (h : l.length ≠ m.length) : same l m = false := decide_eq_false (fun e => h (by simpa using congrArg List.length e))
theorem same_ev (l m : List Pred) (hl : l.length < 9223372036854775807) (hf : Fit l) : Ev (fun k => sig_Same.f k l m) (same l m) := by
  unfold sig_Same.f
  refine Ev.bind (a := same l m) ?_ (Ev.now _)
  unfold api_Pred.f
  by_cases he : l.length = m.length
  · exact Ev.congr (fun k => by rw [if_pos (by omega)]; rfl) (fun_from l m he hl hf l.length 0 (by omega))
  · rw [same_len he]
    exact Ev.congr (f := fun _ => some false) (fun k => by rw [if_neg (by omega)]) (Ev.now _)
theorem ref1 (l m : List Pred) (i : Nat) (h1 : i < l.length) (h2 : i < m.length) (hl : l.length < 9223372036854775807) (he : l[i].f1.length = m[i].f1.length) (hb : l[i].f1.length < 9223372036854775807) (v : Bool) (hv : Ev (fun k => tachographref09_Same.l0 k l m ((i + 1 : Nat) : Int)) v) :
    ∀ (n j : Nat), n + j = l[i].f1.length → Ev (fun k => tachographref09_Same.l1 k l m (i : Int) (j : Int)) (decide (l[i].f1.drop j = m[i].f1.drop j) && v)
  | 0, j => fun h => by
    rw [List.drop_eq_nil_of_le (by omega), List.drop_eq_nil_of_le (by omega), decide_eq_true rfl, Bool.true_and]
    refine Ev.step (f := fun k => tachographref09_Same.l0 k l m ((i + 1 : Nat) : Int)) (fun k => ?_) hv
    simp only [tachographref09_Same.l1]
    rw [if_pos (by omega), if_pos (by omega), rdS l i h1, if_neg (by omega), w64 (by omega) (by omega)]
    rfl
  | n + 1, j => fun h => by
    have ih := ref1 l m i h1 h2 hl he hb v hv n (j + 1) (by omega)
    rw [List.drop_eq_getElem_cons (by omega : j < l[i].f1.length), List.drop_eq_getElem_cons (by omega : j < m[i].f1.length)]
    by_cases c : l[i].f1[j] = m[i].f1[j]
    · rw [cons_yes c]
      refine Ev.step (f := fun k => tachographref09_Same.l1 k l m (i : Int) ((j + 1 : Nat) : Int)) (fun k => ?_) ih
      simp only [tachographref09_Same.l1]
      rw [if_pos (by omega), if_pos (by omega), rdS l i h1, rdS m i h2, if_pos (by omega), if_pos (by omega), if_pos (by omega), if_pos (by omega), rdI _ j (by omega), rdI _ j (by omega), if_pos c, w64 (x := (j : Int) + 1) (by omega) (by omega)]
      rfl
    · rw [cons_no c, Bool.false_and]
      refine Ev.step (f := fun _ => some false) (fun k => ?_) (Ev.now _)
      simp only [tachographref09_Same.l1]
      rw [if_pos (by omega), if_pos (by omega), rdS l i h1, rdS m i h2, if_pos (by omega), if_pos (by omega), if_pos (by omega), if_pos (by omega), rdI _ j (by omega), rdI _ j (by omega), if_neg c]
theorem ref_from (l m : List Pred) (he : l.length = m.length) (hl : l.length < 9223372036854775807) (hf : Fit l) : ∀ (n i : Nat), n + i = l.length → Ev (fun k => tachographref09_Same.l0 k l m (i : Int)) (same (l.drop i) (m.drop i))
  | 0, i => fun h => by
    rw [List.drop_eq_nil_of_le (by omega), List.drop_eq_nil_of_le (by omega)]
    refine Ev.step (f := fun _ => some true) (fun k => ?_) (Ev.now _)
    simp only [tachographref09_Same.l0]
    rw [if_neg (by omega)]
  | n + 1, i => fun h => by
    have h1 : i < l.length := by omega
    have h2 : i < m.length := by omega
    have ih := ref_from l m he hl hf n (i + 1) (by omega)
    have hb := hf l[i] (List.getElem_mem _)
    rw [List.drop_eq_getElem_cons h1, List.drop_eq_getElem_cons h2]
    have jt : Ev (fun k => tachographref09_Same.j1 k l m (i : Int) true) false := Ev.step (f := fun _ => some false) (fun k => by simp only [tachographref09_Same.j1, if_true]) (Ev.now _)
    by_cases c0 : l[i].f0.toList = m[i].f0.toList
    · refine Ev.step (f := fun k => tachographref09_Same.j1 k l m (i : Int) ((l[i].f1.length : Int) != (m[i].f1.length : Int))) (fun k => ?_) ?_
      · simp only [tachographref09_Same.l0]
        rw [if_pos (by omega), if_pos (by omega), if_pos (by omega), rdS l i h1, rdS m i h2, if_pos c0]
      · by_cases c1 : l[i].f1.length = m[i].f1.length
        · rw [show ((l[i].f1.length : Int) != (m[i].f1.length : Int)) = false from by simp [c1]]
          have r := ref1 l m i h1 h2 hl c1 hb _ ih l[i].f1.length 0 (by omega)
          rw [List.drop_zero, List.drop_zero] at r
          rw [same_and c0]
          refine Ev.step (f := fun k => tachographref09_Same.l1 k l m (i : Int) ((0 : Nat) : Int)) (fun k => ?_) r
          simp only [tachographref09_Same.j1, Bool.false_eq_true, if_false]
          rfl
        · rw [show ((l[i].f1.length : Int) != (m[i].f1.length : Int)) = true from by simp; omega]
          rw [same_no (fun e => c1 (congrArg (fun z => List.length (Prod.snd z)) e))]
          exact jt
    · rw [same_no (fun e => c0 (congrArg Prod.fst e))]
      refine Ev.step (f := fun k => tachographref09_Same.j1 k l m (i : Int) true) (fun k => ?_) jt
      simp only [tachographref09_Same.l0]
      rw [if_pos (by omega), if_pos (by omega), if_pos (by omega), rdS l i h1, rdS m i h2, if_neg c0]
theorem rsame_ev (l m : List Pred) (hl : l.length < 9223372036854775807) (hf : Fit l) : Ev (fun k => tachographref09_Same.f k l m) (same l m) := by
  unfold tachographref09_Same.f
  by_cases he : l.length = m.length
  · exact Ev.congr (fun k => by rw [if_pos (by omega)]; rfl) (ref_from l m he hl hf l.length 0 (by omega))
  · rw [same_len he]
    exact Ev.congr (f := fun _ => some false) (fun k => by rw [if_neg (by omega)]) (Ev.now _)
theorem clone_from (l : List Pred) (hl : l.length ≤ 1000) (hf : ∀ p ∈ l, p.f1.length ≤ 1000) : ∀ (n i : Nat) (acc : List Pred), n + i = l.length → acc.length = i → Ev (fun k => sig_Clone.l0 k acc l (l.length : Int) (i : Int)) (acc ++ l.drop i)
  | 0, i, acc => fun h ha => by
    rw [List.drop_eq_nil_of_le (by omega), List.append_nil]
    refine Ev.step (f := fun _ => some acc) (fun k => ?_) (Ev.now _)
    simp only [sig_Clone.l0]
    rw [if_neg (by omega)]
  | n + 1, i, acc => fun h ha => by
    have h1 : i < l.length := by omega
    have ih := clone_from l hl hf n (i + 1) (acc ++ [l[i]]) (by omega) (by simp [ha])
    rw [List.drop_eq_getElem_cons h1]
    rw [List.append_assoc, List.singleton_append] at ih
    refine Ev.step (f := fun k => sig_Clone.l0 k (acc ++ [l[i]]) l (l.length : Int) ((i + 1 : Nat) : Int)) (fun k => ?_) ih
    have hq := hf l[i] (List.getElem_mem _)
    simp only [sig_Clone.l0, slices_Clone_int_int.f]
    rw [if_pos (by omega), if_pos (by omega), if_pos (by omega), rdS l i h1, if_pos (by omega), Option.bind_some, if_pos (by omega), w64 (x := (i : Int) + 1) (by omega) (by omega)]
    rfl
theorem clone_ev (l : List Pred) (hl : l.length ≤ 1000) (hf : ∀ p ∈ l, p.f1.length ≤ 1000) : Ev (fun k => sig_Clone.f k l) l := clone_from l hl hf l.length 0 [] (by omega) rfl
def Low (n i : Nat) (c : List Pred) : Prop := c.length = n ∧ ∀ q (h : q < c.length), i ≤ q → c[q].f0.size ≤ 100 ∧ c[q].f1.length ≤ 1000
theorem low_set {n i : Nat} {c : List Pred} (h : Low n (i + 1) c) (p : Pred) : Low n (i + 1) (c.set i p) := by
  refine ⟨by rw [List.length_set]; exact h.1, fun q hq hle => ?_⟩
  rw [List.length_set] at hq
  rw [List.getElem_set_ne (by omega)]
  exact h.2 q hq hle
theorem in_from (a y : List Pred) (n i : Nat) (hi : i < n) (hn : n ≤ 1000) (hv : ∀ c, Low n (i + 1) c → Ev (fun k => tachographlaw09_SigSame.l0 k a c y (n : Int) ((i + 1 : Nat) : Int)) true) (m : Nat) (hm : m ≤ 1000) : ∀ (d j : Nat) (c : List Pred), d + j = m → Low n (i + 1) c → (hc : i < c.length) → c[i].f1.length = m →
    Ev (fun k => tachographlaw09_SigSame.l1 k a c y (i : Int) (n : Int) (i : Int) (m : Int) (j : Int)) true
  | 0, j, c => fun h hl hc hm => by
    refine Ev.step (f := fun k => tachographlaw09_SigSame.l0 k a c y (n : Int) ((i + 1 : Nat) : Int)) (fun k => ?_) (hv c hl)
    simp only [tachographlaw09_SigSame.l1]
    rw [if_neg (by omega), w64 (by omega) (by omega)]
    rfl
  | d + 1, j, c => fun h hl hc hm' => by
    have ih := in_from a y n i hi hn hv m hm d (j + 1) (c.set i ⟨c[i].f0, c[i].f1.set j (wrap64 (rd c[i].f1 (j : Int) + 1))⟩) (by omega) (low_set hl _) (by rw [List.length_set]; exact hc) (by rw [List.getElem_set_self]; simp only [List.length_set]; exact hm')
    refine Ev.step (f := fun k => tachographlaw09_SigSame.l1 k a (c.set i ⟨c[i].f0, c[i].f1.set j (wrap64 (rd c[i].f1 (j : Int) + 1))⟩) y (i : Int) (n : Int) (i : Int) (m : Int) ((j + 1 : Nat) : Int)) (fun k => ?_) ih
    simp only [tachographlaw09_SigSame.l1]
    rw [if_pos (by omega), if_pos (by omega), if_pos (by omega), if_pos (by omega), rdS c i hc, if_pos (by omega), w64 (x := (j : Int) + 1) (by omega) (by omega)]
    rfl
theorem out_from (a y : List Pred) (ha : a.length < 9223372036854775807) (hf : Fit a) (hy : same a y = true) (n : Nat) (hn : n ≤ 1000) : ∀ (d i : Nat) (c : List Pred), d + i = n → Low n i c → Ev (fun k => tachographlaw09_SigSame.l0 k a c y (n : Int) (i : Int)) true
  | 0, i, c => fun h hl => by
    refine Ev.step (f := fun k => (tachographlaw09_fixed.f k).bind fun t => if t = true then (tachographref09_Same.f k a y).bind fun t => some t else some false) (fun k => ?_) ?_
    · simp only [tachographlaw09_SigSame.l0]
      rw [if_neg (by omega)]
    · refine Ev.bind fixed_same ?_
      simp only [if_true]
      have r := rsame_ev a y ha hf
      rw [hy] at r
      exact Ev.bind r (Ev.now _)
  | d + 1, i, c => fun h hl => by
    have hc : i < c.length := by rw [hl.1]; omega
    obtain ⟨h1, h2⟩ := hl.2 i hc (Nat.le_refl _)
    have hl' : Low n (i + 1) c := ⟨hl.1, fun q hq hle => hl.2 q hq (by omega)⟩
    have r := in_from a y n i (by omega) hn (fun c hc => out_from a y ha hf hy n hn d (i + 1) c (by omega) hc) c[i].f1.length h2 c[i].f1.length 0 (c.set i ⟨c[i].f0 ++ ⟨#[120]⟩, c[i].f1⟩) rfl (low_set hl' _) (by rw [List.length_set]; exact hc) (by rw [List.getElem_set_self])
    refine Ev.step (f := fun k => tachographlaw09_SigSame.l1 k a (c.set i ⟨c[i].f0 ++ ⟨#[120]⟩, c[i].f1⟩) y (i : Int) (n : Int) (i : Int) (c[i].f1.length : Int) ((0 : Nat) : Int)) (fun k => ?_) r
    have hcl := hl.1
    simp only [tachographlaw09_SigSame.l0]
    rw [if_pos (by omega), if_pos (by omega), if_pos (by omega), rdS c i hc, if_pos (by omega), Option.bind_some, Int.toNat_natCast, rdS _ i (by rw [List.length_set]; exact hc), List.getElem_set_self]
    rfl
theorem great_not {l : List Pred} (h : ¬ great l = true) : l.length ≤ 100 ∧ ∀ p ∈ l, p.f1.length ≤ 30 ∧ p.f0.size ≤ 100 := by
  unfold great at h
  rw [Bool.or_eq_true, List.any_eq_true, decide_eq_true_eq] at h
  refine ⟨Nat.le_of_not_lt (fun hc => h (.inr hc)), fun p hp => ⟨Nat.le_of_not_lt (fun hc => h (.inl ⟨p, hp, ?_⟩)), Nat.le_of_not_lt (fun hc => h (.inl ⟨p, hp, ?_⟩))⟩⟩
  · rw [Bool.or_eq_true, decide_eq_true_eq]; exact .inl hc
  · rw [Bool.or_eq_true, decide_eq_true_eq, decide_eq_true_eq]; exact .inr hc
theorem SigSame : tachographlaw09_SigSame.Pure := by
  intro l m hl hm
  refine Ev.rounds ?_
  have hlen : l.length < 9223372036854775807 := by have := hl.2.1; omega
  have hlen2 : m.length < 9223372036854775807 := by have := hm.2.1; omega
  have hj : Ev (fun k => tachographlaw09_SigSame.j0 k l m true) true :=
    Ev.step (f := fun k => (tachographlaw09_fixed.f k).bind fun t => some t) (fun k => by simp only [tachographlaw09_SigSame.j0, if_true]) (Ev.bind fixed_same (Ev.now _))
  unfold tachographlaw09_SigSame.f
  refine Ev.bind (great_ev l hlen) ?_
  by_cases hg : great l = true
  · simp only [if_pos hg]; exact hj
  simp only [if_neg hg]
  refine Ev.bind (great_ev m hlen2) ?_
  by_cases hg2 : great m = true
  · rw [hg2]; exact hj
  rw [Bool.eq_false_iff.mpr hg2]
  obtain ⟨a1, a2⟩ := great_not hg
  obtain ⟨b1, b2⟩ := great_not hg2
  have fl : Fit l := fun p hp => by have := (a2 p hp).1; omega
  have fm : Fit m := fun p hp => by have := (b2 p hp).1; omega
  have cl := clone_ev l (by omega) (fun p hp => by have := (a2 p hp).1; omega)
  refine Ev.step (f := fun k => (sig_Clone.f k l).bind fun t190 => ((sig_Same.f k l m).bind fun t193 => ((tachographref09_Same.f k l m).bind fun t194 => (if (t193 != t194) = true then (tachographlaw09_SigSame.j1 k l t190 true) else ((sig_Same.f k m l).bind fun t195 => ((sig_Same.f k l m).bind fun t196 => (if (t195 != t196) = true then (tachographlaw09_SigSame.j1 k l t190 true) else ((sig_Same.f k l t190).bind fun t197 => (if t197 = true then ((tachographref09_Same.f k t190 l).bind fun t198 => (tachographlaw09_SigSame.j1 k l t190 (!t198))) else (tachographlaw09_SigSame.j1 k l t190 true)))))))))) (fun k => by simp only [tachographlaw09_SigSame.j0, Bool.false_eq_true, if_false]) ?_
  refine Ev.bind cl (Ev.bind (same_ev l m hlen fl) (Ev.bind (rsame_ev l m hlen fl) ?_))
  simp only [bne_self_eq_false, Bool.false_eq_true, if_false]
  have r := same_ev m l hlen2 fm
  rw [same_comm m l] at r
  refine Ev.bind r (Ev.bind (same_ev l m hlen fl) ?_)
  simp only [bne_self_eq_false, Bool.false_eq_true, if_false]
  have r1 := same_ev l l hlen fl
  have r2 := rsame_ev l l hlen fl
  rw [same_self] at r1 r2
  refine Ev.bind r1 ?_
  simp only [if_true]
  refine Ev.bind r2 ?_
  refine Ev.step (f := fun k => (sig_Clone.f k l).bind fun t6 => tachographlaw09_SigSame.l0 k l l t6 (l.length : Int) 0) (fun k => by simp only [tachographlaw09_SigSame.j1, Bool.not_true, Bool.false_eq_true, if_false]) ?_
  exact Ev.bind cl (out_from l l hlen fl (same_self l) l.length (by omega) l.length 0 l (by omega) ⟨rfl, fun q hq _ => ⟨(a2 _ (List.getElem_mem hq)).2, by have := (a2 _ (List.getElem_mem hq)).1; omega⟩⟩)
end Go.Proofs.Ytjfklfmfeghjnaa.Pure
