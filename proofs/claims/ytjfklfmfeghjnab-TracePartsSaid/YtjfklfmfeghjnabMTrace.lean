/- Plain laws on traces (layer 12): why a trace isn't of a signature, in the program and in the reference. -/
import Derived.Test.YtjfklfmfeghjnabMSig
import Derived.Test.YtjfklfmfeghjnabPTx4
import Derived.Test.YtjfklfmfeghjnabPTx5
import Derived.Test.YtjfklfmfeghjnabPTx6
import Derived.Test.YtjfklfmfeghjnabPTx9
set_option linter.unusedVariables false
namespace Go.Proofs.Ytjfklfmfeghjnab.MTrace
open Go.RowKit Go.Proofs.Ytjfklfmfeghjnab.PT Go.Proofs.Ytjfklfmfeghjnab.MSig Go.Proofs.Ytjfklfmfeghjnab.MBase Go.Proofs.YtjfklfmfeghjnabW.PrintWords Go.Proofs.YtjfklfmfeghjnabW.PrintLast Go.Proofs.YtjfklfmfeghjnabW.PrintMore

abbrev Arg := S70
abbrev Event := S61
abbrev Point := S44
theorem rd_pt (l : List Point) (i : Nat) : rd_T44 l (i : Int) = l.getD i z44 := by simp [rd_T44]
theorem rd_e (l : List Event) (i : Nat) : rd_T61 l (i : Int) = l.getD i z61 := by simp [rd_T61]
theorem rd_a (l : List Arg) (i : Nat) : rd_T70 l (i : Int) = l.getD i z70 := by simp [rd_T70]

/-! ### an argument -/
def argb (t : Int) (a : Arg) : Bool := (decide (t = 1) && (a.f2.toList != ([] : List UInt8))) || (decide (t = 2) && (a.f1 != 0))
def argc (t : Int) (a : Arg) : Int := if a.f0 = t then (if argb t a = true then 1 else if (a.f2.size : Int) > 200 then 6 else 0) else 7
theorem arg_j1 (b : Bool) (a : Arg) : Ev (fun k => trace_arg.j1 k b a.f0 a.f1 a.f2) (if b = true then 1 else if (a.f2.size : Int) > 200 then 6 else 0) := by
  refine Ev.step (f := fun _ => some (if b = true then 1 else if (a.f2.size : Int) > 200 then 6 else 0)) (fun k => ?_) (Ev.now _)
  simp only [trace_arg.j1]
  cases b
  · by_cases h : (a.f2.size : Int) > 200
    · simp [h]
    · simp [h]
  · rfl
theorem arg_j0 (t : Int) (b : Bool) (a : Arg) : Ev (fun k => trace_arg.j0 k t b a.f0 a.f1 a.f2) (if (b || (decide (t = 2) && (a.f1 != 0))) = true then 1 else if (a.f2.size : Int) > 200 then 6 else 0) := by
  cases b
  · by_cases h : t = 2
    · refine Ev.step (f := fun k => trace_arg.j1 k (a.f1 != 0) a.f0 a.f1 a.f2) (fun k => by simp only [trace_arg.j0]; rw [if_neg (by simp), if_pos h]) ?_
      have := arg_j1 (a.f1 != 0) a
      rw [decide_eq_true h, Bool.true_and, Bool.false_or]
      exact this
    · refine Ev.step (f := fun k => trace_arg.j1 k false a.f0 a.f1 a.f2) (fun k => by simp only [trace_arg.j0]; rw [if_neg (by simp), if_neg h]) ?_
      rw [decide_eq_false h, Bool.false_and, Bool.false_or]
      exact arg_j1 false a
  · refine Ev.step (f := fun k => trace_arg.j1 k true a.f0 a.f1 a.f2) (fun k => by simp only [trace_arg.j0, if_true]) ?_
    rw [Bool.true_or]
    exact arg_j1 true a
theorem arg_ev (t : Int) (a : Arg) : Ev (fun k => trace_arg.f k t a.f0 a.f1 a.f2) (argc t a) := by
  unfold trace_arg.f argc argb
  by_cases h : a.f0 = t
  · simp only [if_pos h]
    by_cases h1 : t = 1
    · simp only [h1, decide_true, Bool.true_and, if_true]
      have := arg_j0 1 (a.f2.toList != ([] : List UInt8)) a
      exact this
    · simp only [if_neg h1, decide_eq_false h1, Bool.false_and]
      exact arg_j0 t false a
  · simp only [if_neg h]
    exact Ev.now _

/-! ### an event -/
def argsc (ts : List Int) (xs : List Arg) : Nat → Nat → Int
  | 0, _ => 0
  | n + 1, i => if argc (rd ts (i : Int)) (rd_T70 xs (i : Int)) = 0 then argsc ts xs n (i + 1) else argc (rd ts (i : Int)) (rd_T70 xs (i : Int))
def evc (sig : List Pred) (e : Event) : Int :=
  if e.f0 < 0 ∨ e.f0 ≥ (sig.length : Int) then 9 else if ((rd_T106 sig e.f0).f1.length : Int) = (e.f1.length : Int) then argsc (rd_T106 sig e.f0).f1 e.f1 e.f1.length 0 else 1
theorem args_from (ts : List Int) (p : Int) (xs : List Arg) (he : ts.length = xs.length) (hm : xs.length < 9223372036854775807) : ∀ (n i : Nat), n + i = xs.length → Ev (fun k => trace_Event.l0 k ts (ts.length : Int) (i : Int) p xs) (argsc ts xs n i)
  | 0, i => fun hn => by
    refine Ev.step (f := fun _ => some 0) (fun k => ?_) (Ev.now _)
    simp only [trace_Event.l0]
    rw [if_neg (by omega)]
  | n + 1, i => fun hn => by
    have ih := args_from ts p xs he hm n (i + 1) (by omega)
    refine Ev.step (f := fun k => (trace_arg.f k (rd ts (i : Int)) ((rd_T70 xs (i : Int)).f0) ((rd_T70 xs (i : Int)).f1) ((rd_T70 xs (i : Int)).f2)).bind fun t115 => (if t115 = 0 then (trace_Event.l0 k ts (ts.length : Int) ((i + 1 : Nat) : Int) p xs) else (some t115))) (fun k => ?_) (Ev.bind (arg_ev _ _) ?_)
    · simp only [trace_Event.l0]
      rw [if_pos (by omega), if_pos (by omega), if_pos (by omega), if_pos (by omega), w64 (by omega) (by omega)]
      rfl
    · simp only [argsc]
      by_cases h : argc (rd ts (i : Int)) (rd_T70 xs (i : Int)) = 0
      · simp only [if_pos h]
        exact ih
      · simp only [if_neg h]
        exact Ev.now _
theorem event_ev (sig : List Pred) (e : Event) (hm : e.f1.length < 9223372036854775807) : Ev (fun k => trace_Event.f k sig e.f0 e.f1) (evc sig e) := by
  unfold trace_Event.f evc
  by_cases h1 : e.f0 < 0
  · rw [if_pos (Or.inl h1)]
    simp only [if_pos h1]
    exact Ev.step (f := fun _ => some 9) (fun k => by simp only [trace_Event.j0, if_true]) (Ev.now _)
  · simp only [if_neg h1]
    by_cases h2 : e.f0 ≥ (sig.length : Int)
    · rw [if_pos (Or.inr h2), decide_eq_true h2]
      exact Ev.step (f := fun _ => some 9) (fun k => by simp only [trace_Event.j0, if_true]) (Ev.now _)
    · rw [if_neg (by omega), decide_eq_false h2]
      by_cases h3 : ((rd_T106 sig e.f0).f1.length : Int) = (e.f1.length : Int)
      · rw [if_pos h3]
        refine Ev.step (f := fun k => trace_Event.l0 k (rd_T106 sig e.f0).f1 ((rd_T106 sig e.f0).f1.length : Int) 0 e.f0 e.f1) (fun k => ?_) (args_from _ e.f0 e.f1 (by omega) hm e.f1.length 0 (by omega))
        simp only [trace_Event.j0]
        rw [if_neg (by simp), if_pos (by omega), if_pos (by omega), if_pos h3]
      · rw [if_neg h3]
        refine Ev.step (f := fun _ => some 1) (fun k => ?_) (Ev.now _)
        simp only [trace_Event.j0]
        rw [if_neg (by simp), if_pos (by omega), if_pos (by omega), if_neg h3]
/-- The reference's. -/
theorem rargs_from (p : Int) (nm : ByteArray) (ts : List Int) (xs : List Arg) (he : ts.length = xs.length) (hm : xs.length < 9223372036854775807) : ∀ (n i : Nat), n + i = xs.length → Ev (fun k => tachographref12_Event.l0 k (i : Int) p xs nm ts) (argsc ts xs n i)
  | 0, i => fun hn => by
    refine Ev.step (f := fun _ => some 0) (fun k => ?_) (Ev.now _)
    simp only [tachographref12_Event.l0]
    rw [if_neg (by omega)]
  | n + 1, i => fun hn => by
    have ih := rargs_from p nm ts xs he hm n (i + 1) (by omega)
    obtain ⟨a, ha⟩ : ∃ a, rd_T70 xs (i : Int) = a := ⟨_, rfl⟩
    obtain ⟨t, ht⟩ : ∃ t, rd ts (i : Int) = t := ⟨_, rfl⟩
    have hj : ∀ b : Bool, Ev (fun k => tachographref12_Event.j2 k (i : Int) b p xs nm ts a.f0 a.f1 a.f2) (if b = true then 1 else if (a.f2.size : Int) > 200 then 6 else argsc ts xs n (i + 1)) := by
      intro b
      refine Ev.step (f := fun k => if b = true then some 1 else if (a.f2.size : Int) > 200 then some 6 else tachographref12_Event.l0 k ((i + 1 : Nat) : Int) p xs nm ts) (fun k => ?_) ?_
      · simp only [tachographref12_Event.j2]
        rw [w64 (by omega) (by omega)]
        rfl
      · by_cases hb : b = true
        · simp only [if_pos hb]
          exact Ev.now _
        · simp only [if_neg hb]
          by_cases h6 : (a.f2.size : Int) > 200
          · simp only [if_pos h6]
            exact Ev.now _
          · simp only [if_neg h6]
            exact ih
    simp only [argsc, ha, ht]
    by_cases h0 : a.f0 = t
    · have e1 : (if argc t a = 0 then argsc ts xs n (i + 1) else argc t a) = (if argb t a = true then 1 else if (a.f2.size : Int) > 200 then 6 else argsc ts xs n (i + 1)) := by
        unfold argc
        rw [if_pos h0]
        by_cases hb : argb t a = true
        · rw [if_pos hb, if_pos hb]; rfl
        · rw [if_neg hb, if_neg hb]
          by_cases h6 : (a.f2.size : Int) > 200
          · rw [if_pos h6, if_pos h6]; rfl
          · rw [if_neg h6, if_neg h6]; rfl
      rw [e1]
      refine Ev.step (f := fun k => tachographref12_Event.j2 k (i : Int) (argb t a) p xs nm ts a.f0 a.f1 a.f2) (fun k => ?_) (hj _)
      simp only [tachographref12_Event.l0, ha, ht]
      rw [if_pos (by omega), if_pos (by omega), if_pos (by omega), if_pos h0]
      unfold argb
      rw [← h0]
      by_cases h1 : a.f0 = 1
      · rw [if_pos h1, decide_eq_true h1, Bool.true_and]
        by_cases h2 : a.f2.toList = ([] : List UInt8)
        · rw [if_pos h2, if_neg (by omega), decide_eq_false (by omega : ¬ a.f0 = 2), Bool.false_and, Bool.or_false, h2]
          rfl
        · rw [if_neg h2, bne_iff_ne.2 h2, Bool.true_or]
      · rw [if_neg h1, decide_eq_false h1, Bool.false_and, Bool.false_or]
        by_cases h2 : a.f0 = 2
        · rw [if_pos h2, decide_eq_true h2, Bool.true_and]
        · rw [if_neg h2, decide_eq_false h2, Bool.false_and]
    · have e1 : argc t a = 7 := by unfold argc; rw [if_neg h0]
      rw [e1, if_neg (by decide)]
      refine Ev.step (f := fun _ => some 7) (fun k => ?_) (Ev.now _)
      simp only [tachographref12_Event.l0, ha, ht]
      rw [if_pos (by omega), if_pos (by omega), if_pos (by omega), if_neg h0]
theorem revent_ev (sig : List Pred) (e : Event) (hm : e.f1.length < 9223372036854775807) : Ev (fun k => tachographref12_Event.f k sig e.f0 e.f1) (evc sig e) := by
  unfold tachographref12_Event.f evc
  by_cases h1 : e.f0 < 0
  · rw [if_pos (Or.inl h1)]
    simp only [if_pos h1]
    exact Ev.step (f := fun _ => some 9) (fun k => by simp only [tachographref12_Event.j0, if_true]) (Ev.now _)
  · simp only [if_neg h1]
    by_cases h2 : e.f0 ≥ (sig.length : Int)
    · rw [if_pos (Or.inr h2), decide_eq_true h2]
      exact Ev.step (f := fun _ => some 9) (fun k => by simp only [tachographref12_Event.j0, if_true]) (Ev.now _)
    · rw [if_neg (by omega), decide_eq_false h2]
      by_cases h3 : ((rd_T106 sig e.f0).f1.length : Int) = (e.f1.length : Int)
      · rw [if_pos h3]
        refine Ev.step (f := fun k => tachographref12_Event.l0 k 0 e.f0 e.f1 (rd_T106 sig e.f0).f0 (rd_T106 sig e.f0).f1) (fun k => ?_) (rargs_from e.f0 _ _ e.f1 (by omega) hm e.f1.length 0 (by omega))
        simp only [tachographref12_Event.j0]
        rw [if_neg (by simp), if_pos (by omega), if_pos (by omega), if_pos h3]
      · rw [if_neg h3]
        refine Ev.step (f := fun _ => some 1) (fun k => ?_) (Ev.now _)
        simp only [tachographref12_Event.j0]
        rw [if_neg (by simp), if_pos (by omega), if_pos (by omega), if_neg h3]
end Go.Proofs.Ytjfklfmfeghjnab.MTrace
