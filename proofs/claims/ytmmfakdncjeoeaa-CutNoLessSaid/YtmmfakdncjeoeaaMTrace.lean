/- Plain laws on traces (layer 12): why a trace isn't of a signature, in the program and in the reference. -/
import Derived.Test.YtmmfakdncjeoeaaMSig
import Derived.Test.YtmmfakdncjeoeaaPCx2
import Derived.Test.YtmmfakdncjeoeaaPCx3
set_option linter.unusedVariables false
namespace Go.Proofs.Ytmmfakdncjeoeaa.MTrace
open Go.RowKit Go.Proofs.Ytmmfakdncjeoeaa.PC Go.Proofs.Ytmmfakdncjeoeaa.MSig Go.Proofs.Ytmmfakdncjeoeaa.MBase Go.Proofs.YtmmfakdncjeoeaaW.PrintWords Go.Proofs.YtmmfakdncjeoeaaW.PrintLast Go.Proofs.YtmmfakdncjeoeaaW.PrintMore

abbrev Arg := S61
abbrev Event := S59
abbrev Point := S56
theorem rd_pt (l : List Point) (i : Nat) : rd_T56 l (i : Int) = l.getD i z56 := by simp [rd_T56]
theorem rd_e (l : List Event) (i : Nat) : rd_T59 l (i : Int) = l.getD i z59 := by simp [rd_T59]
theorem rd_a (l : List Arg) (i : Nat) : rd_T61 l (i : Int) = l.getD i z61 := by simp [rd_T61]

/-! ### an argument -/
def argb (t : Int) (a : Arg) : Bool := (decide (t = 1) && (a.f2.toList != ([] : List UInt8))) || (decide (t = 2) && (a.f1 != 0))
def argc (t : Int) (a : Arg) : Int := if a.f0 = t then (if argb t a = true then 1 else if (a.f2.size : Int) > 200 then 6 else 0) else 7
theorem arg_j1 (b : Bool) (a : Arg) : Ev (fun k => trace_arg.j1 k b a.f0 a.f1 a.f2) (if b = true then 1 else if (a.f2.size : Int) > 200 then 6 else 0) := by
  refine Ev.step (f := fun _ => some (if b = true then 1 else if (a.f2.size : Int) > 200 then 6 else 0)) (fun k => ?_) (Ev.now _)
  simp only [trace_arg.j1]
  cases b
  · by_cases h : (a.f2.size : Int) > 200
    · simp [h]
    · simp [h]
  · rfl
theorem arg_j0 (t : Int) (b : Bool) (a : Arg) : Ev (fun k => trace_arg.j0 k t b a.f0 a.f1 a.f2) (if (b || (decide (t = 2) && (a.f1 != 0))) = true then 1 else if (a.f2.size : Int) > 200 then 6 else 0) := by
  cases b
  · by_cases h : t = 2
    · refine Ev.step (f := fun k => trace_arg.j1 k (a.f1 != 0) a.f0 a.f1 a.f2) (fun k => by simp only [trace_arg.j0]; rw [if_neg (by simp), if_pos h]) ?_
      have := arg_j1 (a.f1 != 0) a
      rw [decide_eq_true h, Bool.true_and, Bool.false_or]
      exact this
    · refine Ev.step (f := fun k => trace_arg.j1 k false a.f0 a.f1 a.f2) (fun k => by simp only [trace_arg.j0]; rw [if_neg (by simp), if_neg h]) ?_
      rw [decide_eq_false h, Bool.false_and, Bool.false_or]
      exact arg_j1 false a
  · refine Ev.step (f := fun k => trace_arg.j1 k true a.f0 a.f1 a.f2) (fun k => by simp only [trace_arg.j0, if_true]) ?_
    rw [Bool.true_or]
    exact arg_j1 true a
theorem arg_ev (t : Int) (a : Arg) : Ev (fun k => trace_arg.f k t a.f0 a.f1 a.f2) (argc t a) := by
  unfold trace_arg.f argc argb
  by_cases h : a.f0 = t
  · simp only [if_pos h]
    by_cases h1 : t = 1
    · simp only [h1, decide_true, Bool.true_and, if_true]
      have := arg_j0 1 (a.f2.toList != ([] : List UInt8)) a
      exact this
    · simp only [if_neg h1, decide_eq_false h1, Bool.false_and]
      exact arg_j0 t false a
  · simp only [if_neg h]
    exact Ev.now _

/-! ### an event -/
def argsc (ts : List Int) (xs : List Arg) : Nat → Nat → Int
  | 0, _ => 0
  | n + 1, i => if argc (rd ts (i : Int)) (rd_T61 xs (i : Int)) = 0 then argsc ts xs n (i + 1) else argc (rd ts (i : Int)) (rd_T61 xs (i : Int))
def evc (sig : List Pred) (e : Event) : Int :=
  if e.f0 < 0 ∨ e.f0 ≥ (sig.length : Int) then 9 else if ((rd_T53 sig e.f0).f1.length : Int) = (e.f1.length : Int) then argsc (rd_T53 sig e.f0).f1 e.f1 e.f1.length 0 else 1
theorem args_from (ts : List Int) (p : Int) (xs : List Arg) (he : ts.length = xs.length) (hm : xs.length < 9223372036854775807) : ∀ (n i : Nat), n + i = xs.length → Ev (fun k => trace_Event.l0 k ts (ts.length : Int) (i : Int) p xs) (argsc ts xs n i)
  | 0, i => fun hn => by
    refine Ev.step (f := fun _ => some 0) (fun k => ?_) (Ev.now _)
    simp only [trace_Event.l0]
    rw [if_neg (by omega)]
  | n + 1, i => fun hn => by
    have ih := args_from ts p xs he hm n (i + 1) (by omega)
    refine Ev.step (f := fun k => (trace_arg.f k (rd ts (i : Int)) ((rd_T61 xs (i : Int)).f0) ((rd_T61 xs (i : Int)).f1) ((rd_T61 xs (i : Int)).f2)).bind fun t115 => (if t115 = 0 then (trace_Event.l0 k ts (ts.length : Int) ((i + 1 : Nat) : Int) p xs) else (some t115))) (fun k => ?_) (Ev.bind (arg_ev _ _) ?_)
    · simp only [trace_Event.l0]
      rw [if_pos (by omega), if_pos (by omega), if_pos (by omega), if_pos (by omega), w64 (by omega) (by omega)]
      rfl
    · simp only [argsc]
      by_cases h : argc (rd ts (i : Int)) (rd_T61 xs (i : Int)) = 0
      · simp only [if_pos h]
        exact ih
      · simp only [if_neg h]
        exact Ev.now _
theorem event_ev (sig : List Pred) (e : Event) (hm : e.f1.length < 9223372036854775807) : Ev (fun k => trace_Event.f k sig e.f0 e.f1) (evc sig e) := by
  unfold trace_Event.f evc
  by_cases h1 : e.f0 < 0
  · rw [if_pos (Or.inl h1)]
    simp only [if_pos h1]
    exact Ev.step (f := fun _ => some 9) (fun k => by simp only [trace_Event.j0, if_true]) (Ev.now _)
  · simp only [if_neg h1]
    by_cases h2 : e.f0 ≥ (sig.length : Int)
    · rw [if_pos (Or.inr h2), decide_eq_true h2]
      exact Ev.step (f := fun _ => some 9) (fun k => by simp only [trace_Event.j0, if_true]) (Ev.now _)
    · rw [if_neg (by omega), decide_eq_false h2]
      by_cases h3 : ((rd_T53 sig e.f0).f1.length : Int) = (e.f1.length : Int)
      · rw [if_pos h3]
        refine Ev.step (f := fun k => trace_Event.l0 k (rd_T53 sig e.f0).f1 ((rd_T53 sig e.f0).f1.length : Int) 0 e.f0 e.f1) (fun k => ?_) (args_from _ e.f0 e.f1 (by omega) hm e.f1.length 0 (by omega))
        simp only [trace_Event.j0]
        rw [if_neg (by simp), if_pos (by omega), if_pos (by omega), if_pos h3]
      · rw [if_neg h3]
        refine Ev.step (f := fun _ => some 1) (fun k => ?_) (Ev.now _)
        simp only [trace_Event.j0]
        rw [if_neg (by simp), if_pos (by omega), if_pos (by omega), if_neg h3]
end Go.Proofs.Ytmmfakdncjeoeaa.MTrace
