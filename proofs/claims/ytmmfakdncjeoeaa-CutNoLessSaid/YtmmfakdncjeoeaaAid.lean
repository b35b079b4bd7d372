/- Small laws that the hand-proved contracts of this work lean on: a range over a function whose body never leaves early; a box. -/
import Derived.RangeFuncNested
import Derived.RangeFuncBound
import Derived.RangeFuncCalls
import Derived.RangeFuncLeaves
import Derived.RangeFuncBox
import Derived.Shelf.Abstract
import Derived.Shelf.RegionOpen
import Derived.OwnWalkIn
import Derived.TacticsInMore
import Derived.LoopNIn
import Derived.LoopIn
import Derived.Lib.Hide
import Derived.IntWalk
import Derived.WalkSpells
import Derived.WalkKit
import Derived.Lib.ConvBytes
import Derived.Lib.SlBytesConst
import Derived.Test.YtmmfakdncjeoeaaWWords
import Derived.Test.YtmmfakdncjeoeaaWLast
namespace Go.Proofs.YtmmfakdncjeoeaaAid
open Go Go.RowKit

variable {F : Fence} {n : Nat} {P : Program}

def recOf (fn : FuncId) (tmps : Array Value) (ps : Array Tmp) (assign body : Code) (D : Nat) (st : LoopState) : Loop :=
  { state := st, pending := none, fn, tmps, params := ps, assign, body, defers := D }

theorem round_on {l : Nat} {fn : FuncId} {tmps : Array Value} {ps : Array Tmp} {assign body : Code} {D : Nat} {args : Array Value} {W : World} {R : World → Prop} {REC : LoopState → Loop}
    (hF : F.fn fn) (hrec : ∀ st, REC st = recOf fn tmps ps assign body D st) (hl : W.heap[l]? = some (.loop (REC .ready))) (hs : args.size = ps.size)
    (h : assign.wpIn (F.inRound l) n P (Exit.then (fun a1 w1 => w1.heap[l]? = some (.loop (REC .ready)) ∧
        body.wpIn (F.inRound l) n P (fun
          | .normal, _, w3 => w3.heap[l]? = some (.loop (REC .busy)) ∧ R (w3.putObj l (.loop (REC .ready)))
          | _, _, _ => False) a1 (w1.putObj l (.loop (REC .busy)))) (fun _ _ _ => False))
      { tmps := (ps.zip args).foldl (fun t (p, v) => t.setIfInBounds p v) tmps, defers := [] } W) :
    YieldAt F n P l args W fun e W' => e = .returned (.bool true) ∧ R W' := by
  simp only [hrec] at hl h
  have hy := run_yield (P := P) (args := args) hl hs
  refine ⟨fn, _, assign, body, hy, roundIn_of_wpIn hF (wpIn_mono h ?_)⟩
  rintro e a1 w1 hq
  cases e with
  | normal =>
    obtain ⟨hl1, hb⟩ := hq
    refine ⟨_, run_beginRound hl1 rfl, wpIn_mono hb ?_⟩
    rintro e a3 w3 hq
    cases e with
    | normal =>
      obtain ⟨hl3, hR⟩ := hq
      exact ⟨_, _, run_endRound none hl3, rfl, hR⟩
    | ret => exact hq.elim
    | exit id => exact hq.elim
    | goto t => exact hq.elim
    | panic c => exact hq.elim
    | outgrown => exact hq.elim
  | ret => exact hq.elim
  | exit id => exact hq.elim
  | goto t => exact hq.elim
  | panic c => exact hq.elim
  | outgrown => exact hq.elim

theorem range_on {g : Operand} {ps : Array Tmp} {assign body : Code} {Q : Exit → Act → World → Prop} {a : Act} {w : World}
    (hro : F.round = none) (h1 : 1 ≤ n) {gf : Nat} {lb : Array Value} (hg : a.eval g = .func (.func gf) #[] lb) (hFg : F.fn gf) (eg : ∀ args w, (callFunc gf args).run P w = .ok (.enter gf args) w)
    (h : ∀ fn (REC : LoopState → Loop), F.fn fn → (∀ st, REC st = recOf fn a.tmps ps assign body w.heap.size st) → CallsIn F (n - 1) P gf (#[.func (.yield (w.heap.size + 1)) #[] #[]] ++ lb)
      ((w.alloc (.deferred (some []))).alloc (.loop (REC .ready))) fun e W2 =>
        (∃ v, e = .returned v) ∧ W2.heap[w.heap.size + 1]? = some (.loop (REC .ready)) ∧
        Q .normal { a with defers := { target := .collected w.heap.size, args := #[] } :: a.defers } (W2.putObj (w.heap.size + 1) (.loop (REC .exhausted)))) :
    (Code.rangeFunc g ps assign body).wpIn F n P Q a w := by
  refine wpIn_rangeFunc ?_
  intro fn hfn
  rw [hro]
  obtain ⟨W1, hW1⟩ : ∃ W1, (w.alloc (.deferred (some []))).alloc (.loop (recOf fn a.tmps ps assign body w.heap.size .ready)) = W1 := ⟨_, rfl⟩
  have hc := h fn (recOf fn a.tmps ps assign body w.heap.size) hfn (fun _ => rfl)
  rw [hW1] at hc
  refine ⟨w.heap.size + 1, [{ target := .collected w.heap.size, args := #[] }], W1, { target := .fn (.func gf) lb, args := #[.func (.yield (w.heap.size + 1)) #[] #[]] }, W1, gf,
    #[.func (.yield (w.heap.size + 1)) #[] #[]] ++ lb, W1, ?_, ?_, ?_, ?_, fun _ => h1, ?_⟩
  · rw [← hW1]; exact run_enterLoop_outer fn a.tmps ps assign body
  · simp only [resolve, hg]
    simp [go_sem]
  · intro f' hf'; simp [Target.leads] at hf'; subst hf'; exact hFg
  · simp [invoke, go_sem, eg]
  · refine hc.mono ?_
    rintro e W2 ⟨⟨v, rfl⟩, hl, hq⟩
    exact ⟨none, _, run_endLoop hl (by simp [recOf]), hq⟩

open Go.Proofs.YtmmfakdncjeoeaaW.PrintWords Go.Proofs.YtmmfakdncjeoeaaW.PrintLast in
theorem goesVs_ {ops : Array Oper} {oi : Oper} {a : Act} {w : World} {Q : Exit → Act → World → Prop} {K : Act → World → Prop} {N : Option Tmp} {f : FuncId} {fn : Func} {as_ : Array Operand} {ts : Array TypeId} (hf : P.funcs[f]? = some fn) (hname : (fn.name == "runtime.NumGoroutine") = false) (hb : fn.body.isSome = true) (args caps : Array Value) (fo : Operand)
    (hw : Region.wanted oi (yielded ops a.tmps) = true) (hN : oi.dst = N) (hop : oi.op = .call { callee := .value fo, args := as_, argTypes := ts }) (hfo : a.eval fo = .func (.func f) #[] caps) (hargs : as_.map a.eval = args)
    (h : Calls P f (args ++ caps) w fun e w' => ∃ v, e = .returned v ∧ K (a.put N v) w') : if Region.wanted oi (yielded ops a.tmps) = true then Oper.wp P oi a w K Q else K (a.put N undef) w := by
  refine call_ f (args ++ caps) hw hN ?_ h
  have he := enters_ hf hname hb (args ++ caps) w
  unfold execOp
  simp [hop, resolve, Deferred.ofValue, invoke, hfo, hargs, he]
theorem ne_empty (l : List UInt8) : (!l.isEmpty) = (l != []) := by cases l <;> rfl
theorem eq_empty (l : List UInt8) : l.isEmpty = (l == []) := by cases l <;> rfl
theorem wrap_len (n : Nat) (h : n ≤ 18446744073709551615) : IntKind.u64.wrap ((n : Int)) = (n : Int) := by rw [IntKind.wrap_u64]; omega
end Go.Proofs.YtmmfakdncjeoeaaAid
