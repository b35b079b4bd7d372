/- block.writers, walked: the array of what puts arguments; which of them an argument's type names. -/
import Derived.Test.YtjfklfmfeghjnabDictPut
import Derived.WideLaws
namespace Go.Proofs.YtjfklfmfeghjnabAid
open Go Go.RowKit Go.Maps Go.ChangeMaps Go.MapKept
open Go.Proofs.YtjfklfmfeghjnabW.PrintWords Go.Proofs.YtjfklfmfeghjnabW.PrintWords.Kd Go.Proofs.YtjfklfmfeghjnabW.PrintLast Go.Proofs.YtjfklfmfeghjnabW.PrintMore
set_option linter.unusedVariables false
set_option linter.unusedSimpArgs false

def wfs : Array Value := #[.nilFunc, .func (.func 121) #[] #[], .func (.func 123) #[] #[]]
section
variable {P : Program} {w : World} (a : Addr) (m : Mode)
theorem run_store_nilFunc : (store a .nilFunc m).run P w = stored P w a .nilFunc m := run_store P w a _ m rfl
theorem run_store_func (f : Fn) (x c : Array Value) : (store a (.func f x c) m).run P w = stored P w a (.func f x c) m := run_store P w a _ m rfl
end
attribute [local go_sem] run_store_nilFunc run_store_func
set_option maxHeartbeats 8000000 in
set_option maxRecDepth 100000 in
theorem writers_calls (w : World) :
    Calls Try.prog 117 #[] w fun e w' => e = .returned (.agg #[.nilFunc, .func (.func 121) #[] #[], .func (.func 123) #[] #[]]) ∧ Below w.heap.size w w' := by
  go_enter Try.func117, Try.ntmps117
  go_wp2
  exact bodyPost_ret (v := .agg #[.nilFunc, .func (.func 121) #[] #[], .func (.func 123) #[] #[]]) (by simp [results, Try.results117, go_sem]) rfl ⟨rfl, below_alloc (Below.refl _ _) _⟩
/-- The writer of a type. -/
theorem writer_fn {t : Int} (ht : t = 1 ∨ t = 2) : ∃ (n : Nat) (fn : Func), wfs[t.toNat]? = some (.func (.func n) #[] #[]) ∧ (t = 1 ∧ n = 121 ∨ t = 2 ∧ n = 123) ∧ Try.prog.funcs[n]? = some fn ∧ (fn.name == "runtime.NumGoroutine") = false ∧ fn.body.isSome = true ∧ 0 ≤ t ∧ t < 3 := by
  rcases ht with rfl | rfl
  · exact ⟨121, _, rfl, .inl ⟨rfl, rfl⟩, Try.func121, by kernel_rfl, rfl, by decide, by decide⟩
  · exact ⟨123, _, rfl, .inr ⟨rfl, rfl⟩, Try.func123, by kernel_rfl, rfl, by decide, by decide⟩
end Go.Proofs.YtjfklfmfeghjnabAid
