/- block.writers, walked: the array of what puts arguments; which of them an argument's type names. -/
import Derived.Test.YtmmfakdncjeoeaaDictPut
import Derived.WideLaws
namespace Go.Proofs.YtmmfakdncjeoeaaAid
open Go Go.RowKit Go.Maps Go.ChangeMaps Go.MapKept
open Go.Proofs.YtmmfakdncjeoeaaW.PrintWords Go.Proofs.YtmmfakdncjeoeaaW.PrintWords.Kd Go.Proofs.YtmmfakdncjeoeaaW.PrintLast Go.Proofs.YtmmfakdncjeoeaaW.PrintMore
set_option linter.unusedVariables false
set_option linter.unusedSimpArgs false

def wfs : Array Value := #[.nilFunc, .func (.func 75) #[] #[], .func (.func 77) #[] #[]]
section
variable {P : Program} {w : World} (a : Addr) (m : Mode)
theorem run_store_nilFunc : (store a .nilFunc m).run P w = stored P w a .nilFunc m := run_store P w a _ m rfl
theorem run_store_func (f : Fn) (x c : Array Value) : (store a (.func f x c) m).run P w = stored P w a (.func f x c) m := run_store P w a _ m rfl
end
attribute [local go_sem] run_store_nilFunc run_store_func
set_option maxHeartbeats 8000000 in
set_option maxRecDepth 100000 in
theorem writers_calls (w : World) :
    Calls Try.prog 58 #[] w fun e w' => e = .returned (.agg #[.nilFunc, .func (.func 75) #[] #[], .func (.func 77) #[] #[]]) ∧ Below w.heap.size w w' := by
  go_enter Try.func58, Try.ntmps58
  go_wp2
  exact bodyPost_ret (v := .agg #[.nilFunc, .func (.func 75) #[] #[], .func (.func 77) #[] #[]]) (by simp [results, Try.results58, go_sem]) rfl ⟨rfl, below_alloc (Below.refl _ _) _⟩
theorem writer_fn {t : Int} (ht : t = 1 ∨ t = 2) : ∃ (n : Nat) (fn : Func), wfs[t.toNat]? = some (.func (.func n) #[] #[]) ∧ (t = 1 ∧ n = 75 ∨ t = 2 ∧ n = 77) ∧ Try.prog.funcs[n]? = some fn ∧ (fn.name == "runtime.NumGoroutine") = false ∧ fn.body.isSome = true ∧ 0 ≤ t ∧ t < 3 := by
  rcases ht with rfl | rfl
  · exact ⟨75, _, rfl, .inl ⟨rfl, rfl⟩, Try.func75, by kernel_rfl, rfl, by decide, by decide⟩
  · exact ⟨77, _, rfl, .inr ⟨rfl, rfl⟩, Try.func77, by kernel_rfl, rfl, by decide, by decide⟩
end Go.Proofs.YtmmfakdncjeoeaaAid
