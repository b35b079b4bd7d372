-- Contracts of Go functions, each with its plain Lean function: written by wip/tools/myprint.py of this work (the kit's print, with contracts proved by hand spliced in).
import Derived.Test.YtjfklfmfeghjnacRows
import Derived.Test.YtjfklfmfeghjnacPQx6
import Derived.Test.YtjfklfmfeghjnacPureQuoteAll
import Derived.Test.YtjfklfmfeghjnacUpto
import Derived.WalkKit
import Derived.ProofKit
import Derived.OpenShut
import Derived.ShutString
import Derived.ChangeOld
import Derived.Below
import Derived.SizedLaws
import Derived.JoinedCond
namespace Go.Proofs.Ytjfklfmfeghjnac.quoteAll
open Go.ChangeShapes Go.WideShapes Go.ChangeAt Go.RowKit
open Go.ChangeMaps (open_string shut_string)
open Go.Proofs.YtjfklfmfeghjnacW.PrintWords Go.Proofs.Ytjfklfmfeghjnac.PQ
set_option linter.unusedVariables false
theorem own : ownKnob Try.prog.godebug = none := by kernel_rfl
theorem laidOut : laidOutB Try.prog = true := by kernel_rfl
set_option maxRecDepth 100000 in
theorem laid0 : Go.Proofs.YtjfklfmfeghjnacUpto.LaidU Try.prog 9 Kd.string Go.Proofs.YtjfklfmfeghjnacOpen.strOk Go.Proofs.YtjfklfmfeghjnacOpen.strBulk := (Go.Proofs.YtjfklfmfeghjnacUpto.laid_string Try.underlying9 (by kernel_rfl))
set_option maxRecDepth 100000 in
theorem lifted (os : Os) (started : os.Started) (H : Type) (enc : TypeId × Value → H) (F : Stop.Interp) :
    ReturnsInHanded {} Try.checked os 5 .any ((Rows.OpenSpec.upto Rows.quoteAllSpec).pre6 enc Try.prog Try.f5 Rows.quoteAllUptoRow.domain false) (((Rows.OpenSpec.upto Rows.quoteAllSpec).at F).post enc Try.prog Try.f5 false true false false) := by
  refine returnsInHanded_of_cond (C := Try.checked) (k := Rows.uptoSmall) rfl own started (by kernel_rfl) Try.func5
    (OpenSpec.witness (enc := enc) (C := Try.checked) (s := (Rows.OpenSpec.upto Rows.quoteAllSpec)) (k := Rows.uptoSmall) (x := ([.nil], [], [])) rfl false ⟨#[], #[.slice none 0 0], []⟩ 8 (by kernel_rfl) (by kernel_rfl) (by kernel_rfl) (by kernel_rfl) (by kernel_rfl) (by kernel_rfl)) ?_
  intro W base args ds gs before hval0 hW hcnd hk _
  have hval : ∀ (j : Nat) t v, Try.f5.params[j]? = some t → args[j]? = some v → Value.okWide Try.prog W .any base t v := hval0
  have hW' := hW
  obtain ⟨p, q, hA0, hV, rfl, hfz, hnd⟩ := hW
  have hA : DataW.TrodAll enc Try.prog W 0 (fun _ => true) true Try.f5.params.toList args.toList ds p := hA0
  rw [Try.params5] at hA hval
  obtain ⟨v0, vs0, d0, ds0, p0, q0, hargs, rfl, rfl, h0, r0⟩ := trodAll_cons hA
  obtain ⟨rfl, rfl, rfl⟩ := trodAll_nil r0
  obtain rfl : args = #[v0] := by cases args; simp_all
  obtain ⟨rfl, rfl⟩ := trodVars_none hV
  have hbk : Rows.uptoBulk d0 ≤ 1048576 := by have := hk; simp [Rows.uptoSmall, Rows.uptoBulkAll] at this; omega
  obtain ⟨a0, len0, cap0, rfl⟩ := okWide_slice Try.underlying31 (hval 0 31 v0 rfl rfl)
  have k0 := h0
  have lt0 : ∀ x ∈ p0, x.block < W.heap.size := by obtain ⟨m, hm⟩ := k0; exact DataW.trod_lt m _ _ _ hm
  obtain ⟨l0, rfl, e0, C0, w0, m0⟩ := Go.Proofs.YtjfklfmfeghjnacUpto.open_param Try.underlying31 (B := 16) (by decide) laid0 (by omega) h0 _ _ _ rfl
  clear hA0 hval0
  refine (tachographlaw20_QuoteAll.walk Pure.QuoteAll a0 cap0 l0 W w0 e0 C0 (by omega)).mono fun e W' ⟨he, bel⟩ => ?_
  subst he
  exact ⟨_, rfl, _, _, _, [], _, [], hW', trodAll_mk1 (shut_bool Try.underlying4 _), (trodAll_cons_mk (Below.trod laidOut (by kernel_rfl) (of_decide_eq_true (by kernel_rfl)) k0 bel lt0) trodAll_mk0), rfl, bel.frame _, fun h => by cases h⟩
theorem over : Rows.quoteAllUptoRow.holds Try.pinned (Rows.OpenSpec.upto Rows.quoteAllSpec) :=
  OpenClaim.holds_of_cond 5 Try.f5 rfl rfl rfl rfl rfl rfl rfl ⟨rfl, rfl, rfl, rfl, rfl⟩ rfl rfl rfl rfl rfl (by kernel_rfl) Try.func5 (by kernel_rfl)
    (of_decide_eq_true (by kernel_rfl)) (by unfold Func.isWrapper; first | (rw [if_pos (by decide +kernel)]; kernel_rfl) | (rw [if_neg (by decide +kernel)]; exact ⟨rfl, rfl⟩))
    (fun os started H enc _ F => lifted os started H enc F)
theorem proved : Rows.QuoteAllUptoSaid := over
#print axioms proved
end Go.Proofs.Ytjfklfmfeghjnac.quoteAll
namespace Go.Proofs.Ytjfklfmfeghjnac
/-- The row, under a short name, for the claim. -/
theorem quoteAllUpto_holds : Rows.QuoteAllUptoSaid := quoteAll.proved
end Go.Proofs.Ytjfklfmfeghjnac
