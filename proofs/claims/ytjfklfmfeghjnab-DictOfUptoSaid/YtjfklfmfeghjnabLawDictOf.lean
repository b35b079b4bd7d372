-- Contracts of Go functions, each with its plain Lean function: written by wip/tools/myprint.py of this work (the kit's print, with contracts proved by hand spliced in).
import Derived.Test.YtjfklfmfeghjnabRows
import Derived.Test.YtjfklfmfeghjnabPDx4
import Derived.Test.YtjfklfmfeghjnabPureDictOf
import Derived.Test.YtjfklfmfeghjnabUpto
import Derived.WalkKit
import Derived.ProofKit
import Derived.OpenShut
import Derived.ShutString
import Derived.ChangeOld
import Derived.Below
import Derived.SizedLaws
import Derived.JoinedCond
namespace Go.Proofs.Ytjfklfmfeghjnab.dictOf
open Go.ChangeShapes Go.WideShapes Go.ChangeAt Go.RowKit
open Go.ChangeMaps (open_string shut_string)
open Go.Proofs.YtjfklfmfeghjnabW.PrintWords Go.Proofs.Ytjfklfmfeghjnab.PD
set_option linter.unusedVariables false
theorem own : ownKnob Try.prog.godebug = none := by kernel_rfl
theorem laidOut : laidOutB Try.prog = true := by kernel_rfl
set_option maxRecDepth 100000 in
theorem laid0 : Go.Proofs.YtjfklfmfeghjnabUpto.LaidU Try.prog 44 k44 (fun b_ : S44 => (Go.Proofs.YtjfklfmfeghjnabOpen.pairOk (Go.Proofs.YtjfklfmfeghjnabOpen.intOk .u64) (Go.Proofs.YtjfklfmfeghjnabOpen.sliceOk 32 (fun b_ : S61 => (Go.Proofs.YtjfklfmfeghjnabOpen.pairOk (Go.Proofs.YtjfklfmfeghjnabOpen.intOk .i64) (Go.Proofs.YtjfklfmfeghjnabOpen.sliceOk 32 (fun b_ : S70 => (Go.Proofs.YtjfklfmfeghjnabOpen.pairOk (Go.Proofs.YtjfklfmfeghjnabOpen.intOk .i64) (Go.Proofs.YtjfklfmfeghjnabOpen.pairOk (Go.Proofs.YtjfklfmfeghjnabOpen.intOk .i64) Go.Proofs.YtjfklfmfeghjnabOpen.strOk)) (b_.f0, b_.f1, b_.f2)))) (b_.f0, b_.f1)))) (b_.f0, b_.f1)) (fun b_ : S44 => (Go.Proofs.YtjfklfmfeghjnabOpen.pairBulk Go.Proofs.YtjfklfmfeghjnabOpen.oneBulk (Go.Proofs.YtjfklfmfeghjnabOpen.sliceBulk (fun b_ : S61 => (Go.Proofs.YtjfklfmfeghjnabOpen.pairBulk Go.Proofs.YtjfklfmfeghjnabOpen.oneBulk (Go.Proofs.YtjfklfmfeghjnabOpen.sliceBulk (fun b_ : S70 => (Go.Proofs.YtjfklfmfeghjnabOpen.pairBulk Go.Proofs.YtjfklfmfeghjnabOpen.oneBulk (Go.Proofs.YtjfklfmfeghjnabOpen.pairBulk Go.Proofs.YtjfklfmfeghjnabOpen.oneBulk Go.Proofs.YtjfklfmfeghjnabOpen.strBulk)) (b_.f0, b_.f1, b_.f2)))) (b_.f0, b_.f1)))) (b_.f0, b_.f1)) := (Go.Proofs.YtjfklfmfeghjnabUpto.laid_iso (fun b_ : S44 => (b_.f0, b_.f1)) (fun p_ => ⟨p_.1, p_.2⟩) (fun _ => rfl) (Go.Proofs.YtjfklfmfeghjnabUpto.laid_struct Try.underlying44 (by kernel_rfl) (Go.Proofs.YtjfklfmfeghjnabUpto.laidF_cons (by rfl) (Go.Proofs.YtjfklfmfeghjnabUpto.laid_int Try.underlying41 (by kernel_rfl)) (Go.Proofs.YtjfklfmfeghjnabUpto.laidF_one (by rfl) (Go.Proofs.YtjfklfmfeghjnabUpto.laid_slice 61 Try.underlying42 (by kernel_rfl) (by decide) (Go.Proofs.YtjfklfmfeghjnabUpto.laid_iso (fun b_ : S61 => (b_.f0, b_.f1)) (fun p_ => ⟨p_.1, p_.2⟩) (fun _ => rfl) (Go.Proofs.YtjfklfmfeghjnabUpto.laid_struct Try.underlying61 (by kernel_rfl) (Go.Proofs.YtjfklfmfeghjnabUpto.laidF_cons (by rfl) (Go.Proofs.YtjfklfmfeghjnabUpto.laid_int Try.underlying3 (by kernel_rfl)) (Go.Proofs.YtjfklfmfeghjnabUpto.laidF_one (by rfl) (Go.Proofs.YtjfklfmfeghjnabUpto.laid_slice 70 Try.underlying59 (by kernel_rfl) (by decide) (Go.Proofs.YtjfklfmfeghjnabUpto.laid_iso (fun b_ : S70 => (b_.f0, b_.f1, b_.f2)) (fun p_ => ⟨p_.1, p_.2.1, p_.2.2⟩) (fun _ => rfl) (Go.Proofs.YtjfklfmfeghjnabUpto.laid_struct Try.underlying70 (by kernel_rfl) (Go.Proofs.YtjfklfmfeghjnabUpto.laidF_cons (by rfl) (Go.Proofs.YtjfklfmfeghjnabUpto.laid_int Try.underlying3 (by kernel_rfl)) (Go.Proofs.YtjfklfmfeghjnabUpto.laidF_cons (by rfl) (Go.Proofs.YtjfklfmfeghjnabUpto.laid_int Try.underlying2 (by kernel_rfl)) (Go.Proofs.YtjfklfmfeghjnabUpto.laidF_one (by rfl) (Go.Proofs.YtjfklfmfeghjnabUpto.laid_string Try.underlying9 (by kernel_rfl)))))))))))))))))
set_option maxRecDepth 100000 in
theorem lifted (os : Os) (started : os.Started) (H : Type) (enc : TypeId × Value → H) (F : Stop.Interp) :
    ReturnsInHanded {} Try.checked os 4 .any ((Rows.OpenSpec.upto Rows.dictOfSpec).pre6 enc Try.prog Try.f4 Rows.dictOfUptoRow.domain false) (((Rows.OpenSpec.upto Rows.dictOfSpec).at F).post enc Try.prog Try.f4 false true false false) := by
  refine returnsInHanded_of_cond (C := Try.checked) (k := Rows.uptoSmall) rfl own started (by kernel_rfl) Try.func4
    (OpenSpec.witness (enc := enc) (C := Try.checked) (s := (Rows.OpenSpec.upto Rows.dictOfSpec)) (k := Rows.uptoSmall) (x := ([.nil], [], [])) rfl false ⟨#[], #[.slice none 0 0], []⟩ 8 (by kernel_rfl) (by kernel_rfl) (by kernel_rfl) (by kernel_rfl) (by kernel_rfl) (by kernel_rfl)) ?_
  intro W base args ds gs before hval0 hW hcnd hk _
  have hval : ∀ (j : Nat) t v, Try.f4.params[j]? = some t → args[j]? = some v → Value.okWide Try.prog W .any base t v := hval0
  have hW' := hW
  obtain ⟨p, q, hA0, hV, rfl, hfz, hnd⟩ := hW
  have hA : DataW.TrodAll enc Try.prog W 0 (fun _ => true) true Try.f4.params.toList args.toList ds p := hA0
  rw [Try.params4] at hA hval
  obtain ⟨v0, vs0, d0, ds0, p0, q0, hargs, rfl, rfl, h0, r0⟩ := trodAll_cons hA
  obtain ⟨rfl, rfl, rfl⟩ := trodAll_nil r0
  obtain rfl : args = #[v0] := by cases args; simp_all
  obtain ⟨rfl, rfl⟩ := trodVars_none hV
  have hbk : Rows.uptoBulk d0 ≤ 1048576 := by have := hk; simp [Rows.uptoSmall, Rows.uptoBulkAll] at this; omega
  obtain ⟨a0, len0, cap0, rfl⟩ := okWide_slice Try.underlying37 (hval 0 37 v0 rfl rfl)
  have k0 := h0
  have lt0 : ∀ x ∈ p0, x.block < W.heap.size := by obtain ⟨m, hm⟩ := k0; exact DataW.trod_lt m _ _ _ hm
  obtain ⟨l0, rfl, e0, C0, w0, m0⟩ := Go.Proofs.YtjfklfmfeghjnabUpto.open_param Try.underlying37 (B := 32) (by decide) laid0 (by omega) h0 _ _ _ rfl
  clear hA0 hval0
  refine (tachographlaw13_DictOf.walk Pure.DictOf a0 cap0 l0 W w0 e0 C0 (by omega)).mono fun e W' ⟨he, bel⟩ => ?_
  subst he
  exact ⟨_, rfl, _, _, _, [], _, [], hW', trodAll_mk1 (shut_bool Try.underlying4 _), (trodAll_cons_mk (Below.trod laidOut (by kernel_rfl) (of_decide_eq_true (by kernel_rfl)) k0 bel lt0) trodAll_mk0), rfl, bel.frame _, fun h => by cases h⟩
theorem over : Rows.dictOfUptoRow.holds Try.pinned (Rows.OpenSpec.upto Rows.dictOfSpec) :=
  OpenClaim.holds_of_cond 4 Try.f4 rfl rfl rfl rfl rfl rfl rfl ⟨rfl, rfl, rfl, rfl, rfl⟩ rfl rfl rfl rfl rfl (by kernel_rfl) Try.func4 (by kernel_rfl)
    (of_decide_eq_true (by kernel_rfl)) (by unfold Func.isWrapper; first | (rw [if_pos (by decide +kernel)]; kernel_rfl) | (rw [if_neg (by decide +kernel)]; exact ⟨rfl, rfl⟩))
    (fun os started H enc _ F => lifted os started H enc F)
theorem proved : Rows.DictOfUptoSaid := over
#print axioms proved
end Go.Proofs.Ytjfklfmfeghjnab.dictOf
namespace Go.Proofs.Ytjfklfmfeghjnab
/-- The row, under a short name, for the claim. -/
theorem dictOfUpto_holds : Rows.DictOfUptoSaid := dictOf.proved
end Go.Proofs.Ytjfklfmfeghjnab
