-- Contracts of Go functions, each with its plain Lean function: written by wip/tools/myprint.py of this work (the kit's print, with contracts proved by hand spliced in).
import Derived.Test.YtjfklfmfeghjnacRows
import Derived.Test.YtjfklfmfeghjnacPWx3
import Derived.Test.YtjfklfmfeghjnacPureWoundApplies
import Derived.Test.YtjfklfmfeghjnacUpto
import Derived.WalkKit
import Derived.ProofKit
import Derived.OpenShut
import Derived.ShutString
import Derived.ChangeOld
import Derived.Below
import Derived.SizedLaws
import Derived.JoinedCond
namespace Go.Proofs.Ytjfklfmfeghjnac.woundApplies
open Go.ChangeShapes Go.WideShapes Go.ChangeAt Go.RowKit
open Go.ChangeMaps (open_string shut_string)
open Go.Proofs.YtjfklfmfeghjnacW.PrintWords Go.Proofs.Ytjfklfmfeghjnac.PW
set_option linter.unusedVariables false
theorem own : ownKnob Try.prog.godebug = none := by kernel_rfl
theorem laidOut : laidOutB Try.prog = true := by kernel_rfl
set_option maxRecDepth 100000 in
theorem laid0 : Go.Proofs.YtjfklfmfeghjnacUpto.LaidU Try.prog 5 (Kd.int .u8) (Go.Proofs.YtjfklfmfeghjnacOpen.intOk .u8) Go.Proofs.YtjfklfmfeghjnacOpen.oneBulk := (Go.Proofs.YtjfklfmfeghjnacUpto.laid_int Try.underlying5 (by kernel_rfl))
set_option maxRecDepth 100000 in
theorem laid1 : Go.Proofs.YtjfklfmfeghjnacUpto.LaidU Try.prog 86 k86 (fun b_ : S86 => (Go.Proofs.YtjfklfmfeghjnacOpen.pairOk (Go.Proofs.YtjfklfmfeghjnacOpen.intOk .i64) (Go.Proofs.YtjfklfmfeghjnacOpen.pairOk (Go.Proofs.YtjfklfmfeghjnacOpen.intOk .i64) (Go.Proofs.YtjfklfmfeghjnacOpen.sliceOk 1 (Go.Proofs.YtjfklfmfeghjnacOpen.intOk .u8)))) (b_.f0, b_.f1, b_.f2)) (fun b_ : S86 => (Go.Proofs.YtjfklfmfeghjnacOpen.pairBulk Go.Proofs.YtjfklfmfeghjnacOpen.oneBulk (Go.Proofs.YtjfklfmfeghjnacOpen.pairBulk Go.Proofs.YtjfklfmfeghjnacOpen.oneBulk (Go.Proofs.YtjfklfmfeghjnacOpen.sliceBulk Go.Proofs.YtjfklfmfeghjnacOpen.oneBulk))) (b_.f0, b_.f1, b_.f2)) := (Go.Proofs.YtjfklfmfeghjnacUpto.laid_iso (fun b_ : S86 => (b_.f0, b_.f1, b_.f2)) (fun p_ => ⟨p_.1, p_.2.1, p_.2.2⟩) (fun _ => rfl) (Go.Proofs.YtjfklfmfeghjnacUpto.laid_struct Try.underlying86 (by kernel_rfl) (Go.Proofs.YtjfklfmfeghjnacUpto.laidF_cons (by rfl) (Go.Proofs.YtjfklfmfeghjnacUpto.laid_int Try.underlying3 (by kernel_rfl)) (Go.Proofs.YtjfklfmfeghjnacUpto.laidF_cons (by rfl) (Go.Proofs.YtjfklfmfeghjnacUpto.laid_int Try.underlying3 (by kernel_rfl)) (Go.Proofs.YtjfklfmfeghjnacUpto.laidF_one (by rfl) (Go.Proofs.YtjfklfmfeghjnacUpto.laid_slice 5 Try.underlying49 (by kernel_rfl) (by decide) (Go.Proofs.YtjfklfmfeghjnacUpto.laid_int Try.underlying5 (by kernel_rfl))))))))
set_option maxRecDepth 100000 in
theorem lifted (os : Os) (started : os.Started) (H : Type) (enc : TypeId × Value → H) (F : Stop.Interp) :
    ReturnsInHanded {} Try.checked os 9 .any ((Rows.OpenSpec.upto Rows.woundAppliesSpec).pre6 enc Try.prog Try.f9 Rows.woundAppliesUptoRow.domain false) (((Rows.OpenSpec.upto Rows.woundAppliesSpec).at F).post enc Try.prog Try.f9 false true false false) := by
  refine returnsInHanded_of_cond (C := Try.checked) (k := Rows.uptoSmall) rfl own started (by kernel_rfl) Try.func9
    (OpenSpec.witness (enc := enc) (C := Try.checked) (s := (Rows.OpenSpec.upto Rows.woundAppliesSpec)) (k := Rows.uptoSmall) (x := ([.nil, .nil], [], [])) rfl false ⟨#[], #[.slice none 0 0, .slice none 0 0], []⟩ 8 (by kernel_rfl) (by kernel_rfl) (by kernel_rfl) (by kernel_rfl) (by kernel_rfl) (by kernel_rfl)) ?_
  intro W base args ds gs before hval0 hW hcnd hk _
  have hval : ∀ (j : Nat) t v, Try.f9.params[j]? = some t → args[j]? = some v → Value.okWide Try.prog W .any base t v := hval0
  have hW' := hW
  obtain ⟨p, q, hA0, hV, rfl, hfz, hnd⟩ := hW
  have hA : DataW.TrodAll enc Try.prog W 0 (fun _ => true) true Try.f9.params.toList args.toList ds p := hA0
  rw [Try.params9] at hA hval
  obtain ⟨v0, vs0, d0, ds0, p0, q0, hargs, rfl, rfl, h0, r0⟩ := trodAll_cons hA
  obtain ⟨v1, vs1, d1, ds1, p1, q1, rfl, rfl, rfl, h1, r1⟩ := trodAll_cons r0
  obtain ⟨rfl, rfl, rfl⟩ := trodAll_nil r1
  obtain rfl : args = #[v0, v1] := by cases args; simp_all
  obtain ⟨rfl, rfl⟩ := trodVars_none hV
  have hbk : Rows.uptoBulk d0 + Rows.uptoBulk d1 ≤ 1048576 := by have := hk; simp [Rows.uptoSmall, Rows.uptoBulkAll] at this; omega
  obtain ⟨a0, len0, cap0, rfl⟩ := okWide_slice Try.underlying49 (hval 0 49 v0 rfl rfl)
  have k0 := h0
  have lt0 : ∀ x ∈ p0, x.block < W.heap.size := by obtain ⟨m, hm⟩ := k0; exact DataW.trod_lt m _ _ _ hm
  obtain ⟨l0, rfl, e0, C0, w0, m0⟩ := Go.Proofs.YtjfklfmfeghjnacUpto.open_param Try.underlying49 (B := 1) (by decide) laid0 (by omega) h0 _ _ _ rfl
  obtain ⟨a1, len1, cap1, rfl⟩ := okWide_slice Try.underlying50 (hval 1 50 v1 rfl rfl)
  have k1 := h1
  have lt1 : ∀ x ∈ p1, x.block < W.heap.size := by obtain ⟨m, hm⟩ := k1; exact DataW.trod_lt m _ _ _ hm
  obtain ⟨l1, rfl, e1, C1, w1, m1⟩ := Go.Proofs.YtjfklfmfeghjnacUpto.open_param Try.underlying50 (B := 40) (by decide) laid1 (by omega) h1 _ _ _ rfl
  clear hA0 hval0
  refine (tachographlaw25_WoundApplies.walk Pure.WoundApplies a0 cap0 l0 a1 cap1 l1 W w0 e0 C0 w1 e1 C1 (by omega)).mono fun e W' ⟨he, bel⟩ => ?_
  subst he
  exact ⟨_, rfl, _, _, _, [], _, [], hW', trodAll_mk1 (shut_bool Try.underlying4 _), (trodAll_cons_mk (Below.trod laidOut (by kernel_rfl) (of_decide_eq_true (by kernel_rfl)) k0 bel lt0) (trodAll_cons_mk (Below.trod laidOut (by kernel_rfl) (of_decide_eq_true (by kernel_rfl)) k1 bel lt1) trodAll_mk0)), rfl, bel.frame _, fun h => by cases h⟩
theorem over : Rows.woundAppliesUptoRow.holds Try.pinned (Rows.OpenSpec.upto Rows.woundAppliesSpec) :=
  OpenClaim.holds_of_cond 9 Try.f9 rfl rfl rfl rfl rfl rfl rfl ⟨rfl, rfl, rfl, rfl, rfl⟩ rfl rfl rfl rfl rfl (by kernel_rfl) Try.func9 (by kernel_rfl)
    (of_decide_eq_true (by kernel_rfl)) (by unfold Func.isWrapper; first | (rw [if_pos (by decide +kernel)]; kernel_rfl) | (rw [if_neg (by decide +kernel)]; exact ⟨rfl, rfl⟩))
    (fun os started H enc _ F => lifted os started H enc F)
theorem proved : Rows.WoundAppliesUptoSaid := over
#print axioms proved
end Go.Proofs.Ytjfklfmfeghjnac.woundApplies
namespace Go.Proofs.Ytjfklfmfeghjnac
/-- The row, under a short name, for the claim. -/
theorem woundAppliesUpto_holds : Rows.WoundAppliesUptoSaid := woundApplies.proved
end Go.Proofs.Ytjfklfmfeghjnac
