/- SigtextPrints: the row (with what its variables read as), and the tied card. -/
import Derived.Test.YtmmfakdncjeoeacDoorRows
import Derived.Test.YtmmfakdncjeoeacDoorCards
import Derived.Test.YtmmfakdncjeoeacDoorTie
import Derived.Test.YtmmfakdncjeoeacDoorShaped
import Derived.Test.YtmmfakdncjeoeacDoorWords
import Derived.Test.YtmmfakdncjeoeacDoorPEx13
import Derived.Test.YtmmfakdncjeoeacDoorPureSigtextPrints
import Derived.WalkKit
import Derived.ProofKit
import Derived.OpenShut
import Derived.ShutString
import Derived.ChangeOld
import Derived.Below
import Derived.SizedLaws
import Derived.Test.YtmmfakdncjeoeacDoorWSized
import Derived.LaidMore
import Derived.OpenVars
import Derived.Lay
import Derived.LaidOnce
import Derived.Stop.Joined
import Derived.SevenTiedAt
namespace Go.Proofs.YtmmfakdncjeoeacDoor.sigtextPrints
open Go.ChangeShapes Go.WideShapes Go.ChangeAt Go.RowKit
open Go.ChangeMaps (open_string shut_string)
open Go.WideMaps Go.WideElems
set_option linter.unusedVariables false
theorem own : ownKnob Tryd.prog.godebug = none := by kernel_rfl
theorem laidOut : laidOutB Tryd.prog = true := by kernel_rfl
theorem gW : Tryd.prog.globalNamed "tachograph/sigtext.words" = some 0 := by kernel_rfl
theorem tW : (Tryd.prog.globals[0]?).map (·.type) = some 67 := by kernel_rfl
theorem glob_of {W : World} (h : laidMetH Tryd.prog Rows.sigtextPrintsRow.laid W) (hsh : W.ShapedOpen Tryd.prog) : Go.Proofs.YtmmfakdncjeoeacDoorAid.Glob W := by
  refine ⟨cell_of_shapedOpen_int (P := Tryd.prog) (g := 1) (t := 3) (zero := #[.int .i64 0]) hsh (of_decide_eq_true (by kernel_rfl)) (by kernel_rfl) rfl (by kernel_rfl) (by kernel_rfl) Tryd.underlying3, ?_⟩
  rw [MakeChecks.laidMetH_plain _ _ _ (by kernel_rfl)] at h
  obtain ⟨ps, ⟨_, _, _, _, _, _, _, _, _, _, ⟨g0, t0, cs0, f0, p0, q0, hg0, ht0, hv0, hd0, _, _⟩, _⟩, _, _⟩ := h
  obtain rfl := Option.some.inj (gW.symm.trans hg0)
  obtain rfl := Option.some.inj (tW.symm.trans ht0)
  rcases open_map Tryd.underlying67 hd0 with ⟨_, hx⟩ | ⟨bm, es, clock, m, rfl, hcs, hb, _, F, hx⟩
  · simp [Rows.laid_tachograph_sigtext_words] at hx
  simp only [Prod.mk.injEq] at hx
  have hcell : W.cell? ⟨0, 0, none⟩ = some (.map (some bm)) := by
    have := World.var?_cell hg0 hv0 0
    rw [Array.eq_one_of_toList hcs] at this
    simpa using this
  refine ⟨bm, es, clock, _, hcell, hb, F, hx.1.symm, fun v y hv => ?_⟩
  obtain ⟨r, rfl, rfl, _⟩ := elemAt_int Tryd.underlying3 hv
  exact ⟨r, rfl, rfl⟩
/-- The start: the door's own run, and the pinned table laid behind it. -/
noncomputable def wl (os : Os) : World := (World.doorLaid Tryd.prog 400 os).layVars Tryd.prog (Rows.sigtextPrintsRow.laid.filter fun x => (["unicode/utf8.first"] : List String).contains x.1)
theorem door_met (os : Os) (args : Array Value) : laidMetH Tryd.prog Rows.sigtextPrintsRow.laid ((wl os).forCall (fun _ _ => 0) ⟨#[], args, []⟩).memory := by
  rw [MakeChecks.laidMetH_plain _ _ _ (by kernel_rfl)]
  exact laidMet_layVars (w0 := World.doorLaid Tryd.prog 400 os) ["unicode/utf8.first"] ((List.range (World.doorLaid Tryd.prog 400 os).heap.size).filter fun k => k != 2) (by simp [wl, World.memory, World.forCall, Input.heap]) (by kernel_rfl) (by kernel_rfl)
    (LaidIn.of_run _ 8 (by kernel_rfl) (by kernel_rfl) (by kernel_rfl) (by kernel_rfl))
set_option maxRecDepth 100000 in
theorem lifted (os : Os) (started : os.Started) (H : Type) (enc : TypeId × Value → H) :
    ReturnsInHanded {} Tryd.checked os 5 .any (fun w args => (Rows.sigtextPrintsSpec.pre enc Tryd.prog Tryd.f5 [] false w args ∧ laidMetH Tryd.prog Rows.sigtextPrintsRow.laid w) ∧ sizedMet enc Tryd.prog Tryd.f5 (OpenSpec.ofChange Rows.sigtextPrintsSpec) false w args) (Rows.sigtextPrintsSpec.post enc Tryd.prog Tryd.f5 false true false false) := by
  refine Go.Proofs.YtmmfakdncjeoeacDoorAid.handed_shaped_and (C := Tryd.checked) (X := fun w _ => laidMetH Tryd.prog Rows.sigtextPrintsRow.laid w) (fun _ _ _ hh h => h.of_heap hh) own started (by kernel_rfl) Tryd.func5
    (ChangeSpec.witness_shaped (enc := enc) (C := Tryd.checked) (os := os) (X := fun w _ => laidMetH Tryd.prog Rows.sigtextPrintsRow.laid w) false (wl os) #[.slice none 0 0] 8 ((World.layVars_os _ _ _).trans rfl) (World.shaped_of_ZipB (by kernel_rfl) (by kernel_rfl)) (by kernel_rfl) (by kernel_rfl) (by kernel_rfl) (door_met os _)) ?_
  intro W base args ds gs before hval0 hW hcnd hsz0 hL hsh _
  have hsz : (DataW.weightsEach Tryd.prog (Tryd.f5.params.toList ++ Rows.sigtextPrintsSpec.plain.varTypes Tryd.prog) (ds ++ gs)).all (· ≤ reachBytes) = true := hsz0
  have hval : ∀ (j : Nat) t v, Tryd.f5.params[j]? = some t → args[j]? = some v → Value.okWide Tryd.prog W .any base t v := hval0
  have hW' := hW
  obtain ⟨p, q, hA0, hV, rfl, hfz, hnd⟩ := hW
  have hA : DataW.TrodAll enc Tryd.prog W 0 (fun _ => true) true Tryd.f5.params.toList args.toList ds p := hA0
  rw [Tryd.params5] at hA hval hsz
  obtain ⟨v0, vs0, d0, ds0, p0, q0, hargs, rfl, rfl, h0, r0⟩ := trodAll_cons hA
  obtain ⟨rfl, rfl, rfl⟩ := trodAll_nil r0
  obtain rfl : args = #[v0] := by cases args; simp_all
  obtain ⟨rfl, rfl⟩ := trodVars_none hV
  obtain ⟨a0, len0, cap0, rfl⟩ := okWide_slice Tryd.underlying23 (hval 0 23 v0 rfl rfl)
  have k0 := h0
  have lt0 : ∀ x ∈ p0, x.block < W.heap.size := by obtain ⟨m, hm⟩ := k0; exact DataW.trod_lt m _ _ _ hm
  obtain ⟨l0, rfl, e0, C0, w0⟩ := Go.Proofs.YtmmfakdncjeoeacDoorOpen.open_param (B := 40) Tryd.underlying23 (by kernel_rfl) PE.tachographlaw10_SigtextPrints.laid0 hsz (j := 0) (t := 23) rfl rfl h0 _ _ _ rfl
  clear hA0 hval0 hsz0 hsz
  refine (PE.tachographlaw10_SigtextPrints.walk Pure.SigtextPrints a0 cap0 l0 W (glob_of hL hsh) w0 e0 C0).mono fun e W' ⟨he, bel⟩ => ?_
  subst he
  exact ⟨_, rfl, _, _, _, [], _, [], hW', trodAll_mk1 (shut_bool Tryd.underlying4 _), (trodAll_cons_mk (Below.trod laidOut (by kernel_rfl) (of_decide_eq_true (by kernel_rfl)) k0 bel lt0) trodAll_mk0), rfl, bel.frame _, fun h => by cases h⟩
theorem over : Rows.sigtextPrintsRow.holds Tryd.pinned (OpenSpec.ofChange Rows.sigtextPrintsSpec) :=
  OpenClaim.holds_of_wide 5 Tryd.f5 rfl rfl rfl rfl rfl rfl rfl ⟨rfl, rfl, rfl, rfl, rfl⟩ rfl rfl rfl rfl rfl (by kernel_rfl) Tryd.func5 (by kernel_rfl)
    (of_decide_eq_true (by kernel_rfl)) (by unfold Func.isWrapper; first | (rw [if_pos (by decide +kernel)]; kernel_rfl) | (rw [if_neg (by decide +kernel)]; exact ⟨rfl, rfl⟩))
    (fun os started H enc _ => lifted os started H enc)
theorem card : Rows.SigtextPrintsCardSaid :=
  Claim7.holds_tied_plain_at .later [] [.data, .mapped, .pinned] true (true, "a3c37ff65a8e4b7eac2b48d74c5e58b79f03ec7e08a76ccd835d742a53cee1ea") false
    over (fun _ h => by cases h) (by kernel_rfl) (fun _ h => by cases h) sigtextPrints_row_tie rfl ⟨rfl, rfl⟩ (by kernel_rfl) rfl
    (fun f fn hf hfn => by
      obtain rfl : f = 5 := Option.some.inj ((show Tryd.prog.funcNamed "tachograph/tachographlaw10.SigtextPrints" = some 5 by kernel_rfl).symm.trans hf) |>.symm
      obtain rfl : fn = Tryd.f5 := (Option.some.inj (Tryd.func5.symm.trans hfn)).symm
      exact ⟨by kernel_rfl, fun j t ht => by
        rw [Tryd.params5] at ht
        have hm : t ∈ [23] := by simpa using Array.mem_of_getElem? ht
        have hall : ([23].all fun u => !Tryd.prog.wantsStandIn u) = true := by kernel_rfl
        exact (show Tryd.prog.wantsStandIn t = false by simpa using List.all_eq_true.1 hall t hm)⟩)
    (by kernel_rfl)
#print axioms card
end Go.Proofs.YtmmfakdncjeoeacDoor.sigtextPrints
namespace Go.Proofs.YtmmfakdncjeoeacDoor
/-- The tied card, under a short name, for the claim. -/
theorem sigtextPrintsCard_holds : Rows.SigtextPrintsCardSaid := sigtextPrints.card
end Go.Proofs.YtmmfakdncjeoeacDoor
