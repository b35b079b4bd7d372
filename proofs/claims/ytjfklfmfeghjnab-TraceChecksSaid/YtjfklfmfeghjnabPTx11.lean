-- Contracts of Go functions, each with its plain Lean function: written by wip/tools/myprint.py of this work (the kit's print, with contracts proved by hand spliced in).
import Derived.Test.YtjfklfmfeghjnabPTx0
import Derived.Test.YtjfklfmfeghjnabPTx1
import Derived.Test.YtjfklfmfeghjnabPTx3
import Derived.Test.YtjfklfmfeghjnabPTx5
import Derived.Test.YtjfklfmfeghjnabPTx6
import Derived.Test.YtjfklfmfeghjnabPTx9
import Derived.Test.YtjfklfmfeghjnabPTx10
namespace Go.Proofs.Ytjfklfmfeghjnab.PT
open Go.RowKit Go.Proofs.YtjfklfmfeghjnabW.PrintWords Go.Proofs.YtjfklfmfeghjnabW.PrintLast Go.Proofs.YtjfklfmfeghjnabW.PrintMore
attribute [local go_sem] max2_int min2_int max_two min_two max_three min_three max_four min_four   -- for this text's walks alone
set_option linter.unusedVariables false
set_option linter.unusedSimpArgs false

attribute [local go_sem high] eqA57
/-! ### tachographlaw12_TraceChecks: function 5 -/
mutual
def tachographlaw12_TraceChecks.j0 : Nat → List (S106) → List (S44) → Bool → Option (Bool)
  | 0, _, _, _ => none
  | k + 1, x0, x1, x21 => if x21 = true then ((tachographlaw12_fixed.f k).bind fun t161 => (some t161)) else ((trace_Check.f k x0 x1).bind fun bt162 => ((tachographref12_Check.f k x0 x1).bind fun bt164 => ((trace_Count.f x1).bind fun bt166 => (if bt162.1 = bt164.1 then (if bt162.2 = bt164.2 then ((tachographref12_Count.f k x1).bind fun bt169 => (tachographlaw12_TraceChecks.j1 k x0 x1 (!(bt166.1 == bt169.1) || (!(bt166.2.1 == bt169.2.1) || (!(bt166.2.2 == bt169.2.2)))))) else (tachographlaw12_TraceChecks.j1 k x0 x1 true)) else (tachographlaw12_TraceChecks.j1 k x0 x1 true)))))
def tachographlaw12_TraceChecks.j1 : Nat → List (S106) → List (S44) → Bool → Option (Bool)
  | 0, _, _, _ => none
  | k + 1, x0, x1, x57 => if x57 = true then (some false) else (tachographlaw12_TraceChecks.l0 k x0 x1 (x1.length : Int) 0)
def tachographlaw12_TraceChecks.l0 : Nat → List (S106) → List (S44) → Int → Int → Option (Bool)
  | 0, _, _, _, _ => none
  | k + 1, x0, x58, x59, x60 => if x60 < x59 then (if 0 ≤ x60 then (if x60 < (x58.length : Int) then (tachographlaw12_TraceChecks.l1 k x0 x58 x59 x60 ((rd_T44 x58 x60).f1) (((rd_T44 x58 x60).f1).length : Int) 0) else (none)) else (none)) else ((tachographlaw12_fixed.f k).bind fun t172 => (some t172))
def tachographlaw12_TraceChecks.l1 : Nat → List (S106) → List (S44) → Int → Int → List (S61) → Int → Int → Option (Bool)
  | 0, _, _, _, _, _, _, _ => none
  | k + 1, x0, x58, x59, x60, x65, x66, x67 => if x67 < x66 then (if 0 ≤ x67 then (if x67 < (x65.length : Int) then ((trace_Event.f k x0 ((rd_T61 x65 x67).f0) ((rd_T61 x65 x67).f1)).bind fun t177 => ((tachographref12_Event.f k x0 ((rd_T61 x65 x67).f0) ((rd_T61 x65 x67).f1)).bind fun t178 => (if t177 = t178 then (tachographlaw12_TraceChecks.l1 k x0 x58 x59 x60 x65 x66 (wrap64 (x67 + 1))) else (some false)))) else (none)) else (none)) else (tachographlaw12_TraceChecks.l0 k x0 x58 x59 (wrap64 (x60 + 1)))
end
def tachographlaw12_TraceChecks.f (k : Nat) (l0 : List (S106)) (l1 : List (S44)) : Option (Bool) := (tachographlaw09_Great.f k l0).bind fun t159 => (if t159 = true then (tachographlaw12_TraceChecks.j0 k l0 l1 true) else ((tachographlaw12_Great.f k l1 3000).bind fun t160 => (tachographlaw12_TraceChecks.j0 k l0 l1 t160)))
theorem tachographlaw12_TraceChecks.mono_l : ∀ k, (∀ y0 y1 y2, LeO (tachographlaw12_TraceChecks.j0 k y0 y1 y2) (tachographlaw12_TraceChecks.j0 (k + 1) y0 y1 y2)) ∧ (∀ y0 y1 y2, LeO (tachographlaw12_TraceChecks.j1 k y0 y1 y2) (tachographlaw12_TraceChecks.j1 (k + 1) y0 y1 y2)) ∧ (∀ y0 y1 y2 y3, LeO (tachographlaw12_TraceChecks.l0 k y0 y1 y2 y3) (tachographlaw12_TraceChecks.l0 (k + 1) y0 y1 y2 y3)) ∧ (∀ y0 y1 y2 y3 y4 y5 y6, LeO (tachographlaw12_TraceChecks.l1 k y0 y1 y2 y3 y4 y5 y6) (tachographlaw12_TraceChecks.l1 (k + 1) y0 y1 y2 y3 y4 y5 y6))
  | 0 => ⟨fun _ _ _ r h => by simp [tachographlaw12_TraceChecks.j0] at h, fun _ _ _ r h => by simp [tachographlaw12_TraceChecks.j1] at h, fun _ _ _ _ r h => by simp [tachographlaw12_TraceChecks.l0] at h, fun _ _ _ _ _ _ _ r h => by simp [tachographlaw12_TraceChecks.l1] at h⟩
  | k + 1 => by
    obtain ⟨ih0, ih1, ih2, ih3⟩ := tachographlaw12_TraceChecks.mono_l k
    refine ⟨?_, ?_, ?_, ?_⟩
    · intro y0 y1 y2
      unfold tachographlaw12_TraceChecks.j0
      repeat' first
      | (with_reducible exact ih0 _ _ _)
      | (with_reducible exact ih1 _ _ _)
      | (with_reducible exact ih2 _ _ _ _)
      | (with_reducible exact ih3 _ _ _ _ _ _ _)
      | (with_reducible exact tachographlaw09_Great.mono _ _)
      | (with_reducible exact tachographlaw12_Great.mono _ _ _)
      | (with_reducible exact tachographlaw12_fixed.mono _)
      | (with_reducible exact tachographref12_Check.mono _ _ _)
      | (with_reducible exact tachographref12_Count.mono _ _)
      | (with_reducible exact tachographref12_Event.mono _ _ _ _)
      | (with_reducible exact trace_Check.mono _ _ _)
      | (with_reducible exact trace_Event.mono _ _ _ _)
      | (with_reducible exact LeO.refl _)
      | (with_reducible exact LeO.none _)
      | (with_reducible refine LeO.ite ?_ ?_)
      | (with_reducible refine LeO.bind ?_ (fun _ => ?_))
      | exact ih0 _ _ _
      | exact ih1 _ _ _
      | exact ih2 _ _ _ _
      | exact ih3 _ _ _ _ _ _ _
      | exact tachographlaw09_Great.mono _ _
      | exact tachographlaw12_Great.mono _ _ _
      | exact tachographlaw12_fixed.mono _
      | exact tachographref12_Check.mono _ _ _
      | exact tachographref12_Count.mono _ _
      | exact tachographref12_Event.mono _ _ _ _
      | exact trace_Check.mono _ _ _
      | exact trace_Event.mono _ _ _ _
      | exact LeO.none _
      | refine LeO.ite ?_ ?_
      | refine LeO.bind ?_ (fun _ => ?_)
    · intro y0 y1 y2
      unfold tachographlaw12_TraceChecks.j1
      repeat' first
      | (with_reducible exact ih0 _ _ _)
      | (with_reducible exact ih1 _ _ _)
      | (with_reducible exact ih2 _ _ _ _)
      | (with_reducible exact ih3 _ _ _ _ _ _ _)
      | (with_reducible exact tachographlaw09_Great.mono _ _)
      | (with_reducible exact tachographlaw12_Great.mono _ _ _)
      | (with_reducible exact tachographlaw12_fixed.mono _)
      | (with_reducible exact tachographref12_Check.mono _ _ _)
      | (with_reducible exact tachographref12_Count.mono _ _)
      | (with_reducible exact tachographref12_Event.mono _ _ _ _)
      | (with_reducible exact trace_Check.mono _ _ _)
      | (with_reducible exact trace_Event.mono _ _ _ _)
      | (with_reducible exact LeO.refl _)
      | (with_reducible exact LeO.none _)
      | (with_reducible refine LeO.ite ?_ ?_)
      | (with_reducible refine LeO.bind ?_ (fun _ => ?_))
      | exact ih0 _ _ _
      | exact ih1 _ _ _
      | exact ih2 _ _ _ _
      | exact ih3 _ _ _ _ _ _ _
      | exact tachographlaw09_Great.mono _ _
      | exact tachographlaw12_Great.mono _ _ _
      | exact tachographlaw12_fixed.mono _
      | exact tachographref12_Check.mono _ _ _
      | exact tachographref12_Count.mono _ _
      | exact tachographref12_Event.mono _ _ _ _
      | exact trace_Check.mono _ _ _
      | exact trace_Event.mono _ _ _ _
      | exact LeO.none _
      | refine LeO.ite ?_ ?_
      | refine LeO.bind ?_ (fun _ => ?_)
    · intro y0 y1 y2 y3
      unfold tachographlaw12_TraceChecks.l0
      repeat' first
      | (with_reducible exact ih0 _ _ _)
      | (with_reducible exact ih1 _ _ _)
      | (with_reducible exact ih2 _ _ _ _)
      | (with_reducible exact ih3 _ _ _ _ _ _ _)
      | (with_reducible exact tachographlaw09_Great.mono _ _)
      | (with_reducible exact tachographlaw12_Great.mono _ _ _)
      | (with_reducible exact tachographlaw12_fixed.mono _)
      | (with_reducible exact tachographref12_Check.mono _ _ _)
      | (with_reducible exact tachographref12_Count.mono _ _)
      | (with_reducible exact tachographref12_Event.mono _ _ _ _)
      | (with_reducible exact trace_Check.mono _ _ _)
      | (with_reducible exact trace_Event.mono _ _ _ _)
      | (with_reducible exact LeO.refl _)
      | (with_reducible exact LeO.none _)
      | (with_reducible refine LeO.ite ?_ ?_)
      | (with_reducible refine LeO.bind ?_ (fun _ => ?_))
      | exact ih0 _ _ _
      | exact ih1 _ _ _
      | exact ih2 _ _ _ _
      | exact ih3 _ _ _ _ _ _ _
      | exact tachographlaw09_Great.mono _ _
      | exact tachographlaw12_Great.mono _ _ _
      | exact tachographlaw12_fixed.mono _
      | exact tachographref12_Check.mono _ _ _
      | exact tachographref12_Count.mono _ _
      | exact tachographref12_Event.mono _ _ _ _
      | exact trace_Check.mono _ _ _
      | exact trace_Event.mono _ _ _ _
      | exact LeO.none _
      | refine LeO.ite ?_ ?_
      | refine LeO.bind ?_ (fun _ => ?_)
    · intro y0 y1 y2 y3 y4 y5 y6
      unfold tachographlaw12_TraceChecks.l1
      repeat' first
      | (with_reducible exact ih0 _ _ _)
      | (with_reducible exact ih1 _ _ _)
      | (with_reducible exact ih2 _ _ _ _)
      | (with_reducible exact ih3 _ _ _ _ _ _ _)
      | (with_reducible exact tachographlaw09_Great.mono _ _)
      | (with_reducible exact tachographlaw12_Great.mono _ _ _)
      | (with_reducible exact tachographlaw12_fixed.mono _)
      | (with_reducible exact tachographref12_Check.mono _ _ _)
      | (with_reducible exact tachographref12_Count.mono _ _)
      | (with_reducible exact tachographref12_Event.mono _ _ _ _)
      | (with_reducible exact trace_Check.mono _ _ _)
      | (with_reducible exact trace_Event.mono _ _ _ _)
      | (with_reducible exact LeO.refl _)
      | (with_reducible exact LeO.none _)
      | (with_reducible refine LeO.ite ?_ ?_)
      | (with_reducible refine LeO.bind ?_ (fun _ => ?_))
      | exact ih0 _ _ _
      | exact ih1 _ _ _
      | exact ih2 _ _ _ _
      | exact ih3 _ _ _ _ _ _ _
      | exact tachographlaw09_Great.mono _ _
      | exact tachographlaw12_Great.mono _ _ _
      | exact tachographlaw12_fixed.mono _
      | exact tachographref12_Check.mono _ _ _
      | exact tachographref12_Count.mono _ _
      | exact tachographref12_Event.mono _ _ _ _
      | exact trace_Check.mono _ _ _
      | exact trace_Event.mono _ _ _ _
      | exact LeO.none _
      | refine LeO.ite ?_ ?_
      | refine LeO.bind ?_ (fun _ => ?_)
theorem tachographlaw12_TraceChecks.mono : ∀ a0 a1 k, LeO (tachographlaw12_TraceChecks.f k a0 a1) (tachographlaw12_TraceChecks.f (k + 1) a0 a1) := by
  intro a0 a1 k
  obtain ⟨ih0, ih1, ih2, ih3⟩ := tachographlaw12_TraceChecks.mono_l k
  unfold tachographlaw12_TraceChecks.f
  repeat' first
      | (with_reducible exact ih0 _ _ _)
      | (with_reducible exact ih1 _ _ _)
      | (with_reducible exact ih2 _ _ _ _)
      | (with_reducible exact ih3 _ _ _ _ _ _ _)
      | (with_reducible exact tachographlaw09_Great.mono _ _)
      | (with_reducible exact tachographlaw12_Great.mono _ _ _)
      | (with_reducible exact tachographlaw12_fixed.mono _)
      | (with_reducible exact tachographref12_Check.mono _ _ _)
      | (with_reducible exact tachographref12_Count.mono _ _)
      | (with_reducible exact tachographref12_Event.mono _ _ _ _)
      | (with_reducible exact trace_Check.mono _ _ _)
      | (with_reducible exact trace_Event.mono _ _ _ _)
      | (with_reducible exact LeO.refl _)
      | (with_reducible exact LeO.none _)
      | (with_reducible refine LeO.ite ?_ ?_)
      | (with_reducible refine LeO.bind ?_ (fun _ => ?_))
      | exact ih0 _ _ _
      | exact ih1 _ _ _
      | exact ih2 _ _ _ _
      | exact ih3 _ _ _ _ _ _ _
      | exact tachographlaw09_Great.mono _ _
      | exact tachographlaw12_Great.mono _ _ _
      | exact tachographlaw12_fixed.mono _
      | exact tachographref12_Check.mono _ _ _
      | exact tachographref12_Count.mono _ _
      | exact tachographref12_Event.mono _ _ _ _
      | exact trace_Check.mono _ _ _
      | exact trace_Event.mono _ _ _ _
      | exact LeO.none _
      | refine LeO.ite ?_ ?_
      | refine LeO.bind ?_ (fun _ => ?_)
set_option maxHeartbeats 8000000 in
set_option maxRecDepth 100000 in
theorem tachographlaw12_TraceChecks.calls (k : Nat) (A0 : Option Addr) (c0 : Nat) (l0 : List (S106)) (A1 : Option Addr) (c1 : Nat) (l1 : List (S44)) (r : Bool) (w : World) (hr0 : Kd.C k106 w A0 l0.length l0) (hc0 : l0.length ≤ c0) (hr1 : Kd.C k44 w A1 l1.length l1) (hc1 : l1.length ≤ c1) (h : tachographlaw12_TraceChecks.f k l0 l1 = some r) :
    Calls Try.prog 5 #[.slice A0 l0.length c0, .slice A1 l1.length c1] w fun e w' => e = .returned (.bool r) ∧ Below w.heap.size w w' := by
  have hu57 := Try.underlying57
  have hu44 := Try.underlying44
  have hu61 := Try.underlying61
  have HR0 := Aside0.mk hr0
  have HC0 := Aside0.mk hc0
  clear hr0 hc0
  have HR1 := Aside0.mk hr1
  have HC1 := Aside0.mk hc1
  clear hr1 hc1
  have HB := Aside0.mk (Below.refl w.heap.size w)
  have H : ((tachographlaw09_Great.f k l0).bind fun t159 => (if t159 = true then (tachographlaw12_TraceChecks.j0 k l0 l1 true) else ((tachographlaw12_Great.f k l1 3000).bind fun t160 => (tachographlaw12_TraceChecks.j0 k l0 l1 t160)))) = some r := h
  clear h
  have HC3 := Aside0.mk H
  clear H
  go_enter Try.func5, Try.ntmps5
  go_upto_region 1 with (fail)
  go_cut [21] (fun v21 wc => ∃ (kq : Nat) (x21_2 : Bool), v21 = .bool x21_2 ∧ Aside0 (tachographlaw12_TraceChecks.j0 kq l0 l1 x21_2 = some r) ∧ Aside0 (kq ≤ k) ∧ Aside0 (Below w.heap.size w wc))
  case first =>
    have H := HC3.out
    clear HC3
    replace H := Option.bind_eq_some_iff.mp H
    obtain ⟨t159, A40, H⟩ := H
    replace H : (if t159 = true then (tachographlaw12_TraceChecks.j0 k l0 l1 true) else ((tachographlaw12_Great.f k l1 3000).bind fun t160 => (tachographlaw12_TraceChecks.j0 k l0 l1 t160))) = some r := H
    have A4 := Aside0.mk A40
    clear A40
    by_cases c5 : t159 = true
    · subst c5
      have H1 : (tachographlaw12_TraceChecks.j0 k l0 l1 true) = some r := by rw [if_pos rfl] at H; exact H
      clear H
      have H := H1
      clear H1
      have H' := Aside0.mk H
      clear H
      go_wp2_with (first | ((with_reducible refine gate_callee (f := 29) rfl ?_); refine goesL_ (some 17) rfl rfl Try.func29 (by kernel_rfl) rfl #[.slice A0 l0.length c0] rfl (by (try simp only [List.map_toArray, List.map_cons, List.map_nil]); first | done | rfl | (simp only [List.length_drop, List.length_take]; rfl) | (refine congrArg (fun z_ => #[z_]) (congrArg (Value.int IntKind.u64) (Eq.symm (Go.Proofs.YtjfklfmfeghjnabAid.wrap_len _ (by omega)))))) ?_; (with_reducible refine (tachographlaw09_Great.calls k _ _ l0 true _ ?side1 ?side2 A4.out).mono ?_); (case side1 => repeat (first | exact (Kd.C_below HR0.out HB.out) | (with_reducible refine Kd.C_alloc ?_ _) | (with_reducible refine Kd.C_drewN ?_ _) | (with_reducible refine Kd.C_drew ?_))); (case side2 => exact HC0.out); rintro e w6 ⟨rfl, hb⟩; refine ⟨_, rfl, ?_⟩; have n0_ := Aside0.mk (below_step (by repeat (first | (with_reducible first | exact HB.out | apply below_alloc | apply pw_below_drewN | apply below_drew1) | exact HB.out)) hb); clear HB; have HB := n0_; clear n0_; (try clear hb); (try clear hb2); (try clear hk); (try clear hi)))
      go_meet
      case rel => exact ⟨_, (true), (by first | rfl | (simp; done) | (simp [*]; done)), H', ⟨by first | omega | exact Nat.le_refl _⟩, ⟨by repeat (first | (with_reducible first | exact HB.out | apply below_alloc | apply pw_below_drewN | apply below_drew1) | exact HB.out)⟩⟩
    · replace c5 := Bool.eq_false_iff.mpr c5
      subst c5
      have H1 : ((tachographlaw12_Great.f k l1 3000).bind fun t160 => (tachographlaw12_TraceChecks.j0 k l0 l1 t160)) = some r := by rw [if_neg (show ¬ (false = true) by decide)] at H; exact H
      clear H
      have H := H1
      clear H1
      replace H := Option.bind_eq_some_iff.mp H
      obtain ⟨t160, A70, H⟩ := H
      replace H : (tachographlaw12_TraceChecks.j0 k l0 l1 t160) = some r := H
      have A7 := Aside0.mk A70
      clear A70
      have H' := Aside0.mk H
      clear H
      go_wp2_with (first | ((with_reducible refine gate_callee (f := 29) rfl ?_); refine goesL_ (some 17) rfl rfl Try.func29 (by kernel_rfl) rfl #[.slice A0 l0.length c0] rfl (by (try simp only [List.map_toArray, List.map_cons, List.map_nil]); first | done | rfl | (simp only [List.length_drop, List.length_take]; rfl) | (refine congrArg (fun z_ => #[z_]) (congrArg (Value.int IntKind.u64) (Eq.symm (Go.Proofs.YtjfklfmfeghjnabAid.wrap_len _ (by omega)))))) ?_; (with_reducible refine (tachographlaw09_Great.calls k _ _ l0 false _ ?side1 ?side2 A4.out).mono ?_); (case side1 => repeat (first | exact (Kd.C_below HR0.out HB.out) | (with_reducible refine Kd.C_alloc ?_ _) | (with_reducible refine Kd.C_drewN ?_ _) | (with_reducible refine Kd.C_drew ?_))); (case side2 => exact HC0.out); rintro e w8 ⟨rfl, hb⟩; refine ⟨_, rfl, ?_⟩; have n0_ := Aside0.mk (below_step (by repeat (first | (with_reducible first | exact HB.out | apply below_alloc | apply pw_below_drewN | apply below_drew1) | exact HB.out)) hb); clear HB; have HB := n0_; clear n0_; (try clear hb); (try clear hb2); (try clear hk); (try clear hi)) | (go_at_call 24; (with_reducible refine (tachographlaw12_Great.calls k _ _ l1 3000 t160 _ ?side1 ?side2 A7.out).mono ?_); (case side1 => repeat (first | exact (Kd.C_below HR1.out HB.out) | (with_reducible refine Kd.C_alloc ?_ _) | (with_reducible refine Kd.C_drewN ?_ _) | (with_reducible refine Kd.C_drew ?_))); (case side2 => exact HC1.out); rintro e w9 ⟨rfl, hb⟩; have n0_ := Aside0.mk (below_step (by repeat (first | (with_reducible first | exact HB.out | apply below_alloc | apply pw_below_drewN | apply below_drew1) | exact HB.out)) hb); clear HB; have HB := n0_; clear n0_; (try clear hb); (try clear hb2); (try clear hk); (try clear hi)))
      go_meet
      case rel => exact ⟨_, (t160), (by first | rfl | (simp; done) | (simp [*]; done)), H', ⟨by first | omega | exact Nat.le_refl _⟩, ⟨by repeat (first | (with_reducible first | exact HB.out | apply below_alloc | apply pw_below_drewN | apply below_drew1) | exact HB.out)⟩⟩
  case rest =>
    clear HC3
    try clear c1
    try clear c2
    try clear p2
    try clear c5
    obtain ⟨kq, x21_2, rfl, HA, HJ2, HB⟩ := hcut
    cases kq with
    | zero => exact absurd HA.out (by simp [tachographlaw12_TraceChecks.j0])
    | succ kj2 =>
      have H := HA.out
      clear HA
      simp only [tachographlaw12_TraceChecks.j0] at H
      by_cases c10 : x21_2 = true
      · subst c10
        have H1 : ((tachographlaw12_fixed.f kj2).bind fun t161 => (some t161)) = some r := by rw [if_pos rfl] at H; exact H
        clear H
        have H := H1
        clear H1
        replace H := Option.bind_eq_some_iff.mp H
        obtain ⟨t161, A110, H⟩ := H
        replace H : (some t161) = some r := H
        have A11 := Aside0.mk A110
        clear A110
        obtain rfl := Option.some.inj H
        go_wp2_with (first | ((with_reducible refine gate_callee (f := 30) rfl ?_); refine goesL_ (some 22) rfl rfl Try.func30 (by kernel_rfl) rfl #[] rfl (by (try simp only [List.map_toArray, List.map_cons, List.map_nil]); first | done | rfl | (simp only [List.length_drop, List.length_take]; rfl) | (refine congrArg (fun z_ => #[z_]) (congrArg (Value.int IntKind.u64) (Eq.symm (Go.Proofs.YtjfklfmfeghjnabAid.wrap_len _ (by omega)))))) ?_; (with_reducible refine (tachographlaw12_fixed.calls kj2  t161 _ A11.out).mono ?_); rintro e w12 ⟨rfl, hb⟩; refine ⟨_, rfl, ?_⟩; have n0_ := Aside0.mk (below_step (by repeat (first | (with_reducible first | exact HB.out | apply below_alloc | apply pw_below_drewN | apply below_drew1) | exact HB.out)) hb); clear HB; have HB := n0_; clear n0_; (try clear hb); (try clear hb2); (try clear hk); (try clear hi)))
        go_ret
        exact ⟨by first | rfl | (simp [errW_none, errW_some] <;> rfl) | (simp [*, errW_none, errW_some] <;> rfl), by repeat (first | (with_reducible first | exact HB.out | apply below_alloc | apply pw_below_drewN | apply below_drew1) | exact HB.out)⟩
      · replace c10 := Bool.eq_false_iff.mpr c10
        subst c10
        have H1 : ((trace_Check.f kj2 l0 l1).bind fun bt162 => ((tachographref12_Check.f kj2 l0 l1).bind fun bt164 => ((trace_Count.f l1).bind fun bt166 => (if bt162.1 = bt164.1 then (if bt162.2 = bt164.2 then ((tachographref12_Count.f kj2 l1).bind fun bt169 => (tachographlaw12_TraceChecks.j1 kj2 l0 l1 (!(bt166.1 == bt169.1) || (!(bt166.2.1 == bt169.2.1) || (!(bt166.2.2 == bt169.2.2)))))) else (tachographlaw12_TraceChecks.j1 kj2 l0 l1 true)) else (tachographlaw12_TraceChecks.j1 kj2 l0 l1 true))))) = some r := by rw [if_neg (show ¬ (false = true) by decide)] at H; exact H
        clear H
        have H := H1
        clear H1
        replace H := Option.bind_eq_some_iff.mp H
        obtain ⟨⟨t162, t163⟩, A130, H⟩ := H
        replace H : ((tachographref12_Check.f kj2 l0 l1).bind fun bt164 => ((trace_Count.f l1).bind fun bt166 => (if t162 = bt164.1 then (if t163 = bt164.2 then ((tachographref12_Count.f kj2 l1).bind fun bt169 => (tachographlaw12_TraceChecks.j1 kj2 l0 l1 (!(bt166.1 == bt169.1) || (!(bt166.2.1 == bt169.2.1) || (!(bt166.2.2 == bt169.2.2)))))) else (tachographlaw12_TraceChecks.j1 kj2 l0 l1 true)) else (tachographlaw12_TraceChecks.j1 kj2 l0 l1 true)))) = some r := H
        have A13 := Aside0.mk A130
        clear A130
        replace H := Option.bind_eq_some_iff.mp H
        obtain ⟨⟨t164, t165⟩, A140, H⟩ := H
        replace H : ((trace_Count.f l1).bind fun bt166 => (if t162 = t164 then (if t163 = t165 then ((tachographref12_Count.f kj2 l1).bind fun bt169 => (tachographlaw12_TraceChecks.j1 kj2 l0 l1 (!(bt166.1 == bt169.1) || (!(bt166.2.1 == bt169.2.1) || (!(bt166.2.2 == bt169.2.2)))))) else (tachographlaw12_TraceChecks.j1 kj2 l0 l1 true)) else (tachographlaw12_TraceChecks.j1 kj2 l0 l1 true))) = some r := H
        have A14 := Aside0.mk A140
        clear A140
        replace H := Option.bind_eq_some_iff.mp H
        obtain ⟨⟨t166, t167, t168⟩, A150, H⟩ := H
        replace H : (if t162 = t164 then (if t163 = t165 then ((tachographref12_Count.f kj2 l1).bind fun bt169 => (tachographlaw12_TraceChecks.j1 kj2 l0 l1 (!(t166 == bt169.1) || (!(t167 == bt169.2.1) || (!(t168 == bt169.2.2)))))) else (tachographlaw12_TraceChecks.j1 kj2 l0 l1 true)) else (tachographlaw12_TraceChecks.j1 kj2 l0 l1 true)) = some r := H
        have A15 := Aside0.mk A150
        clear A150
        have HC16 := Aside0.mk H
        clear H
        go_upto_region 6 with (first | ((with_reducible refine gate_callee (f := 31) rfl ?_); refine goesL_ (some 26) rfl rfl Try.func31 (by kernel_rfl) rfl #[.slice A0 l0.length c0, .slice A1 l1.length c1] rfl (by (try simp only [List.map_toArray, List.map_cons, List.map_nil]); first | done | rfl | (simp only [List.length_drop, List.length_take]; rfl) | (refine congrArg (fun z_ => #[z_]) (congrArg (Value.int IntKind.u64) (Eq.symm (Go.Proofs.YtjfklfmfeghjnabAid.wrap_len _ (by omega)))))) ?_; (with_reducible refine (trace_Check.calls kj2 _ _ l0 _ _ l1 t162 t163 _ ?side1 ?side2 ?side3 ?side4 A13.out).mono ?_); (case side1 => repeat (first | exact (Kd.C_below HR0.out HB.out) | (with_reducible refine Kd.C_alloc ?_ _) | (with_reducible refine Kd.C_drewN ?_ _) | (with_reducible refine Kd.C_drew ?_))); (case side2 => exact HC0.out); (case side3 => repeat (first | exact (Kd.C_below HR1.out HB.out) | (with_reducible refine Kd.C_alloc ?_ _) | (with_reducible refine Kd.C_drewN ?_ _) | (with_reducible refine Kd.C_drew ?_))); (case side4 => exact HC1.out); rintro e w17 ⟨rfl, hb⟩; refine ⟨_, rfl, ?_⟩; have n0_ := Aside0.mk (below_step (by repeat (first | (with_reducible first | exact HB.out | apply below_alloc | apply pw_below_drewN | apply below_drew1) | exact HB.out)) hb); clear HB; have HB := n0_; clear n0_; (try clear hb); (try clear hb2); (try clear hk); (try clear hi)) | ((with_reducible refine gate_callee (f := 32) rfl ?_); refine goesL_ (some 32) rfl rfl Try.func32 (by kernel_rfl) rfl #[.slice A0 l0.length c0, .slice A1 l1.length c1] rfl (by (try simp only [List.map_toArray, List.map_cons, List.map_nil]); first | done | rfl | (simp only [List.length_drop, List.length_take]; rfl) | (refine congrArg (fun z_ => #[z_]) (congrArg (Value.int IntKind.u64) (Eq.symm (Go.Proofs.YtjfklfmfeghjnabAid.wrap_len _ (by omega)))))) ?_; (with_reducible refine (tachographref12_Check.calls kj2 _ _ l0 _ _ l1 t164 t165 _ ?side1 ?side2 ?side3 ?side4 A14.out).mono ?_); (case side1 => repeat (first | exact (Kd.C_below HR0.out HB.out) | (with_reducible refine Kd.C_alloc ?_ _) | (with_reducible refine Kd.C_drewN ?_ _) | (with_reducible refine Kd.C_drew ?_))); (case side2 => exact HC0.out); (case side3 => repeat (first | exact (Kd.C_below HR1.out HB.out) | (with_reducible refine Kd.C_alloc ?_ _) | (with_reducible refine Kd.C_drewN ?_ _) | (with_reducible refine Kd.C_drew ?_))); (case side4 => exact HC1.out); rintro e w18 ⟨rfl, hb⟩; refine ⟨_, rfl, ?_⟩; have n0_ := Aside0.mk (below_step (by repeat (first | (with_reducible first | exact HB.out | apply below_alloc | apply pw_below_drewN | apply below_drew1) | exact HB.out)) hb); clear HB; have HB := n0_; clear n0_; (try clear hb); (try clear hb2); (try clear hk); (try clear hi)) | ((with_reducible refine gate_callee (f := 33) rfl ?_); refine goesL_ (some 37) rfl rfl Try.func33 (by kernel_rfl) rfl #[.slice A1 l1.length c1] rfl (by (try simp only [List.map_toArray, List.map_cons, List.map_nil]); first | done | rfl | (simp only [List.length_drop, List.length_take]; rfl) | (refine congrArg (fun z_ => #[z_]) (congrArg (Value.int IntKind.u64) (Eq.symm (Go.Proofs.YtjfklfmfeghjnabAid.wrap_len _ (by omega)))))) ?_; (with_reducible refine (trace_Count.calls _ _ l1 t166 t167 t168 _ ?side1 ?side2 A15.out).mono ?_); (case side1 => repeat (first | exact (Kd.C_below HR1.out HB.out) | (with_reducible refine Kd.C_alloc ?_ _) | (with_reducible refine Kd.C_drewN ?_ _) | (with_reducible refine Kd.C_drew ?_))); (case side2 => exact HC1.out); rintro e w19 ⟨rfl, hb⟩; refine ⟨_, rfl, ?_⟩; have n0_ := Aside0.mk (below_step (by repeat (first | (with_reducible first | exact HB.out | apply below_alloc | apply pw_below_drewN | apply below_drew1) | exact HB.out)) hb); clear HB; have HB := n0_; clear n0_; (try clear hb); (try clear hb2); (try clear hk); (try clear hi)))
        (try simp only [Act.put, List.setIfInBounds_toArray, List.set_cons_zero, List.set_cons_succ])
        go_cut [57] (fun v57 wc => ∃ (kq : Nat) (x57_15 : Bool), v57 = .bool x57_15 ∧ Aside0 (tachographlaw12_TraceChecks.j1 kq l0 l1 x57_15 = some r) ∧ Aside0 (kq ≤ kj2) ∧ Aside0 (Below w.heap.size w wc))
        case first =>
          have H := HC16.out
          clear HC16
          by_cases c20 : t162 = t164
          · rw [if_pos c20] at H
            have c20b0 : (t162 == t164) = true := beq_iff_eq.mpr c20
            have c20b1 : (t162 != t164) = false := bne_eq_false_iff_eq.mpr c20
            clear c20
            (first | rw [c20b0] | (simp only [i64_w, i32_w]; rw [c20b0]) | skip)
            by_cases c21 : t163 = t165
            · rw [if_pos c21] at H
              have c21b0 : (t163 == t165) = true := beq_iff_eq.mpr c21
              have c21b1 : (t163 != t165) = false := bne_eq_false_iff_eq.mpr c21
              clear c21
              replace H := Option.bind_eq_some_iff.mp H
              obtain ⟨⟨t169, t170, t171⟩, A220, H⟩ := H
              replace H : (tachographlaw12_TraceChecks.j1 kj2 l0 l1 (!(t166 == t169) || (!(t167 == t170) || (!(t168 == t171))))) = some r := H
              have A22 := Aside0.mk A220
              clear A220
              have H' := Aside0.mk H
              clear H
              go_wp2_with (first | (go_at_call 34; (with_reducible refine (tachographref12_Count.calls kj2 _ _ l1 t169 t170 t171 _ ?side1 ?side2 A22.out).mono ?_); (case side1 => repeat (first | exact (Kd.C_below HR1.out HB.out) | (with_reducible refine Kd.C_alloc ?_ _) | (with_reducible refine Kd.C_drewN ?_ _) | (with_reducible refine Kd.C_drew ?_))); (case side2 => exact HC1.out); rintro e w23 ⟨rfl, hb⟩; have n0_ := Aside0.mk (below_step (by repeat (first | (with_reducible first | exact HB.out | apply below_alloc | apply pw_below_drewN | apply below_drew1) | exact HB.out)) hb); clear HB; have HB := n0_; clear n0_; (try clear hb); (try clear hb2); (try clear hk); (try clear hi)))
              go_meet
              case rel => exact ⟨_, ((!(t166 == t169) || (!(t167 == t170) || (!(t168 == t171))))), (by first | rfl | (simp; done) | (simp [*]; done)), H', ⟨by have := HJ2.out; first | omega | exact Nat.le_refl _⟩, ⟨by repeat (first | (with_reducible first | exact HB.out | apply below_alloc | apply pw_below_drewN | apply below_drew1) | exact HB.out)⟩⟩
            · rw [if_neg c21] at H
              have c21b0 : (t163 == t165) = false := beq_eq_false_iff_ne.mpr c21
              have c21b1 : (t163 != t165) = true := bne_iff_ne.mpr c21
              have H' := Aside0.mk H
              clear H
              go_wp2
              go_meet
              case rel => exact ⟨_, (true), (by first | rfl | (simp; done) | (simp [*]; done)), H', ⟨by have := HJ2.out; first | omega | exact Nat.le_refl _⟩, ⟨by repeat (first | (with_reducible first | exact HB.out | apply below_alloc | apply pw_below_drewN | apply below_drew1) | exact HB.out)⟩⟩
          · rw [if_neg c20] at H
            have c20b0 : (t162 == t164) = false := beq_eq_false_iff_ne.mpr c20
            have c20b1 : (t162 != t164) = true := bne_iff_ne.mpr c20
            (first | rw [c20b0] | (simp only [i64_w, i32_w]; rw [c20b0]) | skip)
            have H' := Aside0.mk H
            clear H
            go_wp2
            go_meet
            case rel => exact ⟨_, (true), (by first | rfl | (simp; done) | (simp [*]; done)), H', ⟨by have := HJ2.out; first | omega | exact Nat.le_refl _⟩, ⟨by repeat (first | (with_reducible first | exact HB.out | apply below_alloc | apply pw_below_drewN | apply below_drew1) | exact HB.out)⟩⟩
        case rest =>
          clear HC16
          try clear c1
          try clear c2
          try clear p2
          try clear c3
          try clear c5
          try clear c10
          try clear c20
          try clear c20b0
          try clear c20b1
          try clear c21
          try clear c21b0
          try clear c21b1
          try clear p2
          obtain ⟨kq, x57_15, rfl, HA, HJ15, HB⟩ := hcut
          cases kq with
          | zero => exact absurd HA.out (by simp [tachographlaw12_TraceChecks.j1])
          | succ kj15 =>
            have H := HA.out
            clear HA
            simp only [tachographlaw12_TraceChecks.j1] at H
            by_cases c24 : x57_15 = true
            · subst c24
              have H1 : (some false) = some r := by rw [if_pos rfl] at H; exact H
              clear H
              have H := H1
              clear H1
              obtain rfl := Option.some.inj H
              go_wp2
              go_ret
              exact ⟨by first | rfl | (simp [errW_none, errW_some] <;> rfl) | (simp [*, errW_none, errW_some] <;> rfl), by repeat (first | (with_reducible first | exact HB.out | apply below_alloc | apply pw_below_drewN | apply below_drew1) | exact HB.out)⟩
            · replace c24 := Bool.eq_false_iff.mpr c24
              subst c24
              have H1 : (tachographlaw12_TraceChecks.l0 kj15 l0 l1 (l1.length : Int) 0) = some r := by rw [if_neg (show ¬ (false = true) by decide)] at H; exact H
              clear H
              have H := H1
              clear H1
              have H' := Aside0.mk H
              clear H
              go_wp2
              go_loopg [60] kj15 (fun kq v60 w' => ∃ (x60_3 : Int), v60 = .int .i64 x60_3 ∧ Aside0 (tachographlaw12_TraceChecks.l0 kq l0 l1 (l1.length : Int) x60_3 = some r) ∧ Aside0 (kq ≤ kj15) ∧ Aside0 (Below w.heap.size w w'))
              case atStart => exact ⟨(0), (by first | rfl | (simp; done) | (simp [*]; done)), H', ⟨Nat.le_refl _⟩, ⟨by repeat (first | (with_reducible first | exact HB.out | apply below_alloc | apply pw_below_drewN | apply below_drew1) | exact HB.out)⟩⟩
              case round =>
                clear H'
                try clear c1
                try clear c2
                try clear p2
                try clear c3
                try clear c5
                try clear c10
                try clear c20
                try clear c20b0
                try clear c20b1
                try clear c21
                try clear c21b0
                try clear c21b1
                try clear c24
                try clear p2
                obtain ⟨x60_3, rfl, HA, HK3, HB⟩ := hrel
                cases gk with
                | zero => exact absurd HA.out (by simp [tachographlaw12_TraceChecks.l0])
                | succ k3 =>
                  have H := HA.out
                  clear HA
                  simp only [tachographlaw12_TraceChecks.l0] at H
                  by_cases c25 : x60_3 < (l1.length : Int)
                  · rw [if_pos c25] at H
                    have c25b0 : decide (x60_3 < (l1.length : Int)) = true := decide_eq_true c25
                    clear c25
                    by_cases c26 : 0 ≤ x60_3
                    · rw [if_pos c26] at H
                      have c26b0 : decide (0 ≤ x60_3) = true := decide_eq_true c26
                      clear c26
                      by_cases c27 : x60_3 < (l1.length : Int)
                      · rw [if_pos c27] at H
                        have c27b0 : decide (x60_3 < (l1.length : Int)) = true := decide_eq_true c27
                        clear c27
                        have H' := Aside0.mk H
                        clear H
                        have p173 : 0 ≤ (x60_3 : Int) := of_decide_eq_true (by first | (with_reducible assumption) | assumption)
                        have q173 : x60_3 < (l1.length : Int) := of_decide_eq_true (by first | (with_reducible assumption) | assumption)
                        obtain ⟨ad173, A173_1, c173_1, e173, hx173_0, hx173_1, hl173_1, hi173_1⟩ := at_T44 HR1.out x60_3 p173 q173
                        cases e173
                        replace hx173_0 := (HB.out.cell (World.block_lt_of_cell? w _ hx173_0)).trans hx173_0
                        replace hx173_1 := (HB.out.cell (World.block_lt_of_cell? w _ hx173_1)).trans hx173_1
                        have HR173_1 := Aside0.mk hi173_1
                        have HC173_1 := Aside0.mk hl173_1
                        clear hi173_1 hl173_1
                        replace p173 := eq_true p173
                        replace q173 := eq_true q173
                        go_wp2_with (first | ((with_reducible refine gate_dst (N := 13) rfl ?_); refine box_event ?hg (N := 13) ?hd (cs := #[.int .u64 0, .slice none 0 0]) (t := 44) ?hr ?_; (case hd => rfl); (case hg => rfl); (case hr => first | (go_simp; done) | (go_simp; rfl)); intro gb174 hg w28 hbox hb; have n0_ := Aside0.mk (below_step (by repeat (first | (with_reducible first | exact HB.out | apply below_alloc | apply pw_below_drewN | apply below_drew1) | exact HB.out)) hb); have n1_ := Aside0.mk (hbox); have n2_ := Aside0.mk ((by rw [hg]; exact (below_size (by repeat (first | (with_reducible first | exact HB.out | apply below_alloc | apply pw_below_drewN | apply below_drew1) | exact HB.out))) : w.heap.size ≤ gb174)); have n3_ := Aside0.mk ((by rw [hg]; exact (below_size (by repeat (first | (with_reducible first | exact HB.out | apply below_alloc | apply pw_below_drewN | apply below_drew1) | exact HB.out))) : w.heap.size ≤ gb174)); clear HB; have HB := n0_; have BK174 := n1_; have GW174 := n2_; have GE174 := n3_; clear n0_ n1_ n2_ n3_; clear hb hbox hg; have hcz29_0 : w28.cell? ⟨gb174, 0, none⟩ = some (.int .u64 0) := (blk_cell BK174.out 0).trans rfl; have hcz29_1 : w28.cell? ⟨gb174, 1, none⟩ = some (.slice none 0 0) := (blk_cell BK174.out 1).trans rfl; have hfz29_0 := blk_frozen BK174.out 0; have hfz29_1 := blk_frozen BK174.out 1))
                        go_loopg [67] k3 (fun kq v67 w' => ∃ (x67_4 : Int), v67 = .int .i64 x67_4 ∧ Aside0 (tachographlaw12_TraceChecks.l1 kq l0 l1 (l1.length : Int) x60_3 ((rd_T44 l1 x60_3).f1) (((rd_T44 l1 x60_3).f1).length : Int) x67_4 = some r) ∧ Aside0 (kq ≤ k3) ∧ Aside0 (w'.heap[gb174]? = some (.cells #[.int .u64 ((rd_T44 l1 x60_3).f0), (.slice A173_1 ((rd_T44 l1 x60_3).f1).length c173_1)] 44 (0, 0))) ∧ Aside0 (Below w.heap.size w w'))
                        case atStart => exact ⟨(0), (by first | rfl | (simp; done) | (simp [*]; done)), H', ⟨Nat.le_refl _⟩, ⟨by (with_reducible repeat (first | refine blk_drewN ?_ _ | refine blk_drew ?_ | refine blk_alloc ?_ _)); refine blk_put (cs := #[.int .u64 ((rd_T44 l1 x60_3).f0), .slice none 0 0]) ?_ 1 _ rfl; (with_reducible repeat (first | refine blk_drewN ?_ _ | refine blk_drew ?_ | refine blk_alloc ?_ _)); refine blk_put (cs := #[.int .u64 0, .slice none 0 0]) ?_ 0 _ rfl; (with_reducible repeat (first | refine blk_drewN ?_ _ | refine blk_drew ?_ | refine blk_alloc ?_ _)); exact BK174.out⟩, ⟨by repeat (first | (with_reducible first | exact HB.out | apply below_alloc | apply pw_below_drewN | apply below_drew1 | refine below_set ?_ GE174.out) | exact HB.out)⟩⟩
                        case round =>
                          clear H'
                          try clear c1
                          try clear p1
                          try clear q1
                          try clear hx1
                          try clear c2
                          try clear p2
                          try clear c3
                          try clear c5
                          try clear c10
                          try clear c17
                          try clear p17
                          try clear q17
                          try clear hx17
                          try clear c20
                          try clear c20b0
                          try clear c20b1
                          try clear c21
                          try clear c21b0
                          try clear c21b1
                          try clear c24
                          try clear c25
                          try clear c25b0
                          try clear c26
                          try clear c26b0
                          try clear c27
                          try clear c27b0
                          try clear c29
                          try clear hcz29_0
                          try clear hcz29_1
                          try clear hfz29_0
                          try clear hfz29_1
                          try clear hx173_0
                          try clear hx173_1
                          try clear p173
                          try clear p2
                          try clear q173
                          obtain ⟨x67_4, rfl, HA, HK4, BK174, HB⟩ := hrel
                          cases gk with
                          | zero => exact absurd HA.out (by simp [tachographlaw12_TraceChecks.l1])
                          | succ k4 =>
                            have H := HA.out
                            clear HA
                            simp only [tachographlaw12_TraceChecks.l1] at H
                            by_cases c30 : x67_4 < (((rd_T44 l1 x60_3).f1).length : Int)
                            · rw [if_pos c30] at H
                              have c30b0 : decide (x67_4 < (((rd_T44 l1 x60_3).f1).length : Int)) = true := decide_eq_true c30
                              clear c30
                              by_cases c31 : 0 ≤ x67_4
                              · rw [if_pos c31] at H
                                have c31b0 : decide (0 ≤ x67_4) = true := decide_eq_true c31
                                clear c31
                                by_cases c32 : x67_4 < (((rd_T44 l1 x60_3).f1).length : Int)
                                · rw [if_pos c32] at H
                                  have c32b0 : decide (x67_4 < (((rd_T44 l1 x60_3).f1).length : Int)) = true := decide_eq_true c32
                                  clear c32
                                  replace H := Option.bind_eq_some_iff.mp H
                                  obtain ⟨t177, A330, H⟩ := H
                                  replace H : ((tachographref12_Event.f k4 l0 ((rd_T61 ((rd_T44 l1 x60_3).f1) x67_4).f0) ((rd_T61 ((rd_T44 l1 x60_3).f1) x67_4).f1)).bind fun t178 => (if t177 = t178 then (tachographlaw12_TraceChecks.l1 k4 l0 l1 (l1.length : Int) x60_3 ((rd_T44 l1 x60_3).f1) (((rd_T44 l1 x60_3).f1).length : Int) (wrap64 (x67_4 + 1))) else (some false))) = some r := H
                                  have A33 := Aside0.mk A330
                                  clear A330
                                  replace H := Option.bind_eq_some_iff.mp H
                                  obtain ⟨t178, A340, H⟩ := H
                                  replace H : (if t177 = t178 then (tachographlaw12_TraceChecks.l1 k4 l0 l1 (l1.length : Int) x60_3 ((rd_T44 l1 x60_3).f1) (((rd_T44 l1 x60_3).f1).length : Int) (wrap64 (x67_4 + 1))) else (some false)) = some r := H
                                  have A34 := Aside0.mk A340
                                  clear A340
                                  by_cases c35 : t177 = t178
                                  · rw [if_pos c35] at H
                                    have c35b0 : (t177 == t178) = true := beq_iff_eq.mpr c35
                                    have c35b1 : (t177 != t178) = false := bne_eq_false_iff_eq.mpr c35
                                    clear c35
                                    have H' := Aside0.mk H
                                    clear H
                                    have p175 : 0 ≤ (x67_4 : Int) := of_decide_eq_true (by first | (with_reducible assumption) | assumption)
                                    have q175 : x67_4 < (((rd_T44 l1 x60_3).f1).length : Int) := of_decide_eq_true (by first | (with_reducible assumption) | assumption)
                                    obtain ⟨ad175, A175_1, c175_1, e175, hx175_0, hx175_1, hl175_1, hi175_1⟩ := at_T61 HR173_1.out x67_4 p175 q175
                                    cases e175
                                    replace hx175_0 := (HB.out.cell (World.block_lt_of_cell? w _ hx175_0)).trans hx175_0
                                    replace hx175_1 := (HB.out.cell (World.block_lt_of_cell? w _ hx175_1)).trans hx175_1
                                    have HR175_1 := Aside0.mk hi175_1
                                    have HC175_1 := Aside0.mk hl175_1
                                    clear hi175_1 hl175_1
                                    replace p175 := eq_true p175
                                    replace q175 := eq_true q175
                                    try go_wp2_with (first | ((with_reducible refine gate_dst (N := 15) rfl ?_); refine box_event ?hg (N := 15) ?hd (cs := #[.int .i64 0, .slice none 0 0]) (t := 61) ?hr ?_; (case hd => rfl); (case hg => rfl); (case hr => first | (go_simp; done) | (go_simp; rfl)); intro gb176 hg w36 hbox hb; have n0_ := Aside0.mk (blk_below (g := gb174) (o := .cells #[.int .u64 ((rd_T44 l1 x60_3).f0), .slice (some ad175) ((rd_T44 l1 x60_3).f1).length c173_1] 44 (0, 0)) (by (with_reducible repeat (first | refine blk_drewN ?_ _ | refine blk_drew ?_ | refine blk_alloc ?_ _)); exact BK174.out) hb); have n1_ := Aside0.mk (below_step (by repeat (first | (with_reducible first | exact HB.out | apply below_alloc | apply pw_below_drewN | apply below_drew1 | refine below_set ?_ GE174.out) | exact HB.out)) hb); have n2_ := Aside0.mk (hbox); have n3_ := Aside0.mk ((by rw [hg]; exact (below_size (by repeat (first | (with_reducible first | exact HB.out | apply below_alloc | apply pw_below_drewN | apply below_drew1 | refine below_set ?_ GE174.out) | exact HB.out))) : w.heap.size ≤ gb176)); have n4_ := Aside0.mk ((by rw [hg]; exact (below_size (by repeat (first | (with_reducible first | exact HB.out | apply below_alloc | apply pw_below_drewN | apply below_drew1 | refine below_set ?_ GE174.out) | exact HB.out))) : w.heap.size ≤ gb176)); have n5_ := Aside0.mk ((by rw [hg]; exact Nat.ne_of_lt (blk_lt (g := gb174) (o := .cells #[.int .u64 ((rd_T44 l1 x60_3).f0), .slice (some ad175) ((rd_T44 l1 x60_3).f1).length c173_1] 44 (0, 0)) (by (with_reducible repeat (first | refine blk_drewN ?_ _ | refine blk_drew ?_ | refine blk_alloc ?_ _)); exact BK174.out)) : gb174 ≠ gb176)); have n6_ := Aside0.mk ((by rw [hg]; exact Nat.ne_of_gt (blk_lt (g := gb174) (o := .cells #[.int .u64 ((rd_T44 l1 x60_3).f0), .slice (some ad175) ((rd_T44 l1 x60_3).f1).length c173_1] 44 (0, 0)) (by (with_reducible repeat (first | refine blk_drewN ?_ _ | refine blk_drew ?_ | refine blk_alloc ?_ _)); exact BK174.out)) : gb176 ≠ gb174)); clear BK174; clear HB; have BK174 := n0_; have HB := n1_; have BK176 := n2_; have GW176 := n3_; have GE176 := n4_; have NB174_176 := n5_; have NB176_174 := n6_; clear n0_ n1_ n2_ n3_ n4_ n5_ n6_; clear hb hbox hg; have hnb37 := NB176_174.out; have hnc37 := NB174_176.out; have hcz38_0 : w36.cell? ⟨gb176, 0, none⟩ = some (.int .i64 0) := (blk_cell BK176.out 0).trans rfl; have hcz38_1 : w36.cell? ⟨gb176, 1, none⟩ = some (.slice none 0 0) := (blk_cell BK176.out 1).trans rfl; have hfz38_0 := blk_frozen BK176.out 0; have hfz38_1 := blk_frozen BK176.out 1))
                                    have n0_ : Aside0 (((w36.setCell ⟨gb176, 0, none⟩ (.int .i64 ((rd_T61 ((rd_T44 l1 x60_3).f1) x67_4).f0))).setCell ⟨gb176, 1, none⟩ (.slice A175_1 ((rd_T61 ((rd_T44 l1 x60_3).f1) x67_4).f1).length c175_1)).heap[gb174]? = some (.cells #[.int .u64 ((rd_T44 l1 x60_3).f0), .slice (some ad175) ((rd_T44 l1 x60_3).f1).length c173_1] 44 (0, 0))) := ⟨by (with_reducible repeat (first | refine blk_drewN ?_ _ | refine blk_drew ?_ | refine blk_alloc ?_ _)); refine blk_far ?_ NB174_176.out _; (with_reducible repeat (first | refine blk_drewN ?_ _ | refine blk_drew ?_ | refine blk_alloc ?_ _)); refine blk_far ?_ NB174_176.out _; (with_reducible repeat (first | refine blk_drewN ?_ _ | refine blk_drew ?_ | refine blk_alloc ?_ _)); exact BK174.out⟩
                                    have n1_ : Aside0 (((w36.setCell ⟨gb176, 0, none⟩ (.int .i64 ((rd_T61 ((rd_T44 l1 x60_3).f1) x67_4).f0))).setCell ⟨gb176, 1, none⟩ (.slice A175_1 ((rd_T61 ((rd_T44 l1 x60_3).f1) x67_4).f1).length c175_1)).heap[gb176]? = some (.cells #[.int .i64 ((rd_T61 ((rd_T44 l1 x60_3).f1) x67_4).f0), .slice A175_1 ((rd_T61 ((rd_T44 l1 x60_3).f1) x67_4).f1).length c175_1] 61 (0, 0))) := ⟨by (with_reducible repeat (first | refine blk_drewN ?_ _ | refine blk_drew ?_ | refine blk_alloc ?_ _)); refine blk_put (cs := #[.int .i64 ((rd_T61 ((rd_T44 l1 x60_3).f1) x67_4).f0), .slice none 0 0]) ?_ 1 _ rfl; (with_reducible repeat (first | refine blk_drewN ?_ _ | refine blk_drew ?_ | refine blk_alloc ?_ _)); refine blk_put (cs := #[.int .i64 0, .slice none 0 0]) ?_ 0 _ rfl; (with_reducible repeat (first | refine blk_drewN ?_ _ | refine blk_drew ?_ | refine blk_alloc ?_ _)); exact BK176.out⟩
                                    have n2_ : Aside0 (Below w.heap.size w ((w36.setCell ⟨gb176, 0, none⟩ (.int .i64 ((rd_T61 ((rd_T44 l1 x60_3).f1) x67_4).f0))).setCell ⟨gb176, 1, none⟩ (.slice A175_1 ((rd_T61 ((rd_T44 l1 x60_3).f1) x67_4).f1).length c175_1))) := ⟨by repeat (first | (with_reducible first | exact HB.out | apply below_alloc | apply pw_below_drewN | apply below_drew1 | refine below_set ?_ GE174.out | refine below_set ?_ GE176.out) | exact HB.out)⟩
                                    (try clear BK174)
                                    (try clear BK176)
                                    (try clear HB)
                                    generalize ((w36.setCell ⟨gb176, 0, none⟩ (.int .i64 ((rd_T61 ((rd_T44 l1 x60_3).f1) x67_4).f0))).setCell ⟨gb176, 1, none⟩ (.slice A175_1 ((rd_T61 ((rd_T44 l1 x60_3).f1) x67_4).f1).length c175_1)) = w39 at n0_ n1_ n2_ ⊢
                                    have BK174 := n0_
                                    have BK176 := n1_
                                    have HB := n2_
                                    clear n0_ n1_ n2_
                                    have n0_ := Aside0.mk (blk_drew BK174.out)
                                    have n1_ := Aside0.mk (blk_drew BK176.out)
                                    have n2_ := Aside0.mk (below_drew1 HB.out)
                                    clear BK174
                                    clear BK176
                                    clear HB
                                    have BK174 := n0_
                                    have BK176 := n1_
                                    have HB := n2_
                                    clear n0_ n1_ n2_
                                    refine start_ (n := 7) (S := fun w' => w'.cell? ⟨gb176, 0, none⟩ = some (.int .i64 ((rd_T61 ((rd_T44 l1 x60_3).f1) x67_4).f0)) ∧ w'.cell? ⟨gb176, 1, none⟩ = some (.slice A175_1 ((rd_T61 ((rd_T44 l1 x60_3).f1) x67_4).f1).length c175_1)) (ds := []) #[false, false, false, false, false, false, false] (by kernel_rfl) rfl rfl ⟨(blk_cell BK176.out 0).trans rfl, (blk_cell BK176.out 1).trans rfl⟩ (fun hHeld => ?_)
                                    generalize w39.drew = w40 at BK174 BK176 HB hHeld ⊢
                                    refine pure_ (i := 0) (N := some 71) (v := ?_) (a' := ?_) #[true, false, false, false, false, false, false] rfl rfl (by kernel_rfl) (fun _ _ _ h => h) (Or.inl ⟨by rfl, ?_⟩) ?_ ?_
                                    rotate_left
                                    · intro w'
                                      go_simp
                                      with_reducible rfl
                                    rotate_left
                                    · simp only [Act.put, List.setIfInBounds_toArray, List.set_cons_zero, List.set_cons_succ, i64_w, i32_w]
                                      rfl
                                    refine pure_ (i := 3) (N := some 74) (v := ?_) (a' := ?_) #[true, false, false, true, false, false, false] rfl rfl (by kernel_rfl) (fun _ _ _ h => h) (Or.inl ⟨by rfl, ?_⟩) ?_ ?_
                                    rotate_left
                                    · intro w'
                                      go_simp
                                      with_reducible rfl
                                    rotate_left
                                    · simp only [Act.put, List.setIfInBounds_toArray, List.set_cons_zero, List.set_cons_succ, i64_w, i32_w]
                                      rfl
                                    refine take_ (i := 1) (N := some 72) (v := ?_) (a' := ?_) #[true, true, false, true, false, false, false] rfl rfl (by kernel_rfl) (fun _ _ _ h => h) (Or.inl ⟨by rfl, ?_⟩) hHeld ?_ ?_
                                    rotate_left
                                    · rintro w' ⟨s0, s1⟩
                                      go_simp
                                      with_reducible rfl
                                    rotate_left
                                    · simp only [Act.put, List.setIfInBounds_toArray, List.set_cons_zero, List.set_cons_succ, i64_w, i32_w]
                                      rfl
                                    refine take_ (i := 4) (N := some 75) (v := ?_) (a' := ?_) #[true, true, false, true, true, false, false] rfl rfl (by kernel_rfl) (fun _ _ _ h => h) (Or.inl ⟨by rfl, ?_⟩) hHeld ?_ ?_
                                    rotate_left
                                    · rintro w' ⟨s0, s1⟩
                                      go_simp
                                      with_reducible rfl
                                    rotate_left
                                    · simp only [Act.put, List.setIfInBounds_toArray, List.set_cons_zero, List.set_cons_succ, i64_w, i32_w]
                                      rfl
                                    refine one_ (i := 2) (N := some 73) #[true, true, true, true, true, false, false] rfl rfl (by kernel_rfl) (by decide) (fun K hK => ?_)
                                    refine goes_ Try.func35 (by kernel_rfl) rfl #[.slice A0 l0.length c0, .agg #[.int .i64 ((rd_T61 ((rd_T44 l1 x60_3).f1) x67_4).f0), .slice A175_1 ((rd_T61 ((rd_T44 l1 x60_3).f1) x67_4).f1).length c175_1]] (by rfl) rfl rfl (by (try simp only [List.map_toArray, List.map_cons, List.map_nil]); first | done | rfl | (simp only [List.length_drop, List.length_take]; rfl) | (refine congrArg (fun z_ => #[z_]) (congrArg (Value.int IntKind.u64) (Eq.symm (Go.Proofs.YtjfklfmfeghjnabAid.wrap_len _ (by omega)))))) ?_
                                    with_reducible refine (trace_Event.calls k4 _ _ l0 ((rd_T61 ((rd_T44 l1 x60_3).f1) x67_4).f0) _ _ ((rd_T61 ((rd_T44 l1 x60_3).f1) x67_4).f1) t177 _ ?side1 ?side2 ?side3 ?side4 A33.out).mono ?_
                                    (case side1 => repeat (first | exact (Kd.C_below HR0.out HB.out) | (with_reducible refine Kd.C_alloc ?_ _) | (with_reducible refine Kd.C_drewN ?_ _) | (with_reducible refine Kd.C_drew ?_)))
                                    (case side2 => exact HC0.out)
                                    (case side3 => repeat (first | exact (Kd.C_below HR175_1.out HB.out) | (with_reducible refine Kd.C_alloc ?_ _) | (with_reducible refine Kd.C_drewN ?_ _) | (with_reducible refine Kd.C_drew ?_)))
                                    (case side4 => exact HC175_1.out)
                                    rintro e w41 ⟨rfl, hb⟩
                                    refine ⟨_, rfl, ?_⟩
                                    have n0_ := Aside0.mk (blk_below (g := gb174) (o := .cells #[.int .u64 ((rd_T44 l1 x60_3).f0), .slice (some ad175) ((rd_T44 l1 x60_3).f1).length c173_1] 44 (0, 0)) (by (with_reducible repeat (first | refine blk_drewN ?_ _ | refine blk_drew ?_ | refine blk_alloc ?_ _)); exact BK174.out) hb)
                                    have n1_ := Aside0.mk (blk_below (g := gb176) (o := .cells #[.int .i64 ((rd_T61 ((rd_T44 l1 x60_3).f1) x67_4).f0), .slice A175_1 ((rd_T61 ((rd_T44 l1 x60_3).f1) x67_4).f1).length c175_1] 61 (0, 0)) (by (with_reducible repeat (first | refine blk_drewN ?_ _ | refine blk_drew ?_ | refine blk_alloc ?_ _)); exact BK176.out) hb)
                                    have n2_ := Aside0.mk (below_step (by repeat (first | (with_reducible first | exact HB.out | apply below_alloc | apply pw_below_drewN | apply below_drew1 | refine below_set ?_ GE174.out | refine below_set ?_ GE176.out) | exact HB.out)) hb)
                                    clear BK174
                                    clear BK176
                                    clear HB
                                    have BK174 := n0_
                                    have BK176 := n1_
                                    have HB := n2_
                                    clear n0_ n1_ n2_
                                    (try clear hb)
                                    (try clear hb2)
                                    (try clear hk)
                                    (try clear hi)
                                    refine hK.out _ _ ⟨(blk_cell BK176.out 0).trans rfl, (blk_cell BK176.out 1).trans rfl⟩ (fun hHeld => ?_)
                                    clear hK K
                                    refine norm_ (a' := ?_) ?_ ?_
                                    rotate_left
                                    · show Act.put _ (some 73) _ = _
                                      simp only [Act.put, List.setIfInBounds_toArray, List.set_cons_zero, List.set_cons_succ, i64_w, i32_w]
                                      rfl
                                    refine one_ (i := 5) (N := some 76) #[true, true, true, true, true, true, false] rfl rfl (by kernel_rfl) (by decide) (fun K hK => ?_)
                                    refine goes_ Try.func36 (by kernel_rfl) rfl #[.slice A0 l0.length c0, .agg #[.int .i64 ((rd_T61 ((rd_T44 l1 x60_3).f1) x67_4).f0), .slice A175_1 ((rd_T61 ((rd_T44 l1 x60_3).f1) x67_4).f1).length c175_1]] (by rfl) rfl rfl (by (try simp only [List.map_toArray, List.map_cons, List.map_nil]); first | done | rfl | (simp only [List.length_drop, List.length_take]; rfl) | (refine congrArg (fun z_ => #[z_]) (congrArg (Value.int IntKind.u64) (Eq.symm (Go.Proofs.YtjfklfmfeghjnabAid.wrap_len _ (by omega)))))) ?_
                                    with_reducible refine (tachographref12_Event.calls k4 _ _ l0 ((rd_T61 ((rd_T44 l1 x60_3).f1) x67_4).f0) _ _ ((rd_T61 ((rd_T44 l1 x60_3).f1) x67_4).f1) t178 _ ?side1 ?side2 ?side3 ?side4 A34.out).mono ?_
                                    (case side1 => repeat (first | exact (Kd.C_below HR0.out HB.out) | (with_reducible refine Kd.C_alloc ?_ _) | (with_reducible refine Kd.C_drewN ?_ _) | (with_reducible refine Kd.C_drew ?_)))
                                    (case side2 => exact HC0.out)
                                    (case side3 => repeat (first | exact (Kd.C_below HR175_1.out HB.out) | (with_reducible refine Kd.C_alloc ?_ _) | (with_reducible refine Kd.C_drewN ?_ _) | (with_reducible refine Kd.C_drew ?_)))
                                    (case side4 => exact HC175_1.out)
                                    rintro e w42 ⟨rfl, hb⟩
                                    refine ⟨_, rfl, ?_⟩
                                    have n0_ := Aside0.mk (blk_below (g := gb174) (o := .cells #[.int .u64 ((rd_T44 l1 x60_3).f0), .slice (some ad175) ((rd_T44 l1 x60_3).f1).length c173_1] 44 (0, 0)) (by (with_reducible repeat (first | refine blk_drewN ?_ _ | refine blk_drew ?_ | refine blk_alloc ?_ _)); exact BK174.out) hb)
                                    have n1_ := Aside0.mk (blk_below (g := gb176) (o := .cells #[.int .i64 ((rd_T61 ((rd_T44 l1 x60_3).f1) x67_4).f0), .slice A175_1 ((rd_T61 ((rd_T44 l1 x60_3).f1) x67_4).f1).length c175_1] 61 (0, 0)) (by (with_reducible repeat (first | refine blk_drewN ?_ _ | refine blk_drew ?_ | refine blk_alloc ?_ _)); exact BK176.out) hb)
                                    have n2_ := Aside0.mk (below_step (by repeat (first | (with_reducible first | exact HB.out | apply below_alloc | apply pw_below_drewN | apply below_drew1 | refine below_set ?_ GE174.out | refine below_set ?_ GE176.out) | exact HB.out)) hb)
                                    clear BK174
                                    clear BK176
                                    clear HB
                                    have BK174 := n0_
                                    have BK176 := n1_
                                    have HB := n2_
                                    clear n0_ n1_ n2_
                                    (try clear hb)
                                    (try clear hb2)
                                    (try clear hk)
                                    (try clear hi)
                                    refine hK.out _ _ ⟨(blk_cell BK176.out 0).trans rfl, (blk_cell BK176.out 1).trans rfl⟩ (fun hHeld => ?_)
                                    clear hK K
                                    refine norm_ (a' := ?_) ?_ ?_
                                    rotate_left
                                    · show Act.put _ (some 76) _ = _
                                      simp only [Act.put, List.setIfInBounds_toArray, List.set_cons_zero, List.set_cons_succ, i64_w, i32_w]
                                      rfl
                                    refine pure_ (i := 6) (N := some 77) (v := ?_) (a' := ?_) #[true, true, true, true, true, true, true] rfl rfl (by kernel_rfl) (fun _ _ _ h => h) (Or.inl ⟨by rfl, ?_⟩) ?_ ?_
                                    rotate_left
                                    · intro w'
                                      go_simp
                                      with_reducible rfl
                                    rotate_left
                                    · simp only [Act.put, List.setIfInBounds_toArray, List.set_cons_zero, List.set_cons_succ, i64_w, i32_w]
                                      rfl
                                    refine done_ (by kernel_rfl) ?_
                                    try go_wp2
                                    go_roundg k4
                                    case measure => have := HJ2.out; have := HJ15.out; have := HK3.out; have := HK4.out; omega
                                    case rel => exact ⟨(wrap64 (x67_4 + 1)), (by first | rfl | (simp; done) | (simp [*]; done)), H', ⟨by have := HJ2.out; have := HJ15.out; have := HK3.out; have := HK4.out; omega⟩, ⟨by (with_reducible repeat (first | refine blk_drewN ?_ _ | refine blk_drew ?_ | refine blk_alloc ?_ _)); exact BK174.out⟩, ⟨by repeat (first | (with_reducible first | exact HB.out | apply below_alloc | apply pw_below_drewN | apply below_drew1 | refine below_set ?_ GE174.out | refine below_set ?_ GE176.out) | exact HB.out)⟩⟩
                                  · rw [if_neg c35] at H
                                    have c35b0 : (t177 == t178) = false := beq_eq_false_iff_ne.mpr c35
                                    have c35b1 : (t177 != t178) = true := bne_iff_ne.mpr c35
                                    obtain rfl := Option.some.inj H
                                    have p175 : 0 ≤ (x67_4 : Int) := of_decide_eq_true (by first | (with_reducible assumption) | assumption)
                                    have q175 : x67_4 < (((rd_T44 l1 x60_3).f1).length : Int) := of_decide_eq_true (by first | (with_reducible assumption) | assumption)
                                    obtain ⟨ad175, A175_1, c175_1, e175, hx175_0, hx175_1, hl175_1, hi175_1⟩ := at_T61 HR173_1.out x67_4 p175 q175
                                    cases e175
                                    replace hx175_0 := (HB.out.cell (World.block_lt_of_cell? w _ hx175_0)).trans hx175_0
                                    replace hx175_1 := (HB.out.cell (World.block_lt_of_cell? w _ hx175_1)).trans hx175_1
                                    have HR175_1 := Aside0.mk hi175_1
                                    have HC175_1 := Aside0.mk hl175_1
                                    clear hi175_1 hl175_1
                                    replace p175 := eq_true p175
                                    replace q175 := eq_true q175
                                    try go_wp2_with (first | ((with_reducible refine gate_dst (N := 15) rfl ?_); refine box_event ?hg (N := 15) ?hd (cs := #[.int .i64 0, .slice none 0 0]) (t := 61) ?hr ?_; (case hd => rfl); (case hg => rfl); (case hr => first | (go_simp; done) | (go_simp; rfl)); intro gb176 hg w43 hbox hb; have n0_ := Aside0.mk (blk_below (g := gb174) (o := .cells #[.int .u64 ((rd_T44 l1 x60_3).f0), .slice (some ad175) ((rd_T44 l1 x60_3).f1).length c173_1] 44 (0, 0)) (by (with_reducible repeat (first | refine blk_drewN ?_ _ | refine blk_drew ?_ | refine blk_alloc ?_ _)); exact BK174.out) hb); have n1_ := Aside0.mk (below_step (by repeat (first | (with_reducible first | exact HB.out | apply below_alloc | apply pw_below_drewN | apply below_drew1 | refine below_set ?_ GE174.out) | exact HB.out)) hb); have n2_ := Aside0.mk (hbox); have n3_ := Aside0.mk ((by rw [hg]; exact (below_size (by repeat (first | (with_reducible first | exact HB.out | apply below_alloc | apply pw_below_drewN | apply below_drew1 | refine below_set ?_ GE174.out) | exact HB.out))) : w.heap.size ≤ gb176)); have n4_ := Aside0.mk ((by rw [hg]; exact (below_size (by repeat (first | (with_reducible first | exact HB.out | apply below_alloc | apply pw_below_drewN | apply below_drew1 | refine below_set ?_ GE174.out) | exact HB.out))) : w.heap.size ≤ gb176)); have n5_ := Aside0.mk ((by rw [hg]; exact Nat.ne_of_lt (blk_lt (g := gb174) (o := .cells #[.int .u64 ((rd_T44 l1 x60_3).f0), .slice (some ad175) ((rd_T44 l1 x60_3).f1).length c173_1] 44 (0, 0)) (by (with_reducible repeat (first | refine blk_drewN ?_ _ | refine blk_drew ?_ | refine blk_alloc ?_ _)); exact BK174.out)) : gb174 ≠ gb176)); have n6_ := Aside0.mk ((by rw [hg]; exact Nat.ne_of_gt (blk_lt (g := gb174) (o := .cells #[.int .u64 ((rd_T44 l1 x60_3).f0), .slice (some ad175) ((rd_T44 l1 x60_3).f1).length c173_1] 44 (0, 0)) (by (with_reducible repeat (first | refine blk_drewN ?_ _ | refine blk_drew ?_ | refine blk_alloc ?_ _)); exact BK174.out)) : gb176 ≠ gb174)); clear BK174; clear HB; have BK174 := n0_; have HB := n1_; have BK176 := n2_; have GW176 := n3_; have GE176 := n4_; have NB174_176 := n5_; have NB176_174 := n6_; clear n0_ n1_ n2_ n3_ n4_ n5_ n6_; clear hb hbox hg; have hnb44 := NB176_174.out; have hnc44 := NB174_176.out; have hcz45_0 : w43.cell? ⟨gb176, 0, none⟩ = some (.int .i64 0) := (blk_cell BK176.out 0).trans rfl; have hcz45_1 : w43.cell? ⟨gb176, 1, none⟩ = some (.slice none 0 0) := (blk_cell BK176.out 1).trans rfl; have hfz45_0 := blk_frozen BK176.out 0; have hfz45_1 := blk_frozen BK176.out 1))
                                    have n0_ : Aside0 (((w43.setCell ⟨gb176, 0, none⟩ (.int .i64 ((rd_T61 ((rd_T44 l1 x60_3).f1) x67_4).f0))).setCell ⟨gb176, 1, none⟩ (.slice A175_1 ((rd_T61 ((rd_T44 l1 x60_3).f1) x67_4).f1).length c175_1)).heap[gb174]? = some (.cells #[.int .u64 ((rd_T44 l1 x60_3).f0), .slice (some ad175) ((rd_T44 l1 x60_3).f1).length c173_1] 44 (0, 0))) := ⟨by (with_reducible repeat (first | refine blk_drewN ?_ _ | refine blk_drew ?_ | refine blk_alloc ?_ _)); refine blk_far ?_ NB174_176.out _; (with_reducible repeat (first | refine blk_drewN ?_ _ | refine blk_drew ?_ | refine blk_alloc ?_ _)); refine blk_far ?_ NB174_176.out _; (with_reducible repeat (first | refine blk_drewN ?_ _ | refine blk_drew ?_ | refine blk_alloc ?_ _)); exact BK174.out⟩
                                    have n1_ : Aside0 (((w43.setCell ⟨gb176, 0, none⟩ (.int .i64 ((rd_T61 ((rd_T44 l1 x60_3).f1) x67_4).f0))).setCell ⟨gb176, 1, none⟩ (.slice A175_1 ((rd_T61 ((rd_T44 l1 x60_3).f1) x67_4).f1).length c175_1)).heap[gb176]? = some (.cells #[.int .i64 ((rd_T61 ((rd_T44 l1 x60_3).f1) x67_4).f0), .slice A175_1 ((rd_T61 ((rd_T44 l1 x60_3).f1) x67_4).f1).length c175_1] 61 (0, 0))) := ⟨by (with_reducible repeat (first | refine blk_drewN ?_ _ | refine blk_drew ?_ | refine blk_alloc ?_ _)); refine blk_put (cs := #[.int .i64 ((rd_T61 ((rd_T44 l1 x60_3).f1) x67_4).f0), .slice none 0 0]) ?_ 1 _ rfl; (with_reducible repeat (first | refine blk_drewN ?_ _ | refine blk_drew ?_ | refine blk_alloc ?_ _)); refine blk_put (cs := #[.int .i64 0, .slice none 0 0]) ?_ 0 _ rfl; (with_reducible repeat (first | refine blk_drewN ?_ _ | refine blk_drew ?_ | refine blk_alloc ?_ _)); exact BK176.out⟩
                                    have n2_ : Aside0 (Below w.heap.size w ((w43.setCell ⟨gb176, 0, none⟩ (.int .i64 ((rd_T61 ((rd_T44 l1 x60_3).f1) x67_4).f0))).setCell ⟨gb176, 1, none⟩ (.slice A175_1 ((rd_T61 ((rd_T44 l1 x60_3).f1) x67_4).f1).length c175_1))) := ⟨by repeat (first | (with_reducible first | exact HB.out | apply below_alloc | apply pw_below_drewN | apply below_drew1 | refine below_set ?_ GE174.out | refine below_set ?_ GE176.out) | exact HB.out)⟩
                                    (try clear BK174)
                                    (try clear BK176)
                                    (try clear HB)
                                    generalize ((w43.setCell ⟨gb176, 0, none⟩ (.int .i64 ((rd_T61 ((rd_T44 l1 x60_3).f1) x67_4).f0))).setCell ⟨gb176, 1, none⟩ (.slice A175_1 ((rd_T61 ((rd_T44 l1 x60_3).f1) x67_4).f1).length c175_1)) = w46 at n0_ n1_ n2_ ⊢
                                    have BK174 := n0_
                                    have BK176 := n1_
                                    have HB := n2_
                                    clear n0_ n1_ n2_
                                    have n0_ := Aside0.mk (blk_drew BK174.out)
                                    have n1_ := Aside0.mk (blk_drew BK176.out)
                                    have n2_ := Aside0.mk (below_drew1 HB.out)
                                    clear BK174
                                    clear BK176
                                    clear HB
                                    have BK174 := n0_
                                    have BK176 := n1_
                                    have HB := n2_
                                    clear n0_ n1_ n2_
                                    refine start_ (n := 7) (S := fun w' => w'.cell? ⟨gb176, 0, none⟩ = some (.int .i64 ((rd_T61 ((rd_T44 l1 x60_3).f1) x67_4).f0)) ∧ w'.cell? ⟨gb176, 1, none⟩ = some (.slice A175_1 ((rd_T61 ((rd_T44 l1 x60_3).f1) x67_4).f1).length c175_1)) (ds := []) #[false, false, false, false, false, false, false] (by kernel_rfl) rfl rfl ⟨(blk_cell BK176.out 0).trans rfl, (blk_cell BK176.out 1).trans rfl⟩ (fun hHeld => ?_)
                                    generalize w46.drew = w47 at BK174 BK176 HB hHeld ⊢
                                    refine pure_ (i := 0) (N := some 71) (v := ?_) (a' := ?_) #[true, false, false, false, false, false, false] rfl rfl (by kernel_rfl) (fun _ _ _ h => h) (Or.inl ⟨by rfl, ?_⟩) ?_ ?_
                                    rotate_left
                                    · intro w'
                                      go_simp
                                      with_reducible rfl
                                    rotate_left
                                    · simp only [Act.put, List.setIfInBounds_toArray, List.set_cons_zero, List.set_cons_succ, i64_w, i32_w]
                                      rfl
                                    refine pure_ (i := 3) (N := some 74) (v := ?_) (a' := ?_) #[true, false, false, true, false, false, false] rfl rfl (by kernel_rfl) (fun _ _ _ h => h) (Or.inl ⟨by rfl, ?_⟩) ?_ ?_
                                    rotate_left
                                    · intro w'
                                      go_simp
                                      with_reducible rfl
                                    rotate_left
                                    · simp only [Act.put, List.setIfInBounds_toArray, List.set_cons_zero, List.set_cons_succ, i64_w, i32_w]
                                      rfl
                                    refine take_ (i := 1) (N := some 72) (v := ?_) (a' := ?_) #[true, true, false, true, false, false, false] rfl rfl (by kernel_rfl) (fun _ _ _ h => h) (Or.inl ⟨by rfl, ?_⟩) hHeld ?_ ?_
                                    rotate_left
                                    · rintro w' ⟨s0, s1⟩
                                      go_simp
                                      with_reducible rfl
                                    rotate_left
                                    · simp only [Act.put, List.setIfInBounds_toArray, List.set_cons_zero, List.set_cons_succ, i64_w, i32_w]
                                      rfl
                                    refine take_ (i := 4) (N := some 75) (v := ?_) (a' := ?_) #[true, true, false, true, true, false, false] rfl rfl (by kernel_rfl) (fun _ _ _ h => h) (Or.inl ⟨by rfl, ?_⟩) hHeld ?_ ?_
                                    rotate_left
                                    · rintro w' ⟨s0, s1⟩
                                      go_simp
                                      with_reducible rfl
                                    rotate_left
                                    · simp only [Act.put, List.setIfInBounds_toArray, List.set_cons_zero, List.set_cons_succ, i64_w, i32_w]
                                      rfl
                                    refine one_ (i := 2) (N := some 73) #[true, true, true, true, true, false, false] rfl rfl (by kernel_rfl) (by decide) (fun K hK => ?_)
                                    refine goes_ Try.func35 (by kernel_rfl) rfl #[.slice A0 l0.length c0, .agg #[.int .i64 ((rd_T61 ((rd_T44 l1 x60_3).f1) x67_4).f0), .slice A175_1 ((rd_T61 ((rd_T44 l1 x60_3).f1) x67_4).f1).length c175_1]] (by rfl) rfl rfl (by (try simp only [List.map_toArray, List.map_cons, List.map_nil]); first | done | rfl | (simp only [List.length_drop, List.length_take]; rfl) | (refine congrArg (fun z_ => #[z_]) (congrArg (Value.int IntKind.u64) (Eq.symm (Go.Proofs.YtjfklfmfeghjnabAid.wrap_len _ (by omega)))))) ?_
                                    with_reducible refine (trace_Event.calls k4 _ _ l0 ((rd_T61 ((rd_T44 l1 x60_3).f1) x67_4).f0) _ _ ((rd_T61 ((rd_T44 l1 x60_3).f1) x67_4).f1) t177 _ ?side1 ?side2 ?side3 ?side4 A33.out).mono ?_
                                    (case side1 => repeat (first | exact (Kd.C_below HR0.out HB.out) | (with_reducible refine Kd.C_alloc ?_ _) | (with_reducible refine Kd.C_drewN ?_ _) | (with_reducible refine Kd.C_drew ?_)))
                                    (case side2 => exact HC0.out)
                                    (case side3 => repeat (first | exact (Kd.C_below HR175_1.out HB.out) | (with_reducible refine Kd.C_alloc ?_ _) | (with_reducible refine Kd.C_drewN ?_ _) | (with_reducible refine Kd.C_drew ?_)))
                                    (case side4 => exact HC175_1.out)
                                    rintro e w48 ⟨rfl, hb⟩
                                    refine ⟨_, rfl, ?_⟩
                                    have n0_ := Aside0.mk (blk_below (g := gb174) (o := .cells #[.int .u64 ((rd_T44 l1 x60_3).f0), .slice (some ad175) ((rd_T44 l1 x60_3).f1).length c173_1] 44 (0, 0)) (by (with_reducible repeat (first | refine blk_drewN ?_ _ | refine blk_drew ?_ | refine blk_alloc ?_ _)); exact BK174.out) hb)
                                    have n1_ := Aside0.mk (blk_below (g := gb176) (o := .cells #[.int .i64 ((rd_T61 ((rd_T44 l1 x60_3).f1) x67_4).f0), .slice A175_1 ((rd_T61 ((rd_T44 l1 x60_3).f1) x67_4).f1).length c175_1] 61 (0, 0)) (by (with_reducible repeat (first | refine blk_drewN ?_ _ | refine blk_drew ?_ | refine blk_alloc ?_ _)); exact BK176.out) hb)
                                    have n2_ := Aside0.mk (below_step (by repeat (first | (with_reducible first | exact HB.out | apply below_alloc | apply pw_below_drewN | apply below_drew1 | refine below_set ?_ GE174.out | refine below_set ?_ GE176.out) | exact HB.out)) hb)
                                    clear BK174
                                    clear BK176
                                    clear HB
                                    have BK174 := n0_
                                    have BK176 := n1_
                                    have HB := n2_
                                    clear n0_ n1_ n2_
                                    (try clear hb)
                                    (try clear hb2)
                                    (try clear hk)
                                    (try clear hi)
                                    refine hK.out _ _ ⟨(blk_cell BK176.out 0).trans rfl, (blk_cell BK176.out 1).trans rfl⟩ (fun hHeld => ?_)
                                    clear hK K
                                    refine norm_ (a' := ?_) ?_ ?_
                                    rotate_left
                                    · show Act.put _ (some 73) _ = _
                                      simp only [Act.put, List.setIfInBounds_toArray, List.set_cons_zero, List.set_cons_succ, i64_w, i32_w]
                                      rfl
                                    refine one_ (i := 5) (N := some 76) #[true, true, true, true, true, true, false] rfl rfl (by kernel_rfl) (by decide) (fun K hK => ?_)
                                    refine goes_ Try.func36 (by kernel_rfl) rfl #[.slice A0 l0.length c0, .agg #[.int .i64 ((rd_T61 ((rd_T44 l1 x60_3).f1) x67_4).f0), .slice A175_1 ((rd_T61 ((rd_T44 l1 x60_3).f1) x67_4).f1).length c175_1]] (by rfl) rfl rfl (by (try simp only [List.map_toArray, List.map_cons, List.map_nil]); first | done | rfl | (simp only [List.length_drop, List.length_take]; rfl) | (refine congrArg (fun z_ => #[z_]) (congrArg (Value.int IntKind.u64) (Eq.symm (Go.Proofs.YtjfklfmfeghjnabAid.wrap_len _ (by omega)))))) ?_
                                    with_reducible refine (tachographref12_Event.calls k4 _ _ l0 ((rd_T61 ((rd_T44 l1 x60_3).f1) x67_4).f0) _ _ ((rd_T61 ((rd_T44 l1 x60_3).f1) x67_4).f1) t178 _ ?side1 ?side2 ?side3 ?side4 A34.out).mono ?_
                                    (case side1 => repeat (first | exact (Kd.C_below HR0.out HB.out) | (with_reducible refine Kd.C_alloc ?_ _) | (with_reducible refine Kd.C_drewN ?_ _) | (with_reducible refine Kd.C_drew ?_)))
                                    (case side2 => exact HC0.out)
                                    (case side3 => repeat (first | exact (Kd.C_below HR175_1.out HB.out) | (with_reducible refine Kd.C_alloc ?_ _) | (with_reducible refine Kd.C_drewN ?_ _) | (with_reducible refine Kd.C_drew ?_)))
                                    (case side4 => exact HC175_1.out)
                                    rintro e w49 ⟨rfl, hb⟩
                                    refine ⟨_, rfl, ?_⟩
                                    have n0_ := Aside0.mk (blk_below (g := gb174) (o := .cells #[.int .u64 ((rd_T44 l1 x60_3).f0), .slice (some ad175) ((rd_T44 l1 x60_3).f1).length c173_1] 44 (0, 0)) (by (with_reducible repeat (first | refine blk_drewN ?_ _ | refine blk_drew ?_ | refine blk_alloc ?_ _)); exact BK174.out) hb)
                                    have n1_ := Aside0.mk (blk_below (g := gb176) (o := .cells #[.int .i64 ((rd_T61 ((rd_T44 l1 x60_3).f1) x67_4).f0), .slice A175_1 ((rd_T61 ((rd_T44 l1 x60_3).f1) x67_4).f1).length c175_1] 61 (0, 0)) (by (with_reducible repeat (first | refine blk_drewN ?_ _ | refine blk_drew ?_ | refine blk_alloc ?_ _)); exact BK176.out) hb)
                                    have n2_ := Aside0.mk (below_step (by repeat (first | (with_reducible first | exact HB.out | apply below_alloc | apply pw_below_drewN | apply below_drew1 | refine below_set ?_ GE174.out | refine below_set ?_ GE176.out) | exact HB.out)) hb)
                                    clear BK174
                                    clear BK176
                                    clear HB
                                    have BK174 := n0_
                                    have BK176 := n1_
                                    have HB := n2_
                                    clear n0_ n1_ n2_
                                    (try clear hb)
                                    (try clear hb2)
                                    (try clear hk)
                                    (try clear hi)
                                    refine hK.out _ _ ⟨(blk_cell BK176.out 0).trans rfl, (blk_cell BK176.out 1).trans rfl⟩ (fun hHeld => ?_)
                                    clear hK K
                                    refine norm_ (a' := ?_) ?_ ?_
                                    rotate_left
                                    · show Act.put _ (some 76) _ = _
                                      simp only [Act.put, List.setIfInBounds_toArray, List.set_cons_zero, List.set_cons_succ, i64_w, i32_w]
                                      rfl
                                    refine pure_ (i := 6) (N := some 77) (v := ?_) (a' := ?_) #[true, true, true, true, true, true, true] rfl rfl (by kernel_rfl) (fun _ _ _ h => h) (Or.inl ⟨by rfl, ?_⟩) ?_ ?_
                                    rotate_left
                                    · intro w'
                                      go_simp
                                      with_reducible rfl
                                    rotate_left
                                    · simp only [Act.put, List.setIfInBounds_toArray, List.set_cons_zero, List.set_cons_succ, i64_w, i32_w]
                                      rfl
                                    refine done_ (by kernel_rfl) ?_
                                    try go_wp2
                                    go_ret
                                    exact ⟨by first | rfl | (simp [errW_none, errW_some] <;> rfl) | (simp [*, errW_none, errW_some] <;> rfl), by repeat (first | (with_reducible first | exact HB.out | apply below_alloc | apply pw_below_drewN | apply below_drew1 | refine below_set ?_ GE174.out | refine below_set ?_ GE176.out) | exact HB.out)⟩
                                · rw [if_neg c32] at H
                                  exact absurd H (by simp)
                              · rw [if_neg c31] at H
                                exact absurd H (by simp)
                            · rw [if_neg c30] at H
                              have c30b0 : decide (x67_4 < (((rd_T44 l1 x60_3).f1).length : Int)) = false := decide_eq_false c30
                              clear c30
                              have H' := Aside0.mk H
                              clear H
                              go_wp2
                              go_roundg k4
                              case measure => have := HJ2.out; have := HJ15.out; have := HK3.out; have := HK4.out; omega
                              case rel => exact ⟨(wrap64 (x60_3 + 1)), (by first | rfl | (simp; done) | (simp [*]; done)), H', ⟨by have := HJ2.out; have := HJ15.out; have := HK3.out; have := HK4.out; omega⟩, ⟨by repeat (first | (with_reducible first | exact HB.out | apply below_alloc | apply pw_below_drewN | apply below_drew1 | refine below_set ?_ GE174.out) | exact HB.out)⟩⟩
                      · rw [if_neg c27] at H
                        exact absurd H (by simp)
                    · rw [if_neg c26] at H
                      exact absurd H (by simp)
                  · rw [if_neg c25] at H
                    have c25b0 : decide (x60_3 < (l1.length : Int)) = false := decide_eq_false c25
                    clear c25
                    replace H := Option.bind_eq_some_iff.mp H
                    obtain ⟨t172, A500, H⟩ := H
                    replace H : (some t172) = some r := H
                    have A50 := Aside0.mk A500
                    clear A500
                    obtain rfl := Option.some.inj H
                    go_wp2_with (first | ((with_reducible refine gate_callee (f := 30) rfl ?_); refine goesL_ (some 80) rfl rfl Try.func30 (by kernel_rfl) rfl #[] rfl (by (try simp only [List.map_toArray, List.map_cons, List.map_nil]); first | done | rfl | (simp only [List.length_drop, List.length_take]; rfl) | (refine congrArg (fun z_ => #[z_]) (congrArg (Value.int IntKind.u64) (Eq.symm (Go.Proofs.YtjfklfmfeghjnabAid.wrap_len _ (by omega)))))) ?_; (with_reducible refine (tachographlaw12_fixed.calls k3  t172 _ A50.out).mono ?_); rintro e w51 ⟨rfl, hb⟩; refine ⟨_, rfl, ?_⟩; have n0_ := Aside0.mk (below_step (by repeat (first | (with_reducible first | exact HB.out | apply below_alloc | apply pw_below_drewN | apply below_drew1) | exact HB.out)) hb); clear HB; have HB := n0_; clear n0_; (try clear hb); (try clear hb2); (try clear hk); (try clear hi)))
                    go_ret
                    exact ⟨by first | rfl | (simp [errW_none, errW_some] <;> rfl) | (simp [*, errW_none, errW_some] <;> rfl), by repeat (first | (with_reducible first | exact HB.out | apply below_alloc | apply pw_below_drewN | apply below_drew1) | exact HB.out)⟩

set_option maxRecDepth 100000 in
theorem tachographlaw12_TraceChecks.laid0 : Go.Proofs.YtjfklfmfeghjnabOpen.Laid Try.prog 106 k106 (fun b_ : S106 => (Go.Proofs.YtjfklfmfeghjnabOpen.pairOk Go.Proofs.YtjfklfmfeghjnabOpen.strOk (Go.Proofs.YtjfklfmfeghjnabOpen.sliceOk 8 (Go.Proofs.YtjfklfmfeghjnabOpen.intOk .i64))) (b_.f0, b_.f1)) := (Go.Proofs.YtjfklfmfeghjnabOpen.laid_iso (fun b_ : S106 => (b_.f0, b_.f1)) (fun p_ => ⟨p_.1, p_.2⟩) (fun _ => rfl) (Go.Proofs.YtjfklfmfeghjnabOpen.laid_struct Try.underlying106 (by kernel_rfl) (Go.Proofs.YtjfklfmfeghjnabOpen.laidF_cons (by rfl) (Go.Proofs.YtjfklfmfeghjnabOpen.laid_string Try.underlying9 (by kernel_rfl)) (Go.Proofs.YtjfklfmfeghjnabOpen.laidF_one (by rfl) (Go.Proofs.YtjfklfmfeghjnabOpen.laid_slice 3 Try.underlying45 (by kernel_rfl) (by kernel_rfl) (Go.Proofs.YtjfklfmfeghjnabOpen.laid_int Try.underlying3 (by kernel_rfl)))))))
set_option maxRecDepth 100000 in
theorem tachographlaw12_TraceChecks.laid1 : Go.Proofs.YtjfklfmfeghjnabOpen.Laid Try.prog 44 k44 (fun b_ : S44 => (Go.Proofs.YtjfklfmfeghjnabOpen.pairOk (Go.Proofs.YtjfklfmfeghjnabOpen.intOk .u64) (Go.Proofs.YtjfklfmfeghjnabOpen.sliceOk 32 (fun b_ : S61 => (Go.Proofs.YtjfklfmfeghjnabOpen.pairOk (Go.Proofs.YtjfklfmfeghjnabOpen.intOk .i64) (Go.Proofs.YtjfklfmfeghjnabOpen.sliceOk 32 (fun b_ : S70 => (Go.Proofs.YtjfklfmfeghjnabOpen.pairOk (Go.Proofs.YtjfklfmfeghjnabOpen.intOk .i64) (Go.Proofs.YtjfklfmfeghjnabOpen.pairOk (Go.Proofs.YtjfklfmfeghjnabOpen.intOk .i64) Go.Proofs.YtjfklfmfeghjnabOpen.strOk)) (b_.f0, b_.f1, b_.f2)))) (b_.f0, b_.f1)))) (b_.f0, b_.f1)) := (Go.Proofs.YtjfklfmfeghjnabOpen.laid_iso (fun b_ : S44 => (b_.f0, b_.f1)) (fun p_ => ⟨p_.1, p_.2⟩) (fun _ => rfl) (Go.Proofs.YtjfklfmfeghjnabOpen.laid_struct Try.underlying44 (by kernel_rfl) (Go.Proofs.YtjfklfmfeghjnabOpen.laidF_cons (by rfl) (Go.Proofs.YtjfklfmfeghjnabOpen.laid_int Try.underlying41 (by kernel_rfl)) (Go.Proofs.YtjfklfmfeghjnabOpen.laidF_one (by rfl) (Go.Proofs.YtjfklfmfeghjnabOpen.laid_slice 61 Try.underlying42 (by kernel_rfl) (by kernel_rfl) (Go.Proofs.YtjfklfmfeghjnabOpen.laid_iso (fun b_ : S61 => (b_.f0, b_.f1)) (fun p_ => ⟨p_.1, p_.2⟩) (fun _ => rfl) (Go.Proofs.YtjfklfmfeghjnabOpen.laid_struct Try.underlying61 (by kernel_rfl) (Go.Proofs.YtjfklfmfeghjnabOpen.laidF_cons (by rfl) (Go.Proofs.YtjfklfmfeghjnabOpen.laid_int Try.underlying3 (by kernel_rfl)) (Go.Proofs.YtjfklfmfeghjnabOpen.laidF_one (by rfl) (Go.Proofs.YtjfklfmfeghjnabOpen.laid_slice 70 Try.underlying59 (by kernel_rfl) (by kernel_rfl) (Go.Proofs.YtjfklfmfeghjnabOpen.laid_iso (fun b_ : S70 => (b_.f0, b_.f1, b_.f2)) (fun p_ => ⟨p_.1, p_.2.1, p_.2.2⟩) (fun _ => rfl) (Go.Proofs.YtjfklfmfeghjnabOpen.laid_struct Try.underlying70 (by kernel_rfl) (Go.Proofs.YtjfklfmfeghjnabOpen.laidF_cons (by rfl) (Go.Proofs.YtjfklfmfeghjnabOpen.laid_int Try.underlying3 (by kernel_rfl)) (Go.Proofs.YtjfklfmfeghjnabOpen.laidF_cons (by rfl) (Go.Proofs.YtjfklfmfeghjnabOpen.laid_int Try.underlying2 (by kernel_rfl)) (Go.Proofs.YtjfklfmfeghjnabOpen.laidF_one (by rfl) (Go.Proofs.YtjfklfmfeghjnabOpen.laid_string Try.underlying9 (by kernel_rfl)))))))))))))))))
/-- THE ONE PURE STATEMENT of tachographlaw12_TraceChecks: yours. -/
def tachographlaw12_TraceChecks.Pure : Prop := ∀ (l0 : List (S106)) (l1 : List (S44)), (Go.Proofs.YtjfklfmfeghjnabOpen.sliceOk 40 (fun b_ : S106 => (Go.Proofs.YtjfklfmfeghjnabOpen.pairOk Go.Proofs.YtjfklfmfeghjnabOpen.strOk (Go.Proofs.YtjfklfmfeghjnabOpen.sliceOk 8 (Go.Proofs.YtjfklfmfeghjnabOpen.intOk .i64))) (b_.f0, b_.f1))) l0 → (Go.Proofs.YtjfklfmfeghjnabOpen.sliceOk 32 (fun b_ : S44 => (Go.Proofs.YtjfklfmfeghjnabOpen.pairOk (Go.Proofs.YtjfklfmfeghjnabOpen.intOk .u64) (Go.Proofs.YtjfklfmfeghjnabOpen.sliceOk 32 (fun b_ : S61 => (Go.Proofs.YtjfklfmfeghjnabOpen.pairOk (Go.Proofs.YtjfklfmfeghjnabOpen.intOk .i64) (Go.Proofs.YtjfklfmfeghjnabOpen.sliceOk 32 (fun b_ : S70 => (Go.Proofs.YtjfklfmfeghjnabOpen.pairOk (Go.Proofs.YtjfklfmfeghjnabOpen.intOk .i64) (Go.Proofs.YtjfklfmfeghjnabOpen.pairOk (Go.Proofs.YtjfklfmfeghjnabOpen.intOk .i64) Go.Proofs.YtjfklfmfeghjnabOpen.strOk)) (b_.f0, b_.f1, b_.f2)))) (b_.f0, b_.f1)))) (b_.f0, b_.f1))) l1 → ∃ k, tachographlaw12_TraceChecks.f k l0 l1 = some true
theorem tachographlaw12_TraceChecks.walk (P : tachographlaw12_TraceChecks.Pure) (a0 : Option Addr) (cap0 : Nat) (l0 : List (S106)) (a1 : Option Addr) (cap1 : Nat) (l1 : List (S44)) (w : World) (w0 : (Go.Proofs.YtjfklfmfeghjnabOpen.sliceOk 40 (fun b_ : S106 => (Go.Proofs.YtjfklfmfeghjnabOpen.pairOk Go.Proofs.YtjfklfmfeghjnabOpen.strOk (Go.Proofs.YtjfklfmfeghjnabOpen.sliceOk 8 (Go.Proofs.YtjfklfmfeghjnabOpen.intOk .i64))) (b_.f0, b_.f1))) l0) (e0 : l0.length ≤ cap0) (C0 : Kd.C k106 w a0 l0.length l0) (w1 : (Go.Proofs.YtjfklfmfeghjnabOpen.sliceOk 32 (fun b_ : S44 => (Go.Proofs.YtjfklfmfeghjnabOpen.pairOk (Go.Proofs.YtjfklfmfeghjnabOpen.intOk .u64) (Go.Proofs.YtjfklfmfeghjnabOpen.sliceOk 32 (fun b_ : S61 => (Go.Proofs.YtjfklfmfeghjnabOpen.pairOk (Go.Proofs.YtjfklfmfeghjnabOpen.intOk .i64) (Go.Proofs.YtjfklfmfeghjnabOpen.sliceOk 32 (fun b_ : S70 => (Go.Proofs.YtjfklfmfeghjnabOpen.pairOk (Go.Proofs.YtjfklfmfeghjnabOpen.intOk .i64) (Go.Proofs.YtjfklfmfeghjnabOpen.pairOk (Go.Proofs.YtjfklfmfeghjnabOpen.intOk .i64) Go.Proofs.YtjfklfmfeghjnabOpen.strOk)) (b_.f0, b_.f1, b_.f2)))) (b_.f0, b_.f1)))) (b_.f0, b_.f1))) l1) (e1 : l1.length ≤ cap1) (C1 : Kd.C k44 w a1 l1.length l1) :
    Calls Try.prog 5 #[.slice a0 l0.length cap0, .slice a1 l1.length cap1] w fun e w' => e = .returned (.bool true) ∧ Below w.heap.size w w' := by
  obtain ⟨k, h⟩ := P l0 l1 w0 w1
  refine (tachographlaw12_TraceChecks.calls k _ _ l0 _ _ l1 true w C0 e0 C1 e1 h).mono ?_
  rintro e w' ⟨rfl, hd⟩
  exact ⟨rfl, hd⟩

-- NOT PRINTED: function 6 (tachographlaw12_TraceParts)

/-! ### api_Arg_61: function 61 -/
theorem api_Arg_61.info : (Try.prog.info? 70).map (fun i => (i.zero, i.size, i.bytes)) = some (some (.agg #[.int .i64 0, .int .i64 0, .string ⟨#[]⟩]), (k70).sz, 32) := by kernel_rfl

set_option maxHeartbeats 8000000 in
set_option maxRecDepth 100000 in
theorem api_Arg_61.calls0 (A0 : Option Addr) (c0 : Nat) (l0 : List S70) (w : World) (hr0 : Kd.C k70 w A0 l0.length l0) (hc0 : l0.length ≤ c0) (hl : l0.length ≤ 4398046511104) :
    Calls Try.prog 61 #[.slice A0 l0.length c0] w fun e w' => ∃ v0_ : Value, e = .returned v0_ ∧ Kd.R k70 70 w' w.heap.size (fun _ => True) v0_ l0 ∧ Below w.heap.size w w' := by
  have hnil := fun (w : World) (a : Option Addr) (n c : Nat) => Lib.run_eql_slice_nil (P := Try.prog) w 59 70 a n c 0 0 Try.underlying59
  have HL := Lib.hid hl; clear hl
  cases A0 with
  | none =>
    have HR := Lib.hid hr0; clear hr0
    go_enter Try.func61, Try.ntmps61
    go_wp2
    go_ret
    have : l0 = [] := by
      cases l0 with
      | nil => rfl
      | cons x l => exfalso; obtain ⟨ad, c, e, _⟩ := Kd.C_get HR.out z70 0 (by omega) (by simp only [List.length_cons]; omega); cases e
    subst this
    exact ⟨_, rfl, Kd.R_nil _ _ _ _ _, Below.refl _ _⟩
  | some ad =>
    have HR := Lib.hid hr0; clear hr0
    have HB := Lib.hid (Below.refl w.heap.size w)
    go_enter Try.func61, Try.ntmps61
    go_wp2_with (first | ((with_reducible refine gate_dst (N := 5) rfl ?_); refine Kd.R_lit k70 w.heap.size 70 ?hg (N := 5) ?hd (w0 := w) (xs := ([] : List S70)) (inner := []) (ok := fun _ => True) (okp := fun _ => True) ?hr ?hp (fun _ hk => hk) trivial (Below.refl _ _) (Nat.le_refl _) (by simp) ?_; (case hd => rfl); (case hg => rfl); (case hr => first | (go_simp; done) | (go_simp; rfl)); (case hp => exact (Reps.none _ _)); intro v1 w1 h1 h2 h3 h4; have H1 := Lib.hid h1; have H2 := Lib.hid h2; clear h1 h2 h3 h4) | ((with_reducible refine gate_dst (N := 7) rfl ?_); refine Kd.R_append_rows k70 (Rr := fun x cs => (k70).K w1 x cs) (w0 := w) w.heap.size rfl (.tmp 5) (.tmp 6) 59 70 (.agg #[.int .i64 0, .int .i64 0, .string ⟨#[]⟩]) 32 rfl Try.underlying59 api_Arg_61.info rfl (by decide) (by decide) _ [] l0 _ _ _ (fun _ => True) (fun _ => False) rfl rfl H1.out (Kd.C_below HR.out H2.out) (fun x cs hK => by obtain rfl := k70_open hK; exact k70_mkM _ _ _ x) (fun _ hk => hk.elim) (fun _ _ => trivial) H2.out H2.out.size ?hl ?_; (case hl => have := HL.out; simp; omega); intro v2 w2 h1 h2 h3 h4; have H3 := Lib.hid h1; have H4 := Lib.hid h2; clear h1 h2 h3 h4))
    go_ret
    exact ⟨_, rfl, H3.out, H4.out⟩
def api_Arg_61.f (l0 : List S70) : Option (List S70) := if l0.length ≤ 4398046511104 then some l0 else none
theorem api_Arg_61.calls (A0 : Option Addr) (c0 : Nat) (l0 : List S70) (r : List S70) (w : World) (hr0 : Kd.C k70 w A0 l0.length l0) (hc0 : l0.length ≤ c0) (h : api_Arg_61.f l0 = some r) :
    Calls Try.prog 61 #[.slice A0 l0.length c0] w fun e w' => ∃ v0_ : Value, e = .returned v0_ ∧ Kd.R k70 70 w' w.heap.size (fun _ => True) v0_ r ∧ Below w.heap.size w w' := by
  unfold api_Arg_61.f at h
  split at h
  · obtain rfl := Option.some.inj h
    exact api_Arg_61.calls0 A0 c0 l0 w hr0 hc0 (by assumption)
  · cases h

end Go.Proofs.Ytjfklfmfeghjnab.PT
