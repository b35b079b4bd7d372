-- Contracts of Go functions, each with its plain Lean function: written by wip/tools/myprint.py of this work (the kit's print, with contracts proved by hand spliced in).
import Derived.Test.YtjfklfmfeghjnaaPSx0
import Derived.Test.YtjfklfmfeghjnaaPSx2
import Derived.Test.YtjfklfmfeghjnaaPSx3
import Derived.Test.YtjfklfmfeghjnaaPSx6
import Derived.Test.YtjfklfmfeghjnaaPSx7
namespace Go.Proofs.Ytjfklfmfeghjnaa.PS
open Go.RowKit Go.Proofs.YtjfklfmfeghjnaaW.PrintWords Go.Proofs.YtjfklfmfeghjnaaW.PrintLast Go.Proofs.YtjfklfmfeghjnaaW.PrintMore
attribute [local go_sem] max2_int min2_int max_two min_two max_three min_three max_four min_four   -- for this text's walks alone
set_option linter.unusedVariables false
set_option linter.unusedSimpArgs false

/-! ### tachographlaw09_SigSame: function 14 -/
mutual
def tachographlaw09_SigSame.j0 : Nat → List (S92) → List (S92) → Bool → Option (Bool)
  | 0, _, _, _ => none
  | k + 1, x0, x1, x14 => if x14 = true then ((tachographlaw09_fixed.f k).bind fun t189 => (some t189)) else ((sig_Clone.f k x0).bind fun t190 => ((sig_Same.f k x0 x1).bind fun t193 => ((tachographref09_Same.f k x0 x1).bind fun t194 => (if (t193 != t194) = true then (tachographlaw09_SigSame.j1 k x0 t190 true) else ((sig_Same.f k x1 x0).bind fun t195 => ((sig_Same.f k x0 x1).bind fun t196 => (if (t195 != t196) = true then (tachographlaw09_SigSame.j1 k x0 t190 true) else ((sig_Same.f k x0 t190).bind fun t197 => (if t197 = true then ((tachographref09_Same.f k t190 x0).bind fun t198 => (tachographlaw09_SigSame.j1 k x0 t190 (!t198))) else (tachographlaw09_SigSame.j1 k x0 t190 true))))))))))
def tachographlaw09_SigSame.j1 : Nat → List (S92) → List (S92) → Bool → Option (Bool)
  | 0, _, _, _ => none
  | k + 1, x0, x5, x45 => if x45 = true then (some false) else ((sig_Clone.f k x0).bind fun t6 => (tachographlaw09_SigSame.l0 k x0 x5 t6 (x5.length : Int) 0))
def tachographlaw09_SigSame.l0 : Nat → List (S92) → List (S92) → List (S92) → Int → Int → Option (Bool)
  | 0, _, _, _, _, _ => none
  | k + 1, x0, x5, x6, x49, x50 => if x50 < x49 then (if 0 ≤ x50 then (if x50 < (x5.length : Int) then (if ((rd_T92 x5 x50).f0).size + 1 ≤ 9223372036854775807 then ((some (x5.set (x50 : Int).toNat (⟨((rd_T92 x5 x50).f0) ++ (⟨#[120]⟩ : ByteArray), (rd_T92 x5 x50).f1⟩ : S92) : List (S92))).bind fun y202 => (tachographlaw09_SigSame.l1 k x0 y202 x6 x50 x49 x50 (((rd_T92 y202 x50).f1).length : Int) 0)) else (none)) else (none)) else (none)) else ((tachographlaw09_fixed.f k).bind fun t199 => (if t199 = true then ((tachographref09_Same.f k x0 x6).bind fun t200 => (some t200)) else (some false)))
def tachographlaw09_SigSame.l1 : Nat → List (S92) → List (S92) → List (S92) → Int → Int → Int → Int → Int → Option (Bool)
  | 0, _, _, _, _, _, _, _, _ => none
  | k + 1, x0, x5, x6, x7, x49, x50, x66, x67 => if x67 < x66 then (if 0 ≤ x7 then (if x7 < (x5.length : Int) then (if 0 ≤ x67 then (if x67 < (((rd_T92 x5 x7).f1).length : Int) then (tachographlaw09_SigSame.l1 k x0 (x5.set (x7 : Int).toNat (⟨(rd_T92 x5 x7).f0, (((rd_T92 x5 x7).f1).set (x67 : Int).toNat (wrap64 ((rd ((rd_T92 x5 x7).f1) x67) + 1)))⟩ : S92)) x6 x7 x49 x50 x66 (wrap64 (x67 + 1))) else (none)) else (none)) else (none)) else (none)) else (tachographlaw09_SigSame.l0 k x0 x5 x6 x49 (wrap64 (x50 + 1)))
end
def tachographlaw09_SigSame.f (k : Nat) (l0 : List (S92)) (l1 : List (S92)) : Option (Bool) := (tachographlaw09_Great.f k l0).bind fun t187 => (if t187 = true then (tachographlaw09_SigSame.j0 k l0 l1 true) else ((tachographlaw09_Great.f k l1).bind fun t188 => (tachographlaw09_SigSame.j0 k l0 l1 t188)))
theorem tachographlaw09_SigSame.mono_l : ∀ k, (∀ y0 y1 y2, LeO (tachographlaw09_SigSame.j0 k y0 y1 y2) (tachographlaw09_SigSame.j0 (k + 1) y0 y1 y2)) ∧ (∀ y0 y1 y2, LeO (tachographlaw09_SigSame.j1 k y0 y1 y2) (tachographlaw09_SigSame.j1 (k + 1) y0 y1 y2)) ∧ (∀ y0 y1 y2 y3 y4, LeO (tachographlaw09_SigSame.l0 k y0 y1 y2 y3 y4) (tachographlaw09_SigSame.l0 (k + 1) y0 y1 y2 y3 y4)) ∧ (∀ y0 y1 y2 y3 y4 y5 y6 y7, LeO (tachographlaw09_SigSame.l1 k y0 y1 y2 y3 y4 y5 y6 y7) (tachographlaw09_SigSame.l1 (k + 1) y0 y1 y2 y3 y4 y5 y6 y7))
  | 0 => ⟨fun _ _ _ r h => by simp [tachographlaw09_SigSame.j0] at h, fun _ _ _ r h => by simp [tachographlaw09_SigSame.j1] at h, fun _ _ _ _ _ r h => by simp [tachographlaw09_SigSame.l0] at h, fun _ _ _ _ _ _ _ _ r h => by simp [tachographlaw09_SigSame.l1] at h⟩
  | k + 1 => by
    obtain ⟨ih0, ih1, ih2, ih3⟩ := tachographlaw09_SigSame.mono_l k
    refine ⟨?_, ?_, ?_, ?_⟩
    · intro y0 y1 y2
      unfold tachographlaw09_SigSame.j0
      repeat' first
      | (with_reducible exact ih0 _ _ _)
      | (with_reducible exact ih1 _ _ _)
      | (with_reducible exact ih2 _ _ _ _ _)
      | (with_reducible exact ih3 _ _ _ _ _ _ _ _)
      | (with_reducible exact sig_Clone.mono _ _)
      | (with_reducible exact sig_Same.mono _ _ _)
      | (with_reducible exact tachographlaw09_Great.mono _ _)
      | (with_reducible exact tachographlaw09_fixed.mono _)
      | (with_reducible exact tachographref09_Same.mono _ _ _)
      | (with_reducible exact LeO.refl _)
      | (with_reducible exact LeO.none _)
      | (with_reducible refine LeO.ite ?_ ?_)
      | (with_reducible refine LeO.bind ?_ (fun _ => ?_))
      | exact ih0 _ _ _
      | exact ih1 _ _ _
      | exact ih2 _ _ _ _ _
      | exact ih3 _ _ _ _ _ _ _ _
      | exact sig_Clone.mono _ _
      | exact sig_Same.mono _ _ _
      | exact tachographlaw09_Great.mono _ _
      | exact tachographlaw09_fixed.mono _
      | exact tachographref09_Same.mono _ _ _
      | exact LeO.none _
      | refine LeO.ite ?_ ?_
      | refine LeO.bind ?_ (fun _ => ?_)
    · intro y0 y1 y2
      unfold tachographlaw09_SigSame.j1
      repeat' first
      | (with_reducible exact ih0 _ _ _)
      | (with_reducible exact ih1 _ _ _)
      | (with_reducible exact ih2 _ _ _ _ _)
      | (with_reducible exact ih3 _ _ _ _ _ _ _ _)
      | (with_reducible exact sig_Clone.mono _ _)
      | (with_reducible exact sig_Same.mono _ _ _)
      | (with_reducible exact tachographlaw09_Great.mono _ _)
      | (with_reducible exact tachographlaw09_fixed.mono _)
      | (with_reducible exact tachographref09_Same.mono _ _ _)
      | (with_reducible exact LeO.refl _)
      | (with_reducible exact LeO.none _)
      | (with_reducible refine LeO.ite ?_ ?_)
      | (with_reducible refine LeO.bind ?_ (fun _ => ?_))
      | exact ih0 _ _ _
      | exact ih1 _ _ _
      | exact ih2 _ _ _ _ _
      | exact ih3 _ _ _ _ _ _ _ _
      | exact sig_Clone.mono _ _
      | exact sig_Same.mono _ _ _
      | exact tachographlaw09_Great.mono _ _
      | exact tachographlaw09_fixed.mono _
      | exact tachographref09_Same.mono _ _ _
      | exact LeO.none _
      | refine LeO.ite ?_ ?_
      | refine LeO.bind ?_ (fun _ => ?_)
    · intro y0 y1 y2 y3 y4
      unfold tachographlaw09_SigSame.l0
      repeat' first
      | (with_reducible exact ih0 _ _ _)
      | (with_reducible exact ih1 _ _ _)
      | (with_reducible exact ih2 _ _ _ _ _)
      | (with_reducible exact ih3 _ _ _ _ _ _ _ _)
      | (with_reducible exact sig_Clone.mono _ _)
      | (with_reducible exact sig_Same.mono _ _ _)
      | (with_reducible exact tachographlaw09_Great.mono _ _)
      | (with_reducible exact tachographlaw09_fixed.mono _)
      | (with_reducible exact tachographref09_Same.mono _ _ _)
      | (with_reducible exact LeO.refl _)
      | (with_reducible exact LeO.none _)
      | (with_reducible refine LeO.ite ?_ ?_)
      | (with_reducible refine LeO.bind ?_ (fun _ => ?_))
      | exact ih0 _ _ _
      | exact ih1 _ _ _
      | exact ih2 _ _ _ _ _
      | exact ih3 _ _ _ _ _ _ _ _
      | exact sig_Clone.mono _ _
      | exact sig_Same.mono _ _ _
      | exact tachographlaw09_Great.mono _ _
      | exact tachographlaw09_fixed.mono _
      | exact tachographref09_Same.mono _ _ _
      | exact LeO.none _
      | refine LeO.ite ?_ ?_
      | refine LeO.bind ?_ (fun _ => ?_)
    · intro y0 y1 y2 y3 y4 y5 y6 y7
      unfold tachographlaw09_SigSame.l1
      repeat' first
      | (with_reducible exact ih0 _ _ _)
      | (with_reducible exact ih1 _ _ _)
      | (with_reducible exact ih2 _ _ _ _ _)
      | (with_reducible exact ih3 _ _ _ _ _ _ _ _)
      | (with_reducible exact sig_Clone.mono _ _)
      | (with_reducible exact sig_Same.mono _ _ _)
      | (with_reducible exact tachographlaw09_Great.mono _ _)
      | (with_reducible exact tachographlaw09_fixed.mono _)
      | (with_reducible exact tachographref09_Same.mono _ _ _)
      | (with_reducible exact LeO.refl _)
      | (with_reducible exact LeO.none _)
      | (with_reducible refine LeO.ite ?_ ?_)
      | (with_reducible refine LeO.bind ?_ (fun _ => ?_))
      | exact ih0 _ _ _
      | exact ih1 _ _ _
      | exact ih2 _ _ _ _ _
      | exact ih3 _ _ _ _ _ _ _ _
      | exact sig_Clone.mono _ _
      | exact sig_Same.mono _ _ _
      | exact tachographlaw09_Great.mono _ _
      | exact tachographlaw09_fixed.mono _
      | exact tachographref09_Same.mono _ _ _
      | exact LeO.none _
      | refine LeO.ite ?_ ?_
      | refine LeO.bind ?_ (fun _ => ?_)
theorem tachographlaw09_SigSame.mono : ∀ a0 a1 k, LeO (tachographlaw09_SigSame.f k a0 a1) (tachographlaw09_SigSame.f (k + 1) a0 a1) := by
  intro a0 a1 k
  obtain ⟨ih0, ih1, ih2, ih3⟩ := tachographlaw09_SigSame.mono_l k
  unfold tachographlaw09_SigSame.f
  repeat' first
      | (with_reducible exact ih0 _ _ _)
      | (with_reducible exact ih1 _ _ _)
      | (with_reducible exact ih2 _ _ _ _ _)
      | (with_reducible exact ih3 _ _ _ _ _ _ _ _)
      | (with_reducible exact sig_Clone.mono _ _)
      | (with_reducible exact sig_Same.mono _ _ _)
      | (with_reducible exact tachographlaw09_Great.mono _ _)
      | (with_reducible exact tachographlaw09_fixed.mono _)
      | (with_reducible exact tachographref09_Same.mono _ _ _)
      | (with_reducible exact LeO.refl _)
      | (with_reducible exact LeO.none _)
      | (with_reducible refine LeO.ite ?_ ?_)
      | (with_reducible refine LeO.bind ?_ (fun _ => ?_))
      | exact ih0 _ _ _
      | exact ih1 _ _ _
      | exact ih2 _ _ _ _ _
      | exact ih3 _ _ _ _ _ _ _ _
      | exact sig_Clone.mono _ _
      | exact sig_Same.mono _ _ _
      | exact tachographlaw09_Great.mono _ _
      | exact tachographlaw09_fixed.mono _
      | exact tachographref09_Same.mono _ _ _
      | exact LeO.none _
      | refine LeO.ite ?_ ?_
      | refine LeO.bind ?_ (fun _ => ?_)
set_option maxHeartbeats 8000000 in
set_option maxRecDepth 100000 in
theorem tachographlaw09_SigSame.calls (k : Nat) (A0 : Option Addr) (c0 : Nat) (l0 : List (S92)) (A1 : Option Addr) (c1 : Nat) (l1 : List (S92)) (r : Bool) (w : World) (hr0 : Kd.C k92 w A0 l0.length l0) (hc0 : l0.length ≤ c0) (hr1 : Kd.C k92 w A1 l1.length l1) (hc1 : l1.length ≤ c1) (h : tachographlaw09_SigSame.f k l0 l1 = some r) :
    Calls Try.prog 14 #[.slice A0 l0.length c0, .slice A1 l1.length c1] w fun e w' => e = .returned (.bool r) ∧ Below w.heap.size w w' := by
  have HR0 := Aside0.mk hr0
  have HC0 := Aside0.mk hc0
  clear hr0 hc0
  have HR1 := Aside0.mk hr1
  have HC1 := Aside0.mk hc1
  clear hr1 hc1
  have HB := Aside0.mk (Below.refl w.heap.size w)
  have H : ((tachographlaw09_Great.f k l0).bind fun t187 => (if t187 = true then (tachographlaw09_SigSame.j0 k l0 l1 true) else ((tachographlaw09_Great.f k l1).bind fun t188 => (tachographlaw09_SigSame.j0 k l0 l1 t188)))) = some r := h
  clear h
  have HC3 := Aside0.mk H
  clear H
  go_enter Try.func14, Try.ntmps14
  go_upto_region 1 with (fail)
  go_cut [14] (fun v14 wc => ∃ (kq : Nat) (x14_2 : Bool), v14 = .bool x14_2 ∧ Aside0 (tachographlaw09_SigSame.j0 kq l0 l1 x14_2 = some r) ∧ Aside0 (kq ≤ k) ∧ Aside0 (Below w.heap.size w wc))
  case first =>
    have H := HC3.out
    clear HC3
    replace H := Option.bind_eq_some_iff.mp H
    obtain ⟨t187, A40, H⟩ := H
    replace H : (if t187 = true then (tachographlaw09_SigSame.j0 k l0 l1 true) else ((tachographlaw09_Great.f k l1).bind fun t188 => (tachographlaw09_SigSame.j0 k l0 l1 t188))) = some r := H
    have A4 := Aside0.mk A40
    clear A40
    by_cases c5 : t187 = true
    · subst c5
      have H1 : (tachographlaw09_SigSame.j0 k l0 l1 true) = some r := by rw [if_pos rfl] at H; exact H
      clear H
      have H := H1
      clear H1
      have H' := Aside0.mk H
      clear H
      go_wp2_with (first | ((with_reducible refine gate_callee (f := 50) rfl ?_); refine goesL_ (some 10) rfl rfl Try.func50 (by kernel_rfl) rfl #[.slice A0 l0.length c0] rfl (by (try simp only [List.map_toArray, List.map_cons, List.map_nil]); first | done | rfl | (simp only [List.length_drop, List.length_take]; rfl) | (refine congrArg (fun z_ => #[z_]) (congrArg (Value.int IntKind.u64) (Eq.symm (Go.Proofs.YtjfklfmfeghjnaaAid.wrap_len _ (by omega)))))) ?_; (with_reducible refine (tachographlaw09_Great.calls k _ _ l0 true _ ?side1 ?side2 A4.out).mono ?_); (case side1 => repeat (first | exact (Kd.C_below HR0.out HB.out) | (with_reducible refine Kd.C_alloc ?_ _) | (with_reducible refine Kd.C_drewN ?_ _) | (with_reducible refine Kd.C_drew ?_))); (case side2 => exact HC0.out); rintro e w6 ⟨rfl, hb⟩; refine ⟨_, rfl, ?_⟩; have n0_ := Aside0.mk (below_step (by repeat (first | (with_reducible first | exact HB.out | apply below_alloc | apply pw_below_drewN | apply below_drew1) | exact HB.out)) hb); clear HB; have HB := n0_; clear n0_; (try clear hb); (try clear hb2); (try clear hk); (try clear hi)))
      go_meet
      case rel => exact ⟨_, (true), (by first | rfl | (simp; done) | (simp [*]; done)), H', ⟨by first | omega | exact Nat.le_refl _⟩, ⟨by repeat (first | (with_reducible first | exact HB.out | apply below_alloc | apply pw_below_drewN | apply below_drew1) | exact HB.out)⟩⟩
    · replace c5 := Bool.eq_false_iff.mpr c5
      subst c5
      have H1 : ((tachographlaw09_Great.f k l1).bind fun t188 => (tachographlaw09_SigSame.j0 k l0 l1 t188)) = some r := by rw [if_neg (show ¬ (false = true) by decide)] at H; exact H
      clear H
      have H := H1
      clear H1
      replace H := Option.bind_eq_some_iff.mp H
      obtain ⟨t188, A70, H⟩ := H
      replace H : (tachographlaw09_SigSame.j0 k l0 l1 t188) = some r := H
      have A7 := Aside0.mk A70
      clear A70
      have H' := Aside0.mk H
      clear H
      go_wp2_with (first | ((with_reducible refine gate_callee (f := 50) rfl ?_); refine goesL_ (some 10) rfl rfl Try.func50 (by kernel_rfl) rfl #[.slice A0 l0.length c0] rfl (by (try simp only [List.map_toArray, List.map_cons, List.map_nil]); first | done | rfl | (simp only [List.length_drop, List.length_take]; rfl) | (refine congrArg (fun z_ => #[z_]) (congrArg (Value.int IntKind.u64) (Eq.symm (Go.Proofs.YtjfklfmfeghjnaaAid.wrap_len _ (by omega)))))) ?_; (with_reducible refine (tachographlaw09_Great.calls k _ _ l0 false _ ?side1 ?side2 A4.out).mono ?_); (case side1 => repeat (first | exact (Kd.C_below HR0.out HB.out) | (with_reducible refine Kd.C_alloc ?_ _) | (with_reducible refine Kd.C_drewN ?_ _) | (with_reducible refine Kd.C_drew ?_))); (case side2 => exact HC0.out); rintro e w8 ⟨rfl, hb⟩; refine ⟨_, rfl, ?_⟩; have n0_ := Aside0.mk (below_step (by repeat (first | (with_reducible first | exact HB.out | apply below_alloc | apply pw_below_drewN | apply below_drew1) | exact HB.out)) hb); clear HB; have HB := n0_; clear n0_; (try clear hb); (try clear hb2); (try clear hk); (try clear hi)) | (go_at_call 50; (with_reducible refine (tachographlaw09_Great.calls k _ _ l1 t188 _ ?side1 ?side2 A7.out).mono ?_); (case side1 => repeat (first | exact (Kd.C_below HR1.out HB.out) | (with_reducible refine Kd.C_alloc ?_ _) | (with_reducible refine Kd.C_drewN ?_ _) | (with_reducible refine Kd.C_drew ?_))); (case side2 => exact HC1.out); rintro e w9 ⟨rfl, hb⟩; have n0_ := Aside0.mk (below_step (by repeat (first | (with_reducible first | exact HB.out | apply below_alloc | apply pw_below_drewN | apply below_drew1) | exact HB.out)) hb); clear HB; have HB := n0_; clear n0_; (try clear hb); (try clear hb2); (try clear hk); (try clear hi)))
      go_meet
      case rel => exact ⟨_, (t188), (by first | rfl | (simp; done) | (simp [*]; done)), H', ⟨by first | omega | exact Nat.le_refl _⟩, ⟨by repeat (first | (with_reducible first | exact HB.out | apply below_alloc | apply pw_below_drewN | apply below_drew1) | exact HB.out)⟩⟩
  case rest =>
    clear HC3
    try clear c1
    try clear p2
    try clear c5
    obtain ⟨kq, x14_2, rfl, HA, HJ2, HB⟩ := hcut
    cases kq with
    | zero => exact absurd HA.out (by simp [tachographlaw09_SigSame.j0])
    | succ kj2 =>
      have H := HA.out
      clear HA
      simp only [tachographlaw09_SigSame.j0] at H
      by_cases c10 : x14_2 = true
      · subst c10
        have H1 : ((tachographlaw09_fixed.f kj2).bind fun t189 => (some t189)) = some r := by rw [if_pos rfl] at H; exact H
        clear H
        have H := H1
        clear H1
        replace H := Option.bind_eq_some_iff.mp H
        obtain ⟨t189, A110, H⟩ := H
        replace H : (some t189) = some r := H
        have A11 := Aside0.mk A110
        clear A110
        obtain rfl := Option.some.inj H
        go_wp2_with (first | ((with_reducible refine gate_callee (f := 51) rfl ?_); refine goesL_ (some 15) rfl rfl Try.func51 (by kernel_rfl) rfl #[] rfl (by (try simp only [List.map_toArray, List.map_cons, List.map_nil]); first | done | rfl | (simp only [List.length_drop, List.length_take]; rfl) | (refine congrArg (fun z_ => #[z_]) (congrArg (Value.int IntKind.u64) (Eq.symm (Go.Proofs.YtjfklfmfeghjnaaAid.wrap_len _ (by omega)))))) ?_; (with_reducible refine (tachographlaw09_fixed.calls kj2  t189 _ A11.out).mono ?_); rintro e w12 ⟨rfl, hb⟩; refine ⟨_, rfl, ?_⟩; have n0_ := Aside0.mk (below_step (by repeat (first | (with_reducible first | exact HB.out | apply below_alloc | apply pw_below_drewN | apply below_drew1) | exact HB.out)) hb); clear HB; have HB := n0_; clear n0_; (try clear hb); (try clear hb2); (try clear hk); (try clear hi)))
        go_ret
        exact ⟨by first | rfl | (simp [errW_none, errW_some] <;> rfl) | (simp [*, errW_none, errW_some] <;> rfl), by repeat (first | (with_reducible first | exact HB.out | apply below_alloc | apply pw_below_drewN | apply below_drew1) | exact HB.out)⟩
      · replace c10 := Bool.eq_false_iff.mpr c10
        subst c10
        have H1 : ((sig_Clone.f kj2 l0).bind fun t190 => ((sig_Same.f kj2 l0 l1).bind fun t193 => ((tachographref09_Same.f kj2 l0 l1).bind fun t194 => (if (t193 != t194) = true then (tachographlaw09_SigSame.j1 kj2 l0 t190 true) else ((sig_Same.f kj2 l1 l0).bind fun t195 => ((sig_Same.f kj2 l0 l1).bind fun t196 => (if (t195 != t196) = true then (tachographlaw09_SigSame.j1 kj2 l0 t190 true) else ((sig_Same.f kj2 l0 t190).bind fun t197 => (if t197 = true then ((tachographref09_Same.f kj2 t190 l0).bind fun t198 => (tachographlaw09_SigSame.j1 kj2 l0 t190 (!t198))) else (tachographlaw09_SigSame.j1 kj2 l0 t190 true)))))))))) = some r := by rw [if_neg (show ¬ (false = true) by decide)] at H; exact H
        clear H
        have H := H1
        clear H1
        replace H := Option.bind_eq_some_iff.mp H
        obtain ⟨t190, A130, H⟩ := H
        replace H : ((sig_Same.f kj2 l0 l1).bind fun t193 => ((tachographref09_Same.f kj2 l0 l1).bind fun t194 => (if (t193 != t194) = true then (tachographlaw09_SigSame.j1 kj2 l0 t190 true) else ((sig_Same.f kj2 l1 l0).bind fun t195 => ((sig_Same.f kj2 l0 l1).bind fun t196 => (if (t195 != t196) = true then (tachographlaw09_SigSame.j1 kj2 l0 t190 true) else ((sig_Same.f kj2 l0 t190).bind fun t197 => (if t197 = true then ((tachographref09_Same.f kj2 t190 l0).bind fun t198 => (tachographlaw09_SigSame.j1 kj2 l0 t190 (!t198))) else (tachographlaw09_SigSame.j1 kj2 l0 t190 true))))))))) = some r := H
        have A13 := Aside0.mk A130
        clear A130
        have HC14 := Aside0.mk H
        clear H
        go_upto_region 4 with (first | ((with_reducible refine gate_callee (f := 58) rfl ?_); refine goesL_ (some 17) rfl rfl Try.func58 (by kernel_rfl) rfl #[.slice A0 l0.length c0] rfl (by (try simp only [List.map_toArray, List.map_cons, List.map_nil]); first | done | rfl | (simp only [List.length_drop, List.length_take]; rfl) | (refine congrArg (fun z_ => #[z_]) (congrArg (Value.int IntKind.u64) (Eq.symm (Go.Proofs.YtjfklfmfeghjnaaAid.wrap_len _ (by omega)))))) ?_; (with_reducible refine (sig_Clone.calls kj2 _ _ l0 t190 _ ?side1 ?side2 A13.out).mono ?_); (case side1 => repeat (first | exact (Kd.C_below HR0.out HB.out) | (with_reducible refine Kd.C_alloc ?_ _) | (with_reducible refine Kd.C_drewN ?_ _) | (with_reducible refine Kd.C_drew ?_))); (case side2 => exact HC0.out); rintro e w15 ⟨v191, rfl, ho0, hb⟩; refine ⟨_, rfl, ?_⟩; have n0_ := Aside0.mk (Kd.S_lower ho0 (below_size (by repeat (first | (with_reducible first | exact HB.out | apply below_alloc | apply pw_below_drewN | apply below_drew1) | exact HB.out)))); have n1_ := Aside0.mk (below_step (by repeat (first | (with_reducible first | exact HB.out | apply below_alloc | apply pw_below_drewN | apply below_drew1) | exact HB.out)) hb); clear HB; have HO192 := n0_; have HB := n1_; clear n0_ n1_; (try clear hb); (try clear hb2); (try clear hk); (try clear hi); (try clear ho0)))
        (try simp only [Act.put, List.setIfInBounds_toArray, List.set_cons_zero, List.set_cons_succ])
        go_cut [45] (fun v45 wc => ∃ (kq : Nat) (x45_13 : Bool), v45 = .bool x45_13 ∧ Aside0 (tachographlaw09_SigSame.j1 kq l0 t190 x45_13 = some r) ∧ Aside0 (kq ≤ kj2) ∧ Aside0 (Kd.S k92 92 wc w.heap.size (fun _ => True) v191 t190) ∧ Aside0 (Below w.heap.size w wc))
        case first =>
          have H := HC14.out
          clear HC14
          replace H := Option.bind_eq_some_iff.mp H
          obtain ⟨t193, A160, H⟩ := H
          replace H : ((tachographref09_Same.f kj2 l0 l1).bind fun t194 => (if (t193 != t194) = true then (tachographlaw09_SigSame.j1 kj2 l0 t190 true) else ((sig_Same.f kj2 l1 l0).bind fun t195 => ((sig_Same.f kj2 l0 l1).bind fun t196 => (if (t195 != t196) = true then (tachographlaw09_SigSame.j1 kj2 l0 t190 true) else ((sig_Same.f kj2 l0 t190).bind fun t197 => (if t197 = true then ((tachographref09_Same.f kj2 t190 l0).bind fun t198 => (tachographlaw09_SigSame.j1 kj2 l0 t190 (!t198))) else (tachographlaw09_SigSame.j1 kj2 l0 t190 true)))))))) = some r := H
          have A16 := Aside0.mk A160
          clear A160
          replace H := Option.bind_eq_some_iff.mp H
          obtain ⟨t194, A170, H⟩ := H
          replace H : (if (t193 != t194) = true then (tachographlaw09_SigSame.j1 kj2 l0 t190 true) else ((sig_Same.f kj2 l1 l0).bind fun t195 => ((sig_Same.f kj2 l0 l1).bind fun t196 => (if (t195 != t196) = true then (tachographlaw09_SigSame.j1 kj2 l0 t190 true) else ((sig_Same.f kj2 l0 t190).bind fun t197 => (if t197 = true then ((tachographref09_Same.f kj2 t190 l0).bind fun t198 => (tachographlaw09_SigSame.j1 kj2 l0 t190 (!t198))) else (tachographlaw09_SigSame.j1 kj2 l0 t190 true))))))) = some r := H
          have A17 := Aside0.mk A170
          clear A170
          by_cases c18 : (t193 != t194) = true
          · rw [if_pos c18] at H
            have c18b0 : (t193 != t194) = true := c18
            (try (have c18b1 : decide (t193 = t194) = false := by simpa using c18))
            (try (have c18b2 : (t193 == t194) = false := by simpa using c18))
            (try (have c18b3 : ¬ (t193 = t194) := by simpa using c18))
            clear c18
            (first | rw [c18b0] | (simp only [i64_w, i32_w]; rw [c18b0]) | skip)
            have H' := Aside0.mk H
            clear H
            go_wp2_with (first | ((with_reducible refine gate_callee (f := 59) rfl ?_); refine goesL_ (some 20) rfl rfl Try.func59 (by kernel_rfl) rfl #[.slice A0 l0.length c0, .slice A1 l1.length c1] rfl (by (try simp only [List.map_toArray, List.map_cons, List.map_nil]); first | done | rfl | (simp only [List.length_drop, List.length_take]; rfl) | (refine congrArg (fun z_ => #[z_]) (congrArg (Value.int IntKind.u64) (Eq.symm (Go.Proofs.YtjfklfmfeghjnaaAid.wrap_len _ (by omega)))))) ?_; (with_reducible refine (sig_Same.calls kj2 _ _ l0 _ _ l1 t193 _ ?side1 ?side2 ?side3 ?side4 A16.out).mono ?_); (case side1 => repeat (first | exact (Kd.C_below HR0.out HB.out) | (with_reducible refine Kd.C_alloc ?_ _) | (with_reducible refine Kd.C_drewN ?_ _) | (with_reducible refine Kd.C_drew ?_))); (case side2 => exact HC0.out); (case side3 => repeat (first | exact (Kd.C_below HR1.out HB.out) | (with_reducible refine Kd.C_alloc ?_ _) | (with_reducible refine Kd.C_drewN ?_ _) | (with_reducible refine Kd.C_drew ?_))); (case side4 => exact HC1.out); rintro e w19 ⟨rfl, hb⟩; refine ⟨_, rfl, ?_⟩; have n0_ := Aside0.mk (Kd.S_below (by (with_reducible repeat (first | apply Kd.S_alloc | apply Kd.S_drewN | apply Kd.S_drew)); exact HO192.out) hb); have n1_ := Aside0.mk (below_step (by repeat (first | (with_reducible first | exact HB.out | apply below_alloc | apply pw_below_drewN | apply below_drew1) | exact HB.out)) hb); clear HO192; clear HB; have HO192 := n0_; have HB := n1_; clear n0_ n1_; (try clear hb); (try clear hb2); (try clear hk); (try clear hi)) | ((with_reducible refine gate_callee (f := 60) rfl ?_); refine goesL_ (some 23) rfl rfl Try.func60 (by kernel_rfl) rfl #[.slice A0 l0.length c0, .slice A1 l1.length c1] rfl (by (try simp only [List.map_toArray, List.map_cons, List.map_nil]); first | done | rfl | (simp only [List.length_drop, List.length_take]; rfl) | (refine congrArg (fun z_ => #[z_]) (congrArg (Value.int IntKind.u64) (Eq.symm (Go.Proofs.YtjfklfmfeghjnaaAid.wrap_len _ (by omega)))))) ?_; (with_reducible refine (tachographref09_Same.calls kj2 _ _ l0 _ _ l1 t194 _ ?side1 ?side2 ?side3 ?side4 A17.out).mono ?_); (case side1 => repeat (first | exact (Kd.C_below HR0.out HB.out) | (with_reducible refine Kd.C_alloc ?_ _) | (with_reducible refine Kd.C_drewN ?_ _) | (with_reducible refine Kd.C_drew ?_))); (case side2 => exact HC0.out); (case side3 => repeat (first | exact (Kd.C_below HR1.out HB.out) | (with_reducible refine Kd.C_alloc ?_ _) | (with_reducible refine Kd.C_drewN ?_ _) | (with_reducible refine Kd.C_drew ?_))); (case side4 => exact HC1.out); rintro e w' ⟨rfl, ⟨nd, rfl⟩⟩; refine ⟨_, rfl, ?_⟩))
            go_meet
            case rel => exact ⟨_, (true), (by first | rfl | (simp; done) | (simp [*]; done)), H', ⟨by have := HJ2.out; first | omega | exact Nat.le_refl _⟩, ⟨by (with_reducible repeat (first | apply Kd.S_alloc | apply Kd.S_drewN | apply Kd.S_drew)); exact HO192.out⟩, ⟨by repeat (first | (with_reducible first | exact HB.out | apply below_alloc | apply pw_below_drewN | apply below_drew1) | exact HB.out)⟩⟩
          · rw [if_neg c18] at H
            have c18b0 : (t193 != t194) = false := by simpa using c18
            (try (have c18b1 : decide (t193 = t194) = true := by simpa using c18))
            (try (have c18b2 : (t193 == t194) = true := by simpa using c18))
            clear c18
            (first | rw [c18b0] | (simp only [i64_w, i32_w]; rw [c18b0]) | skip)
            replace H := Option.bind_eq_some_iff.mp H
            obtain ⟨t195, A200, H⟩ := H
            replace H : ((sig_Same.f kj2 l0 l1).bind fun t196 => (if (t195 != t196) = true then (tachographlaw09_SigSame.j1 kj2 l0 t190 true) else ((sig_Same.f kj2 l0 t190).bind fun t197 => (if t197 = true then ((tachographref09_Same.f kj2 t190 l0).bind fun t198 => (tachographlaw09_SigSame.j1 kj2 l0 t190 (!t198))) else (tachographlaw09_SigSame.j1 kj2 l0 t190 true))))) = some r := H
            have A20 := Aside0.mk A200
            clear A200
            replace H := Option.bind_eq_some_iff.mp H
            obtain ⟨t196, A210, H⟩ := H
            replace H : (if (t195 != t196) = true then (tachographlaw09_SigSame.j1 kj2 l0 t190 true) else ((sig_Same.f kj2 l0 t190).bind fun t197 => (if t197 = true then ((tachographref09_Same.f kj2 t190 l0).bind fun t198 => (tachographlaw09_SigSame.j1 kj2 l0 t190 (!t198))) else (tachographlaw09_SigSame.j1 kj2 l0 t190 true)))) = some r := H
            have A21 := Aside0.mk A210
            clear A210
            by_cases c22 : (t195 != t196) = true
            · rw [if_pos c22] at H
              have c22b0 : (t195 != t196) = true := c22
              (try (have c22b1 : decide (t195 = t196) = false := by simpa using c22))
              (try (have c22b2 : (t195 == t196) = false := by simpa using c22))
              (try (have c22b3 : ¬ (t195 = t196) := by simpa using c22))
              clear c22
              have H' := Aside0.mk H
              clear H
              go_wp2_with (first | ((with_reducible refine gate_callee (f := 59) rfl ?_); refine goesL_ (some 20) rfl rfl Try.func59 (by kernel_rfl) rfl #[.slice A0 l0.length c0, .slice A1 l1.length c1] rfl (by (try simp only [List.map_toArray, List.map_cons, List.map_nil]); first | done | rfl | (simp only [List.length_drop, List.length_take]; rfl) | (refine congrArg (fun z_ => #[z_]) (congrArg (Value.int IntKind.u64) (Eq.symm (Go.Proofs.YtjfklfmfeghjnaaAid.wrap_len _ (by omega)))))) ?_; (with_reducible refine (sig_Same.calls kj2 _ _ l0 _ _ l1 t193 _ ?side1 ?side2 ?side3 ?side4 A16.out).mono ?_); (case side1 => repeat (first | exact (Kd.C_below HR0.out HB.out) | (with_reducible refine Kd.C_alloc ?_ _) | (with_reducible refine Kd.C_drewN ?_ _) | (with_reducible refine Kd.C_drew ?_))); (case side2 => exact HC0.out); (case side3 => repeat (first | exact (Kd.C_below HR1.out HB.out) | (with_reducible refine Kd.C_alloc ?_ _) | (with_reducible refine Kd.C_drewN ?_ _) | (with_reducible refine Kd.C_drew ?_))); (case side4 => exact HC1.out); rintro e w23 ⟨rfl, hb⟩; refine ⟨_, rfl, ?_⟩; have n0_ := Aside0.mk (Kd.S_below (by (with_reducible repeat (first | apply Kd.S_alloc | apply Kd.S_drewN | apply Kd.S_drew)); exact HO192.out) hb); have n1_ := Aside0.mk (below_step (by repeat (first | (with_reducible first | exact HB.out | apply below_alloc | apply pw_below_drewN | apply below_drew1) | exact HB.out)) hb); clear HO192; clear HB; have HO192 := n0_; have HB := n1_; clear n0_ n1_; (try clear hb); (try clear hb2); (try clear hk); (try clear hi)) | ((with_reducible refine gate_callee (f := 60) rfl ?_); refine goesL_ (some 23) rfl rfl Try.func60 (by kernel_rfl) rfl #[.slice A0 l0.length c0, .slice A1 l1.length c1] rfl (by (try simp only [List.map_toArray, List.map_cons, List.map_nil]); first | done | rfl | (simp only [List.length_drop, List.length_take]; rfl) | (refine congrArg (fun z_ => #[z_]) (congrArg (Value.int IntKind.u64) (Eq.symm (Go.Proofs.YtjfklfmfeghjnaaAid.wrap_len _ (by omega)))))) ?_; (with_reducible refine (tachographref09_Same.calls kj2 _ _ l0 _ _ l1 t194 _ ?side1 ?side2 ?side3 ?side4 A17.out).mono ?_); (case side1 => repeat (first | exact (Kd.C_below HR0.out HB.out) | (with_reducible refine Kd.C_alloc ?_ _) | (with_reducible refine Kd.C_drewN ?_ _) | (with_reducible refine Kd.C_drew ?_))); (case side2 => exact HC0.out); (case side3 => repeat (first | exact (Kd.C_below HR1.out HB.out) | (with_reducible refine Kd.C_alloc ?_ _) | (with_reducible refine Kd.C_drewN ?_ _) | (with_reducible refine Kd.C_drew ?_))); (case side4 => exact HC1.out); rintro e w' ⟨rfl, ⟨nd, rfl⟩⟩; refine ⟨_, rfl, ?_⟩) | (go_at_call 59; (with_reducible refine (sig_Same.calls kj2 _ _ l1 _ _ l0 t195 _ ?side1 ?side2 ?side3 ?side4 A20.out).mono ?_); (case side1 => repeat (first | exact (Kd.C_below HR1.out (by repeat (first | (with_reducible first | exact HB.out | apply below_alloc | apply pw_below_drewN | apply below_drew1) | exact HB.out))) | (with_reducible refine Kd.C_alloc ?_ _) | (with_reducible refine Kd.C_drewN ?_ _) | (with_reducible refine Kd.C_drew ?_))); (case side2 => exact HC1.out); (case side3 => repeat (first | exact (Kd.C_below HR0.out (by repeat (first | (with_reducible first | exact HB.out | apply below_alloc | apply pw_below_drewN | apply below_drew1) | exact HB.out))) | (with_reducible refine Kd.C_alloc ?_ _) | (with_reducible refine Kd.C_drewN ?_ _) | (with_reducible refine Kd.C_drew ?_))); (case side4 => exact HC0.out); rintro e w24 ⟨rfl, hb⟩; have n0_ := Aside0.mk (Kd.S_below (by (with_reducible repeat (first | apply Kd.S_alloc | apply Kd.S_drewN | apply Kd.S_drew)); exact HO192.out) hb); have n1_ := Aside0.mk (below_step (by repeat (first | (with_reducible first | exact HB.out | apply below_alloc | apply pw_below_drewN | apply below_drew1) | exact HB.out)) hb); clear HO192; clear HB; have HO192 := n0_; have HB := n1_; clear n0_ n1_; (try clear hb); (try clear hb2); (try clear hk); (try clear hi)) | (go_at_call 59; (with_reducible refine (sig_Same.calls kj2 _ _ l0 _ _ l1 t196 _ ?side1 ?side2 ?side3 ?side4 A21.out).mono ?_); (case side1 => repeat (first | exact (Kd.C_below HR0.out HB.out) | (with_reducible refine Kd.C_alloc ?_ _) | (with_reducible refine Kd.C_drewN ?_ _) | (with_reducible refine Kd.C_drew ?_))); (case side2 => exact HC0.out); (case side3 => repeat (first | exact (Kd.C_below HR1.out HB.out) | (with_reducible refine Kd.C_alloc ?_ _) | (with_reducible refine Kd.C_drewN ?_ _) | (with_reducible refine Kd.C_drew ?_))); (case side4 => exact HC1.out); rintro e w25 ⟨rfl, hb⟩; have n0_ := Aside0.mk (Kd.S_below (by (with_reducible repeat (first | apply Kd.S_alloc | apply Kd.S_drewN | apply Kd.S_drew)); exact HO192.out) hb); have n1_ := Aside0.mk (below_step (by repeat (first | (with_reducible first | exact HB.out | apply below_alloc | apply pw_below_drewN | apply below_drew1) | exact HB.out)) hb); clear HO192; clear HB; have HO192 := n0_; have HB := n1_; clear n0_ n1_; (try clear hb); (try clear hb2); (try clear hk); (try clear hi)))
              go_meet
              case rel => exact ⟨_, (true), (by first | rfl | (simp; done) | (simp [*]; done)), H', ⟨by have := HJ2.out; first | omega | exact Nat.le_refl _⟩, ⟨by (with_reducible repeat (first | apply Kd.S_alloc | apply Kd.S_drewN | apply Kd.S_drew)); exact HO192.out⟩, ⟨by repeat (first | (with_reducible first | exact HB.out | apply below_alloc | apply pw_below_drewN | apply below_drew1) | exact HB.out)⟩⟩
            · rw [if_neg c22] at H
              have c22b0 : (t195 != t196) = false := by simpa using c22
              (try (have c22b1 : decide (t195 = t196) = true := by simpa using c22))
              (try (have c22b2 : (t195 == t196) = true := by simpa using c22))
              clear c22
              replace H := Option.bind_eq_some_iff.mp H
              obtain ⟨t197, A260, H⟩ := H
              replace H : (if t197 = true then ((tachographref09_Same.f kj2 t190 l0).bind fun t198 => (tachographlaw09_SigSame.j1 kj2 l0 t190 (!t198))) else (tachographlaw09_SigSame.j1 kj2 l0 t190 true)) = some r := H
              have A26 := Aside0.mk A260
              clear A260
              by_cases c27 : t197 = true
              · subst c27
                have H1 : ((tachographref09_Same.f kj2 t190 l0).bind fun t198 => (tachographlaw09_SigSame.j1 kj2 l0 t190 (!t198))) = some r := by rw [if_pos rfl] at H; exact H
                clear H
                have H := H1
                clear H1
                replace H := Option.bind_eq_some_iff.mp H
                obtain ⟨t198, A280, H⟩ := H
                replace H : (tachographlaw09_SigSame.j1 kj2 l0 t190 (!t198)) = some r := H
                have A28 := Aside0.mk A280
                clear A280
                have H' := Aside0.mk H
                clear H
                go_wp2_with (first | ((with_reducible refine gate_callee (f := 59) rfl ?_); refine goesL_ (some 20) rfl rfl Try.func59 (by kernel_rfl) rfl #[.slice A0 l0.length c0, .slice A1 l1.length c1] rfl (by (try simp only [List.map_toArray, List.map_cons, List.map_nil]); first | done | rfl | (simp only [List.length_drop, List.length_take]; rfl) | (refine congrArg (fun z_ => #[z_]) (congrArg (Value.int IntKind.u64) (Eq.symm (Go.Proofs.YtjfklfmfeghjnaaAid.wrap_len _ (by omega)))))) ?_; (with_reducible refine (sig_Same.calls kj2 _ _ l0 _ _ l1 t193 _ ?side1 ?side2 ?side3 ?side4 A16.out).mono ?_); (case side1 => repeat (first | exact (Kd.C_below HR0.out HB.out) | (with_reducible refine Kd.C_alloc ?_ _) | (with_reducible refine Kd.C_drewN ?_ _) | (with_reducible refine Kd.C_drew ?_))); (case side2 => exact HC0.out); (case side3 => repeat (first | exact (Kd.C_below HR1.out HB.out) | (with_reducible refine Kd.C_alloc ?_ _) | (with_reducible refine Kd.C_drewN ?_ _) | (with_reducible refine Kd.C_drew ?_))); (case side4 => exact HC1.out); rintro e w29 ⟨rfl, hb⟩; refine ⟨_, rfl, ?_⟩; have n0_ := Aside0.mk (Kd.S_below (by (with_reducible repeat (first | apply Kd.S_alloc | apply Kd.S_drewN | apply Kd.S_drew)); exact HO192.out) hb); have n1_ := Aside0.mk (below_step (by repeat (first | (with_reducible first | exact HB.out | apply below_alloc | apply pw_below_drewN | apply below_drew1) | exact HB.out)) hb); clear HO192; clear HB; have HO192 := n0_; have HB := n1_; clear n0_ n1_; (try clear hb); (try clear hb2); (try clear hk); (try clear hi)) | ((with_reducible refine gate_callee (f := 60) rfl ?_); refine goesL_ (some 23) rfl rfl Try.func60 (by kernel_rfl) rfl #[.slice A0 l0.length c0, .slice A1 l1.length c1] rfl (by (try simp only [List.map_toArray, List.map_cons, List.map_nil]); first | done | rfl | (simp only [List.length_drop, List.length_take]; rfl) | (refine congrArg (fun z_ => #[z_]) (congrArg (Value.int IntKind.u64) (Eq.symm (Go.Proofs.YtjfklfmfeghjnaaAid.wrap_len _ (by omega)))))) ?_; (with_reducible refine (tachographref09_Same.calls kj2 _ _ l0 _ _ l1 t194 _ ?side1 ?side2 ?side3 ?side4 A17.out).mono ?_); (case side1 => repeat (first | exact (Kd.C_below HR0.out HB.out) | (with_reducible refine Kd.C_alloc ?_ _) | (with_reducible refine Kd.C_drewN ?_ _) | (with_reducible refine Kd.C_drew ?_))); (case side2 => exact HC0.out); (case side3 => repeat (first | exact (Kd.C_below HR1.out HB.out) | (with_reducible refine Kd.C_alloc ?_ _) | (with_reducible refine Kd.C_drewN ?_ _) | (with_reducible refine Kd.C_drew ?_))); (case side4 => exact HC1.out); rintro e w' ⟨rfl, ⟨nd, rfl⟩⟩; refine ⟨_, rfl, ?_⟩) | (go_at_call 59; (with_reducible refine (sig_Same.calls kj2 _ _ l1 _ _ l0 t195 _ ?side1 ?side2 ?side3 ?side4 A20.out).mono ?_); (case side1 => repeat (first | exact (Kd.C_below HR1.out (by repeat (first | (with_reducible first | exact HB.out | apply below_alloc | apply pw_below_drewN | apply below_drew1) | exact HB.out))) | (with_reducible refine Kd.C_alloc ?_ _) | (with_reducible refine Kd.C_drewN ?_ _) | (with_reducible refine Kd.C_drew ?_))); (case side2 => exact HC1.out); (case side3 => repeat (first | exact (Kd.C_below HR0.out (by repeat (first | (with_reducible first | exact HB.out | apply below_alloc | apply pw_below_drewN | apply below_drew1) | exact HB.out))) | (with_reducible refine Kd.C_alloc ?_ _) | (with_reducible refine Kd.C_drewN ?_ _) | (with_reducible refine Kd.C_drew ?_))); (case side4 => exact HC0.out); rintro e w30 ⟨rfl, hb⟩; have n0_ := Aside0.mk (Kd.S_below (by (with_reducible repeat (first | apply Kd.S_alloc | apply Kd.S_drewN | apply Kd.S_drew)); exact HO192.out) hb); have n1_ := Aside0.mk (below_step (by repeat (first | (with_reducible first | exact HB.out | apply below_alloc | apply pw_below_drewN | apply below_drew1) | exact HB.out)) hb); clear HO192; clear HB; have HO192 := n0_; have HB := n1_; clear n0_ n1_; (try clear hb); (try clear hb2); (try clear hk); (try clear hi)) | (go_at_call 59; (with_reducible refine (sig_Same.calls kj2 _ _ l0 _ _ l1 t196 _ ?side1 ?side2 ?side3 ?side4 A21.out).mono ?_); (case side1 => repeat (first | exact (Kd.C_below HR0.out HB.out) | (with_reducible refine Kd.C_alloc ?_ _) | (with_reducible refine Kd.C_drewN ?_ _) | (with_reducible refine Kd.C_drew ?_))); (case side2 => exact HC0.out); (case side3 => repeat (first | exact (Kd.C_below HR1.out HB.out) | (with_reducible refine Kd.C_alloc ?_ _) | (with_reducible refine Kd.C_drewN ?_ _) | (with_reducible refine Kd.C_drew ?_))); (case side4 => exact HC1.out); rintro e w31 ⟨rfl, hb⟩; have n0_ := Aside0.mk (Kd.S_below (by (with_reducible repeat (first | apply Kd.S_alloc | apply Kd.S_drewN | apply Kd.S_drew)); exact HO192.out) hb); have n1_ := Aside0.mk (below_step (by repeat (first | (with_reducible first | exact HB.out | apply below_alloc | apply pw_below_drewN | apply below_drew1) | exact HB.out)) hb); clear HO192; clear HB; have HO192 := n0_; have HB := n1_; clear n0_ n1_; (try clear hb); (try clear hb2); (try clear hk); (try clear hi); obtain ⟨Ao32, co32, eo32⟩ := Kd.S_slice HO192.out; subst eo32) | (go_at_call 59; (with_reducible refine (sig_Same.calls kj2 _ _ l0 _ _ t190 true _ ?side1 ?side2 ?side3 ?side4 A26.out).mono ?_); (case side1 => repeat (first | exact (Kd.C_below HR0.out HB.out) | (with_reducible refine Kd.C_alloc ?_ _) | (with_reducible refine Kd.C_drewN ?_ _) | (with_reducible refine Kd.C_drew ?_))); (case side2 => exact HC0.out); (case side3 => repeat (first | exact (Kd.S_reads' HO192.out).2.2 | (with_reducible refine Kd.C_alloc ?_ _) | (with_reducible refine Kd.C_drewN ?_ _) | (with_reducible refine Kd.C_drew ?_))); (case side4 => exact (Kd.S_reads' HO192.out).2.1); rintro e w33 ⟨rfl, hb⟩; have n0_ := Aside0.mk (Kd.S_below (by (with_reducible repeat (first | apply Kd.S_alloc | apply Kd.S_drewN | apply Kd.S_drew)); exact HO192.out) hb); have n1_ := Aside0.mk (below_step (by repeat (first | (with_reducible first | exact HB.out | apply below_alloc | apply pw_below_drewN | apply below_drew1) | exact HB.out)) hb); clear HO192; clear HB; have HO192 := n0_; have HB := n1_; clear n0_ n1_; (try clear hb); (try clear hb2); (try clear hk); (try clear hi)) | (go_at_call 60; (with_reducible refine (tachographref09_Same.calls kj2 _ _ t190 _ _ l0 t198 _ ?side1 ?side2 ?side3 ?side4 A28.out).mono ?_); (case side1 => repeat (first | exact (Kd.S_reads' HO192.out).2.2 | (with_reducible refine Kd.C_alloc ?_ _) | (with_reducible refine Kd.C_drewN ?_ _) | (with_reducible refine Kd.C_drew ?_))); (case side2 => exact (Kd.S_reads' HO192.out).2.1); (case side3 => repeat (first | exact (Kd.C_below HR0.out HB.out) | (with_reducible refine Kd.C_alloc ?_ _) | (with_reducible refine Kd.C_drewN ?_ _) | (with_reducible refine Kd.C_drew ?_))); (case side4 => exact HC0.out); rintro e w' ⟨rfl, ⟨nd, rfl⟩⟩))
                go_meet
                case rel => exact ⟨_, (!t198), (by first | rfl | (simp; done) | (simp [*]; done)), H', ⟨by have := HJ2.out; first | omega | exact Nat.le_refl _⟩, ⟨by (with_reducible repeat (first | apply Kd.S_alloc | apply Kd.S_drewN | apply Kd.S_drew)); exact HO192.out⟩, ⟨by repeat (first | (with_reducible first | exact HB.out | apply below_alloc | apply pw_below_drewN | apply below_drew1) | exact HB.out)⟩⟩
              · replace c27 := Bool.eq_false_iff.mpr c27
                subst c27
                have H1 : (tachographlaw09_SigSame.j1 kj2 l0 t190 true) = some r := by rw [if_neg (show ¬ (false = true) by decide)] at H; exact H
                clear H
                have H := H1
                clear H1
                have H' := Aside0.mk H
                clear H
                go_wp2_with (first | ((with_reducible refine gate_callee (f := 59) rfl ?_); refine goesL_ (some 20) rfl rfl Try.func59 (by kernel_rfl) rfl #[.slice A0 l0.length c0, .slice A1 l1.length c1] rfl (by (try simp only [List.map_toArray, List.map_cons, List.map_nil]); first | done | rfl | (simp only [List.length_drop, List.length_take]; rfl) | (refine congrArg (fun z_ => #[z_]) (congrArg (Value.int IntKind.u64) (Eq.symm (Go.Proofs.YtjfklfmfeghjnaaAid.wrap_len _ (by omega)))))) ?_; (with_reducible refine (sig_Same.calls kj2 _ _ l0 _ _ l1 t193 _ ?side1 ?side2 ?side3 ?side4 A16.out).mono ?_); (case side1 => repeat (first | exact (Kd.C_below HR0.out HB.out) | (with_reducible refine Kd.C_alloc ?_ _) | (with_reducible refine Kd.C_drewN ?_ _) | (with_reducible refine Kd.C_drew ?_))); (case side2 => exact HC0.out); (case side3 => repeat (first | exact (Kd.C_below HR1.out HB.out) | (with_reducible refine Kd.C_alloc ?_ _) | (with_reducible refine Kd.C_drewN ?_ _) | (with_reducible refine Kd.C_drew ?_))); (case side4 => exact HC1.out); rintro e w34 ⟨rfl, hb⟩; refine ⟨_, rfl, ?_⟩; have n0_ := Aside0.mk (Kd.S_below (by (with_reducible repeat (first | apply Kd.S_alloc | apply Kd.S_drewN | apply Kd.S_drew)); exact HO192.out) hb); have n1_ := Aside0.mk (below_step (by repeat (first | (with_reducible first | exact HB.out | apply below_alloc | apply pw_below_drewN | apply below_drew1) | exact HB.out)) hb); clear HO192; clear HB; have HO192 := n0_; have HB := n1_; clear n0_ n1_; (try clear hb); (try clear hb2); (try clear hk); (try clear hi)) | ((with_reducible refine gate_callee (f := 60) rfl ?_); refine goesL_ (some 23) rfl rfl Try.func60 (by kernel_rfl) rfl #[.slice A0 l0.length c0, .slice A1 l1.length c1] rfl (by (try simp only [List.map_toArray, List.map_cons, List.map_nil]); first | done | rfl | (simp only [List.length_drop, List.length_take]; rfl) | (refine congrArg (fun z_ => #[z_]) (congrArg (Value.int IntKind.u64) (Eq.symm (Go.Proofs.YtjfklfmfeghjnaaAid.wrap_len _ (by omega)))))) ?_; (with_reducible refine (tachographref09_Same.calls kj2 _ _ l0 _ _ l1 t194 _ ?side1 ?side2 ?side3 ?side4 A17.out).mono ?_); (case side1 => repeat (first | exact (Kd.C_below HR0.out HB.out) | (with_reducible refine Kd.C_alloc ?_ _) | (with_reducible refine Kd.C_drewN ?_ _) | (with_reducible refine Kd.C_drew ?_))); (case side2 => exact HC0.out); (case side3 => repeat (first | exact (Kd.C_below HR1.out HB.out) | (with_reducible refine Kd.C_alloc ?_ _) | (with_reducible refine Kd.C_drewN ?_ _) | (with_reducible refine Kd.C_drew ?_))); (case side4 => exact HC1.out); rintro e w' ⟨rfl, ⟨nd, rfl⟩⟩; refine ⟨_, rfl, ?_⟩) | (go_at_call 59; (with_reducible refine (sig_Same.calls kj2 _ _ l1 _ _ l0 t195 _ ?side1 ?side2 ?side3 ?side4 A20.out).mono ?_); (case side1 => repeat (first | exact (Kd.C_below HR1.out (by repeat (first | (with_reducible first | exact HB.out | apply below_alloc | apply pw_below_drewN | apply below_drew1) | exact HB.out))) | (with_reducible refine Kd.C_alloc ?_ _) | (with_reducible refine Kd.C_drewN ?_ _) | (with_reducible refine Kd.C_drew ?_))); (case side2 => exact HC1.out); (case side3 => repeat (first | exact (Kd.C_below HR0.out (by repeat (first | (with_reducible first | exact HB.out | apply below_alloc | apply pw_below_drewN | apply below_drew1) | exact HB.out))) | (with_reducible refine Kd.C_alloc ?_ _) | (with_reducible refine Kd.C_drewN ?_ _) | (with_reducible refine Kd.C_drew ?_))); (case side4 => exact HC0.out); rintro e w35 ⟨rfl, hb⟩; have n0_ := Aside0.mk (Kd.S_below (by (with_reducible repeat (first | apply Kd.S_alloc | apply Kd.S_drewN | apply Kd.S_drew)); exact HO192.out) hb); have n1_ := Aside0.mk (below_step (by repeat (first | (with_reducible first | exact HB.out | apply below_alloc | apply pw_below_drewN | apply below_drew1) | exact HB.out)) hb); clear HO192; clear HB; have HO192 := n0_; have HB := n1_; clear n0_ n1_; (try clear hb); (try clear hb2); (try clear hk); (try clear hi)) | (go_at_call 59; (with_reducible refine (sig_Same.calls kj2 _ _ l0 _ _ l1 t196 _ ?side1 ?side2 ?side3 ?side4 A21.out).mono ?_); (case side1 => repeat (first | exact (Kd.C_below HR0.out HB.out) | (with_reducible refine Kd.C_alloc ?_ _) | (with_reducible refine Kd.C_drewN ?_ _) | (with_reducible refine Kd.C_drew ?_))); (case side2 => exact HC0.out); (case side3 => repeat (first | exact (Kd.C_below HR1.out HB.out) | (with_reducible refine Kd.C_alloc ?_ _) | (with_reducible refine Kd.C_drewN ?_ _) | (with_reducible refine Kd.C_drew ?_))); (case side4 => exact HC1.out); rintro e w36 ⟨rfl, hb⟩; have n0_ := Aside0.mk (Kd.S_below (by (with_reducible repeat (first | apply Kd.S_alloc | apply Kd.S_drewN | apply Kd.S_drew)); exact HO192.out) hb); have n1_ := Aside0.mk (below_step (by repeat (first | (with_reducible first | exact HB.out | apply below_alloc | apply pw_below_drewN | apply below_drew1) | exact HB.out)) hb); clear HO192; clear HB; have HO192 := n0_; have HB := n1_; clear n0_ n1_; (try clear hb); (try clear hb2); (try clear hk); (try clear hi); obtain ⟨Ao37, co37, eo37⟩ := Kd.S_slice HO192.out; subst eo37) | (go_at_call 59; (with_reducible refine (sig_Same.calls kj2 _ _ l0 _ _ t190 false _ ?side1 ?side2 ?side3 ?side4 A26.out).mono ?_); (case side1 => repeat (first | exact (Kd.C_below HR0.out HB.out) | (with_reducible refine Kd.C_alloc ?_ _) | (with_reducible refine Kd.C_drewN ?_ _) | (with_reducible refine Kd.C_drew ?_))); (case side2 => exact HC0.out); (case side3 => repeat (first | exact (Kd.S_reads' HO192.out).2.2 | (with_reducible refine Kd.C_alloc ?_ _) | (with_reducible refine Kd.C_drewN ?_ _) | (with_reducible refine Kd.C_drew ?_))); (case side4 => exact (Kd.S_reads' HO192.out).2.1); rintro e w38 ⟨rfl, hb⟩; have n0_ := Aside0.mk (Kd.S_below (by (with_reducible repeat (first | apply Kd.S_alloc | apply Kd.S_drewN | apply Kd.S_drew)); exact HO192.out) hb); have n1_ := Aside0.mk (below_step (by repeat (first | (with_reducible first | exact HB.out | apply below_alloc | apply pw_below_drewN | apply below_drew1) | exact HB.out)) hb); clear HO192; clear HB; have HO192 := n0_; have HB := n1_; clear n0_ n1_; (try clear hb); (try clear hb2); (try clear hk); (try clear hi)))
                go_meet
                case rel => exact ⟨_, (true), (by first | rfl | (simp; done) | (simp [*]; done)), H', ⟨by have := HJ2.out; first | omega | exact Nat.le_refl _⟩, ⟨by (with_reducible repeat (first | apply Kd.S_alloc | apply Kd.S_drewN | apply Kd.S_drew)); exact HO192.out⟩, ⟨by repeat (first | (with_reducible first | exact HB.out | apply below_alloc | apply pw_below_drewN | apply below_drew1) | exact HB.out)⟩⟩
        case rest =>
          clear HC14
          try clear c1
          try clear c2
          try clear p2
          try clear c5
          try clear c6
          try clear c10
          try clear c14
          try clear c18
          try clear c18b0
          try clear c18b1
          try clear c18b2
          try clear c22
          try clear c22b0
          try clear c22b1
          try clear c22b2
          try clear c27
          try clear p2
          obtain ⟨kq, x45_13, rfl, HA, HJ13, HO_5, HB⟩ := hcut
          cases kq with
          | zero => exact absurd HA.out (by simp [tachographlaw09_SigSame.j1])
          | succ kj13 =>
            have H := HA.out
            clear HA
            simp only [tachographlaw09_SigSame.j1] at H
            by_cases c39 : x45_13 = true
            · subst c39
              have H1 : (some false) = some r := by rw [if_pos rfl] at H; exact H
              clear H
              have H := H1
              clear H1
              obtain rfl := Option.some.inj H
              go_wp2
              go_ret
              exact ⟨by first | rfl | (simp [errW_none, errW_some] <;> rfl) | (simp [*, errW_none, errW_some] <;> rfl), by repeat (first | (with_reducible first | exact HB.out | apply below_alloc | apply pw_below_drewN | apply below_drew1) | exact HB.out)⟩
            · replace c39 := Bool.eq_false_iff.mpr c39
              subst c39
              have H1 : ((sig_Clone.f kj13 l0).bind fun t6 => (tachographlaw09_SigSame.l0 kj13 l0 t190 t6 (t190.length : Int) 0)) = some r := by rw [if_neg (show ¬ (false = true) by decide)] at H; exact H
              clear H
              have H := H1
              clear H1
              replace H := Option.bind_eq_some_iff.mp H
              obtain ⟨y6, A6_0, H⟩ := H
              have A6_ := Aside0.mk A6_0
              clear A6_0
              replace H : (tachographlaw09_SigSame.l0 kj13 l0 t190 y6 (t190.length : Int) 0) = some r := H
              obtain ⟨lo_, hlo_⟩ : ∃ n_, n_ = wc.heap.size := ⟨_, rfl⟩
              have HO6_ := Aside0.mk (show Kd.S k92 92 wc w.heap.size (fun k_ => k_ < lo_) _ _ from Kd.S_mono (Kd.S_bound HO_5.out) (fun k_ hk_ => by rw [hlo_]; exact hk_.2.2.1))
              clear HO_5
              have HO_5 := HO6_
              clear HO6_
              have H' := Aside0.mk H
              clear H
              obtain ⟨Ao40, co40, eo40⟩ := Kd.S_slice HO_5.out
              subst eo40
              go_wp2_with (first | ((with_reducible refine gate_callee (f := 58) rfl ?_); refine goesL_ (some 47) rfl rfl Try.func58 (by kernel_rfl) rfl #[.slice A0 l0.length c0] rfl (by (try simp only [List.map_toArray, List.map_cons, List.map_nil]); first | done | rfl) ?_; (with_reducible refine (sig_Clone.calls kj13 _ _ l0 y6 _ ?side1 ?side2 A6_.out).mono ?_); (case side1 => repeat (first | exact (Kd.C_below HR0.out HB.out) | (with_reducible refine Kd.C_alloc ?_ _) | (with_reducible refine Kd.C_drewN ?_ _) | (with_reducible refine Kd.C_drew ?_))); (case side2 => exact HC0.out); rintro e w6_ ⟨v6_, rfl, ho0, hb⟩; refine ⟨_, rfl, ?_⟩; have hd_ : Kd.S k92 92 w6_ lo_ (fun k_ => lo_ ≤ k_) v6_ y6 := (by rw [hlo_]; exact Kd.S_mono (Kd.S_bound ho0) (fun _ hk => hk.2.1)); have n0_ := Aside0.mk (Kd.S_below (by (with_reducible repeat (first | apply Kd.S_alloc | apply Kd.S_drewN | apply Kd.S_drew)); exact HO_5.out) hb); have n1_ := Aside0.mk (below_step (by repeat (first | (with_reducible first | exact HB.out | apply below_alloc | apply pw_below_drewN | apply below_drew1) | exact HB.out)) hb); clear HO_5 HB ho0 hb; have HO_5 := n0_; have HB := n1_; clear n0_ n1_; have HD := Aside0.mk hd_; clear hd_; obtain ⟨Ad_, cd_, ed_⟩ := Kd.S_slice HD.out; subst ed_))
              go_loopg [50] kj13 (fun kq v50 w' => ∃ (x5_3 : List (S92)) (x50_3 : Int), v50 = .int .i64 x50_3 ∧ Aside0 (tachographlaw09_SigSame.l0 kq l0 x5_3 y6 (t190.length : Int) x50_3 = some r) ∧ Aside0 (kq ≤ kj13) ∧ Aside0 (Kd.S k92 92 w' w.heap.size (fun k_ => k_ < lo_) (.slice Ao40 t190.length co40) x5_3) ∧ Aside0 (Below w.heap.size w w') ∧ Aside0 (Kd.S k92 92 w' lo_ (fun k_ => lo_ ≤ k_) (.slice Ad_ y6.length cd_) y6))
              case atStart => exact ⟨(t190), (0), (by first | rfl | (simp; done) | (simp [*]; done)), H', ⟨Nat.le_refl _⟩, ⟨by (with_reducible repeat (first | apply Kd.S_alloc | apply Kd.S_drewN | apply Kd.S_drew)); exact HO_5.out⟩, ⟨by repeat (first | (with_reducible first | exact HB.out | apply below_alloc | apply pw_below_drewN | apply below_drew1) | exact HB.out)⟩, ⟨by (with_reducible repeat (first | apply Kd.S_alloc | apply Kd.S_drewN | apply Kd.S_drew)); exact HD.out⟩⟩
              case round =>
                clear H'
                try clear c1
                try clear c2
                try clear p2
                try clear c3
                try clear c5
                try clear c6
                try clear c10
                try clear c14
                try clear c18
                try clear c18b0
                try clear c18b1
                try clear c18b2
                try clear c22
                try clear c22b0
                try clear c22b1
                try clear c22b2
                try clear c27
                try clear c39
                try clear p2
                obtain ⟨x5_3, x50_3, rfl, HA, HK3, HO_5, HB, HD⟩ := hrel
                have hl5_3 := (Kd.S_reads' HO_5.out).1
                rw [hl5_3] at HO_5
                (try simp only [hl5_3])
                cases gk with
                | zero => exact absurd HA.out (by simp [tachographlaw09_SigSame.l0])
                | succ k3 =>
                  have H := HA.out
                  clear HA
                  simp only [tachographlaw09_SigSame.l0] at H
                  by_cases c41 : x50_3 < (t190.length : Int)
                  · rw [if_pos c41] at H
                    have c41b0 : decide (x50_3 < (t190.length : Int)) = true := decide_eq_true c41
                    (try simp only [hl5_3] at c41b0)
                    clear c41
                    by_cases c42 : 0 ≤ x50_3
                    · rw [if_pos c42] at H
                      have c42b0 : decide (0 ≤ x50_3) = true := decide_eq_true c42
                      clear c42
                      by_cases c43 : x50_3 < (x5_3.length : Int)
                      · rw [if_pos c43] at H
                        have c43b0 : decide (x50_3 < (x5_3.length : Int)) = true := decide_eq_true c43
                        (try simp only [hl5_3] at c43b0)
                        clear c43
                        by_cases c44 : ((rd_T92 x5_3 x50_3).f0).size + 1 ≤ 9223372036854775807
                        · rw [if_pos c44] at H
                          have c44b0 := eq_true c44
                          have c44b1 : decide (((rd_T92 x5_3 x50_3).f0).size + 1 ≤ 9223372036854775807) = true := decide_eq_true c44
                          try have c44b2 : (9223372036854775807 < ((rd_T92 x5_3 x50_3).f0).size + 1) = False := eq_false (Nat.not_lt.2 c44)
                          obtain ⟨y202, hy202⟩ : ∃ y_ : List (S92), y_ = (x5_3.set (x50_3 : Int).toNat (⟨((rd_T92 x5_3 x50_3).f0) ++ (⟨#[120]⟩ : ByteArray), (rd_T92 x5_3 x50_3).f1⟩ : S92)) := ⟨_, rfl⟩
                          replace H : (tachographlaw09_SigSame.l1 k3 l0 y202 y6 x50_3 (t190.length : Int) x50_3 (((rd_T92 y202 x50_3).f1).length : Int) 0) = some r := by first | (rw [hy202]; with_reducible exact H) | (have H2_ := (Option.bind_some _ _).symm.trans H; rw [hy202]; with_reducible exact H2_) | (have H2_ := (Option.bind_some _ _).symm.trans H; with_reducible exact H2_) | with_reducible exact H | (rw [hy202]; exact H) | exact H
                          have Ny202 := Aside0.mk hy202
                          clear hy202
                          have H' := Aside0.mk H
                          clear H
                          have p201 : 0 ≤ (x50_3 : Int) := of_decide_eq_true (by first | (with_reducible assumption) | assumption)
                          have q201 : x50_3 < (x5_3.length : Int) := of_decide_eq_true (by first | (with_reducible assumption) | assumption)
                          obtain ⟨ad201, A201_1, c201_1, e201, hx201_0, hx201_1, hl201_1, hi201_1⟩ := at_T92 (Kd.S_reads' HO_5.out).2.2 x50_3 p201 q201
                          cases e201
                          obtain ⟨ce201, hce201, hMe201, hcc201⟩ := Kd.S_get HO_5.out z92 x50_3 p201 (by first | exact q201 | exact of_decide_eq_true (by first | (with_reducible assumption) | assumption) | (have e_ := (Kd.S_reads' HO_5.out).1; omega))
                          obtain ⟨ve201_1, rfl, ge201_1⟩ := k92_openM hMe201
                          have hv201_1 := hcc201 1 _ rfl
                          rw [add_field _ _ 1 (by omega)] at hv201_1
                          replace hv201_1 := Option.some.inj (hv201_1.symm.trans hx201_1)
                          rw [hv201_1] at ge201_1
                          have HL201_1 := Aside0.mk (show Kd.R (Kd.int .i64) 3 _ _ _ _ ((rd_T92 x5_3 x50_3).f1) from ge201_1)
                          clear hv201_1 ge201_1
                          have HX201_1 := Aside0.mk hx201_1
                          clear hcc201 hce201
                          have HR201_1 := Aside0.mk hi201_1
                          have HC201_1 := Aside0.mk hl201_1
                          clear hi201_1 hl201_1
                          replace p201 := eq_true p201
                          replace q201 := eq_true q201
                          have p45 : 0 ≤ (x50_3 : Int) := of_decide_eq_true (by first | (with_reducible assumption) | assumption)
                          have q45 : (x50_3 : Int) < ((x5_3.length : Int) : Int) := of_decide_eq_true (by first | (with_reducible assumption) | assumption)
                          obtain ⟨go45, co45, eo45, gb45, gl45, cl45, HG45⟩ := Kd.S_form HO_5.out (by omega)
                          (first | cases eo45 | (injection eo45 with ea_ en_ ec_; (first | subst ea_ | (injection ea_ with ea_; subst ea_)); subst ec_; clear en_))
                          have GB45 := Aside0.mk gb45
                          have GG45 := Aside0.mk HG45
                          clear gb45 gl45 HG45
                          (first | simp only [add_plain] at hx201_0 | skip)
                          (first | simp only [add_plain] at hx201_1 | skip)
                          obtain ⟨_, ce45, hcl45, hM45, hcc45, hfr45, _, _⟩ := Kd.S_elem HO_5.out z92 (x50_3 : Int) p45 q45
                          obtain ⟨ve45_1, rfl, ge45_1⟩ := k92_openM hM45
                          have hx45_0 : wr.cell? ⟨go45, (x50_3 : Int).toNat * 2, none⟩ = some (.string ((rd_T92 x5_3 x50_3).f0)) := hcc45 0 _ rfl
                          have hx45_1 : wr.cell? ⟨go45, (x50_3 : Int).toNat * 2 + 1, none⟩ = some (ve45_1) := hcc45 1 _ rfl
                          have hf45_0 : wr.frozen? ⟨go45, (x50_3 : Int).toNat * 2, none⟩ = false := hfr45 0
                          have hf45_1 : wr.frozen? ⟨go45, (x50_3 : Int).toNat * 2 + 1, none⟩ = false := hfr45 1
                          clear hcl45 hcc45 hfr45 hM45
                          replace p45 := eq_true p45
                          replace q45 := eq_true q45
                          have HX46 := Aside0.mk (show Kd.S k92 92 wr w.heap.size (fun k_ => ((fun k_ => k_ < lo_)) k_ ∧ ¬ ((fun _ => False)) k_) (.slice (some ⟨go45, 0, none⟩) x5_3.length co40) x5_3 from (by (with_reducible repeat (first | apply Kd.S_alloc | apply Kd.S_drewN | apply Kd.S_drew)); exact Kd.S_mono HO_5.out (fun k_ hk => ⟨hk, fun e_ => e_⟩)))
                          obtain ⟨oki46, ce46, hcl46, hM46, hcc46, hfr46, hoki46, hH46⟩ := Kd.S_elem HX46.out z92 (x50_3 : Int) (of_decide_eq_true (by first | (with_reducible assumption) | assumption)) (by have h_ : (x50_3 : Int) < ((x5_3.length : Int) : Int) := of_decide_eq_true (by first | (with_reducible assumption) | assumption); first | exact h_ | (have e_ := (Kd.S_reads' HO_5.out).1; omega) | simpa using h_)
                          obtain ⟨ve46_1, rfl, ge46_1⟩ := k92_openM hM46
                          have HP46 := Kd.S_seg hH46 (of_decide_eq_true (by first | (with_reducible assumption) | assumption)) (by have h_ : (x50_3 : Int) < ((x5_3.length : Int) : Int) := of_decide_eq_true (by first | (with_reducible assumption) | assumption); first | exact h_ | (have e_ := (Kd.S_reads' HO_5.out).1; omega) | simpa using h_) (seg := [.string (((rd_T92 x5_3 x50_3).f0) ++ (⟨#[120]⟩ : ByteArray))]) (j := 0) (show 1 ≤ 2 from by decide) (x' := (⟨((rd_T92 x5_3 x50_3).f0) ++ (⟨#[120]⟩ : ByteArray), (rd_T92 x5_3 x50_3).f1⟩ : S92)) (k92_mkM _ _ _ (⟨((rd_T92 x5_3 x50_3).f0) ++ (⟨#[120]⟩ : ByteArray), (rd_T92 x5_3 x50_3).f1⟩ : S92) (Kd.R_mono ge46_1 (fun _ h_ => Or.inl h_))) (fun _ hk => hk) (fun k_ hk_ => hk_.elim)
                          have hx46_0 := hcc46 0 _ rfl
                          (try simp only [show (k92).sz = 2 from rfl, Nat.mul_one, Nat.add_zero] at hx46_0)
                          have hf46_0 := hfr46 0
                          (try simp only [show (k92).sz = 2 from rfl, Nat.mul_one, Nat.add_zero] at hf46_0)
                          clear hcl46 hcc46 hfr46 hM46 hoki46 hH46
                          go_wp2_with (first | ((with_reducible refine gate_store (t := 9) (p := 60) rfl ?_); refine store_event (t := 9) (p := 60) (v := ?vo_w47) (w1 := (wr.setCell ⟨go45, (x50_3 : Int).toNat * 2, none⟩ (.string (((rd_T92 x5_3 x50_3).f0) ++ (⟨#[120]⟩ : ByteArray))))) ?hg ?ho ?hn ?hr ?_; (case ho => rfl); (case hg => rfl); (case hn => rfl); (case hr => first | (go_simp; done) | (go_simp; rfl)); intro w47 hw; have hg : wr.grownBy w47 (some go45) := (by rw [hw]; exact HP46.2); have hp_ : Kd.S k92 92 w47 w.heap.size (fun k_ => k_ < lo_) (.slice (some ⟨go45, 0, none⟩) x5_3.length co40) y202 := (by rw [hw, Ny202.out]; exact HP46.1); clear HP46; have hd_ := Kd.S_grown HD.out hg (fun k_ hk_ he_ => by injection he_ with he_; subst he_; exact absurd ((Kd.S_R hp_).1 _ rfl) (Nat.not_lt.2 hk_)); clear HD; have HD := Aside0.mk hd_; clear hd_; have n0_ := Aside0.mk (hp_); have n1_ := Aside0.mk (Kd.R_after (v := (.slice (some ⟨go45, 0, none⟩) x5_3.length co40)) (v1 := (.slice (some ⟨go45, 0, none⟩) x5_3.length co40)) (ok := (fun k_ => k_ < lo_)) (by (with_reducible repeat (first | apply Kd.R_alloc | apply Kd.R_drewN | apply Kd.R_drew)); exact HL201_1.out) hg (.inl rfl)); have n2_ := Aside0.mk ((by rw [hw]; exact below_set (HB.out) GB45.out : Below w.heap.size w w47)); clear HO_5; clear HL201_1; clear HB; have HO_5 := n0_; have HL201_1 := n1_; have HB := n2_; clear n0_ n1_ n2_; clear hg hw hp_; have p203 : 0 ≤ (x50_3 : Int) := of_decide_eq_true (by first | (with_reducible assumption) | assumption); have q203 : x50_3 < (y202.length : Int) := (by have h_ : (x50_3 : Int) < ((x5_3.length : Int) : Int) := of_decide_eq_true (by first | (with_reducible assumption) | assumption); first | (have e_ := (Kd.S_reads' HO_5.out).1; omega) | simpa only [Ny202.out, List.length_set] using h_); have ql203 : ((x50_3 : Int) < ((x5_3.length : Int) : Int)) = True := eq_true (of_decide_eq_true (by first | (with_reducible assumption) | assumption)); obtain ⟨ad203, A203_1, c203_1, e203, hx203_0, hx203_1, hl203_1, hi203_1⟩ := at_T92 (Kd.S_reads' HO_5.out).2.2 x50_3 p203 q203; obtain rfl : (⟨go45, 0, none⟩ : Addr) = ad203 := (by injection e203); obtain ⟨ce203, hce203, hMe203, hcc203⟩ := Kd.S_get HO_5.out z92 x50_3 p203 (by first | exact q203 | exact of_decide_eq_true (by first | (with_reducible assumption) | assumption) | (have e_ := (Kd.S_reads' HO_5.out).1; omega)); obtain ⟨ve203_1, rfl, ge203_1⟩ := k92_openM hMe203; have hv203_1 := hcc203 1 _ rfl; rw [add_field _ _ 1 (by omega)] at hv203_1; replace hv203_1 := Option.some.inj (hv203_1.symm.trans hx203_1); rw [hv203_1] at ge203_1; have HL203_1 := Aside0.mk (show Kd.R (Kd.int .i64) 3 _ _ _ _ ((rd_T92 y202 x50_3).f1) from ge203_1); clear hv203_1 ge203_1; have HX203_1 := Aside0.mk hx203_1; clear hcc203 hce203; (first | simp only [add_plain] at hx203_0 | simp only [add_at] at hx203_0 | simp only [Addr.add, Nat.zero_add] at hx203_0 | skip); (first | simp only [add_plain] at hx203_1 | simp only [add_at] at hx203_1 | simp only [Addr.add, Nat.zero_add] at hx203_1 | skip); have HR203_1 := Aside0.mk hi203_1; have HC203_1 := Aside0.mk hl203_1; clear hi203_1 hl203_1; replace p203 := eq_true p203; replace q203 := eq_true q203))
                          go_loopg [67] k3 (fun kq v67 w' => ∃ (x5_4 : List (S92)) (x67_4 : Int), v67 = .int .i64 x67_4 ∧ Aside0 (tachographlaw09_SigSame.l1 kq l0 x5_4 y6 x50_3 (t190.length : Int) x50_3 (((rd_T92 y202 x50_3).f1).length : Int) x67_4 = some r) ∧ Aside0 (kq ≤ k3) ∧ Aside0 (Kd.S k92 92 w' w.heap.size (fun k_ => k_ < lo_) (.slice (some ⟨go45, 0, none⟩) x5_3.length co40) x5_4) ∧ Aside0 (Below w.heap.size w w') ∧ Aside0 (Kd.S k92 92 w' lo_ (fun k_ => lo_ ≤ k_) (.slice Ad_ y6.length cd_) y6))
                          case atStart => exact ⟨(y202), (0), (by first | rfl | (simp; done) | (simp [*]; done)), H', ⟨Nat.le_refl _⟩, ⟨by (try simp only [hl5_3]); (with_reducible repeat (first | apply Kd.S_alloc | apply Kd.S_drewN | apply Kd.S_drew)); exact HO_5.out⟩, ⟨by repeat (first | (with_reducible first | exact HB.out | apply below_alloc | apply pw_below_drewN | apply below_drew1) | exact HB.out)⟩, ⟨by (with_reducible repeat (first | apply Kd.S_alloc | apply Kd.S_drewN | apply Kd.S_drew)); exact HD.out⟩⟩
                          case round =>
                            clear H'
                            try clear c1
                            try clear c2
                            try clear p2
                            try clear q2
                            try clear hx2
                            try clear c3
                            try clear c4
                            try clear p4
                            try clear q4
                            try clear hx4
                            try clear hf4
                            try clear c5
                            try clear c6
                            try clear c10
                            try clear c14
                            try clear c18
                            try clear c18b0
                            try clear c18b1
                            try clear c18b2
                            try clear c20
                            try clear p20
                            try clear q20
                            try clear hx20
                            try clear c22
                            try clear c22b0
                            try clear c22b1
                            try clear c22b2
                            try clear c27
                            try clear c39
                            try clear c41
                            try clear c41b0
                            try clear c42
                            try clear c42b0
                            try clear c43
                            try clear c43b0
                            try clear c44
                            try clear c44b0
                            try clear c44b1
                            try clear c44b2
                            try clear c45
                            try clear p45
                            try clear q45
                            try clear hx45
                            try clear hf45
                            try clear c46
                            try clear hx46
                            try clear hf46
                            try clear hx201_0
                            try clear hx201_1
                            try clear hx203_0
                            try clear hx203_1
                            try clear hx45_0
                            try clear hx45_1
                            try clear hx46_0
                            try clear p2
                            try clear p201
                            try clear p203
                            try clear p45
                            try clear q201
                            try clear q203
                            try clear q45
                            obtain ⟨x5_4, x67_4, rfl, HA, HK4, HO_5, HB, HD⟩ := hrel
                            have hl5_4 := (Kd.S_reads' HO_5.out).1
                            rw [hl5_4] at HO_5
                            (try simp only [hl5_4])
                            cases gk with
                            | zero => exact absurd HA.out (by simp [tachographlaw09_SigSame.l1])
                            | succ k4 =>
                              have H := HA.out
                              clear HA
                              simp only [tachographlaw09_SigSame.l1] at H
                              by_cases c48 : x67_4 < (((rd_T92 y202 x50_3).f1).length : Int)
                              · rw [if_pos c48] at H
                                have c48b0 : decide (x67_4 < (((rd_T92 y202 x50_3).f1).length : Int)) = true := decide_eq_true c48
                                (try simp only [hl5_3] at c48b0)
                                (try simp only [hl5_4] at c48b0)
                                clear c48
                                by_cases c49 : 0 ≤ x50_3
                                · rw [if_pos c49] at H
                                  have c49b0 : decide (0 ≤ x50_3) = true := decide_eq_true c49
                                  clear c49
                                  by_cases c50 : x50_3 < (x5_4.length : Int)
                                  · rw [if_pos c50] at H
                                    have c50b0 : decide (x50_3 < (x5_4.length : Int)) = true := decide_eq_true c50
                                    (try simp only [hl5_3] at c50b0)
                                    (try simp only [hl5_4] at c50b0)
                                    clear c50
                                    by_cases c51 : 0 ≤ x67_4
                                    · rw [if_pos c51] at H
                                      have c51b0 : decide (0 ≤ x67_4) = true := decide_eq_true c51
                                      clear c51
                                      by_cases c52 : x67_4 < (((rd_T92 x5_4 x50_3).f1).length : Int)
                                      · rw [if_pos c52] at H
                                        have c52b0 : decide (x67_4 < (((rd_T92 x5_4 x50_3).f1).length : Int)) = true := decide_eq_true c52
                                        (try simp only [hl5_3] at c52b0)
                                        (try simp only [hl5_4] at c52b0)
                                        clear c52
                                        obtain ⟨y206, hy206⟩ : ∃ y_ : List Int, y_ = (((rd_T92 x5_4 x50_3).f1).set (x67_4 : Int).toNat (wrap64 ((rd ((rd_T92 x5_4 x50_3).f1) x67_4) + 1))) := ⟨_, rfl⟩
                                        replace H : (tachographlaw09_SigSame.l1 k4 l0 (x5_4.set (x50_3 : Int).toNat (⟨(rd_T92 x5_4 x50_3).f0, y206⟩ : S92)) y6 x50_3 (t190.length : Int) x50_3 (((rd_T92 y202 x50_3).f1).length : Int) (wrap64 (x67_4 + 1))) = some r := by first | (rw [hy206]; with_reducible exact H) | (have H2_ := (Option.bind_some _ _).symm.trans H; rw [hy206]; with_reducible exact H2_) | (have H2_ := (Option.bind_some _ _).symm.trans H; with_reducible exact H2_) | with_reducible exact H | (rw [hy206]; exact H) | exact H
                                        have Ny206 := Aside0.mk hy206
                                        clear hy206
                                        obtain ⟨y208, hy208⟩ : ∃ y_ : List (S92), y_ = (x5_4.set (x50_3 : Int).toNat (⟨(rd_T92 x5_4 x50_3).f0, y206⟩ : S92)) := ⟨_, rfl⟩
                                        replace H : (tachographlaw09_SigSame.l1 k4 l0 y208 y6 x50_3 (t190.length : Int) x50_3 (((rd_T92 y202 x50_3).f1).length : Int) (wrap64 (x67_4 + 1))) = some r := by first | (rw [hy208]; with_reducible exact H) | (have H2_ := (Option.bind_some _ _).symm.trans H; rw [hy208]; with_reducible exact H2_) | (have H2_ := (Option.bind_some _ _).symm.trans H; with_reducible exact H2_) | with_reducible exact H | (rw [hy208]; exact H) | exact H
                                        have Ny208 := Aside0.mk hy208
                                        clear hy208
                                        have H' := Aside0.mk H
                                        clear H
                                        have p204 : 0 ≤ (x50_3 : Int) := of_decide_eq_true (by first | (with_reducible assumption) | assumption)
                                        have q204 : x50_3 < (x5_4.length : Int) := of_decide_eq_true (by first | (with_reducible assumption) | assumption)
                                        obtain ⟨ad204, A204_1, c204_1, e204, hx204_0, hx204_1, hl204_1, hi204_1⟩ := at_T92 (Kd.S_reads' HO_5.out).2.2 x50_3 p204 q204
                                        obtain rfl : (⟨go45, 0, none⟩ : Addr) = ad204 := (by injection e204)
                                        obtain ⟨ce204, hce204, hMe204, hcc204⟩ := Kd.S_get HO_5.out z92 x50_3 p204 (by first | exact q204 | exact of_decide_eq_true (by first | (with_reducible assumption) | assumption) | (have e_ := (Kd.S_reads' HO_5.out).1; omega))
                                        obtain ⟨ve204_1, rfl, ge204_1⟩ := k92_openM hMe204
                                        have hv204_1 := hcc204 1 _ rfl
                                        rw [add_field _ _ 1 (by omega)] at hv204_1
                                        replace hv204_1 := Option.some.inj (hv204_1.symm.trans hx204_1)
                                        rw [hv204_1] at ge204_1
                                        have HL204_1 := Aside0.mk (show Kd.R (Kd.int .i64) 3 _ _ _ _ ((rd_T92 x5_4 x50_3).f1) from ge204_1)
                                        clear hv204_1 ge204_1
                                        have HX204_1 := Aside0.mk hx204_1
                                        clear hcc204 hce204
                                        (first | simp only [add_plain] at hx204_0 | simp only [add_at] at hx204_0 | simp only [Addr.add, Nat.zero_add] at hx204_0 | skip)
                                        (first | simp only [add_plain] at hx204_1 | simp only [add_at] at hx204_1 | simp only [Addr.add, Nat.zero_add] at hx204_1 | skip)
                                        have HR204_1 := Aside0.mk hi204_1
                                        have HC204_1 := Aside0.mk hl204_1
                                        clear hi204_1 hl204_1
                                        replace p204 := eq_true p204
                                        replace q204 := eq_true q204
                                        have p205 : 0 ≤ (x67_4 : Int) := of_decide_eq_true (by first | (with_reducible assumption) | assumption)
                                        have q205 : x67_4 < (((rd_T92 x5_4 x50_3).f1).length : Int) := of_decide_eq_true (by first | (with_reducible assumption) | assumption)
                                        obtain ⟨ad205, e205, hx205_0⟩ := Kd.at_int (by repeat (first | (with_reducible exact HR204_1.out) | (with_reducible refine Kd.C_alloc ?_ _) | (with_reducible refine Kd.C_drewN ?_ _) | (with_reducible refine Kd.C_drew ?_) | exact HR204_1.out)) x67_4 p205 q205
                                        cases e205
                                        replace p205 := eq_true p205
                                        replace q205 := eq_true q205
                                        have p53 : 0 ≤ (x67_4 : Int) := of_decide_eq_true (by first | (with_reducible assumption) | assumption)
                                        have q53 : (x67_4 : Int) < ((((rd_T92 x5_4 x50_3).f1).length : Int) : Int) := of_decide_eq_true (by first | (with_reducible assumption) | assumption)
                                        obtain ⟨go53, co53, eo53, gb53, gl53, cl53, HG53⟩ := Kd.R_form HL204_1.out (by omega)
                                        (first | cases eo53 | (injection eo53 with ea_ en_ ec_; (first | subst ea_ | (injection ea_ with ea_; subst ea_)); subst ec_; clear en_))
                                        have GB53 := Aside0.mk gb53
                                        have GG53 := Aside0.mk HG53
                                        clear gb53 gl53 HG53
                                        (first | simp only [add_plain] at hx205_0 | skip)
                                        obtain ⟨hx53_0, hf53_0⟩ := Kd.R_celln 0 HL204_1.out (x67_4 : Int) p53 q53
                                        replace p53 := eq_true p53
                                        replace q53 := eq_true q53
                                        have hq54 : (x50_3 : Int) < (x5_4.length : Int) := (by have h_ : (x50_3 : Int) < ((x5_4.length : Int) : Int) := of_decide_eq_true (by first | (with_reducible assumption) | assumption); first | exact h_ | (have e_ := (Kd.S_reads' HO_5.out).1; omega) | simpa only [List.length_set, List.length_set] using h_)
                                        obtain ⟨oki54, ce54, hcl54, hM54, hcc54, hok54, hbk54⟩ := Kd.S_borrow HO_5.out z92 (x50_3 : Int) (of_decide_eq_true (by first | (with_reducible assumption) | assumption)) hq54
                                        obtain ⟨ve54_1, rfl, ge54_1⟩ := k92_openM hM54
                                        have hv54 := hcc54 1 _ rfl
                                        rw [add_field _ _ 1 (by omega)] at hv54
                                        replace hv54 := Option.some.inj (hv54.symm.trans HX204_1.out)
                                        subst hv54
                                        clear hcc54 hcl54
                                        replace ge54_1 := (show Kd.R (Kd.int .i64) 3 _ _ _ _ ((rd_T92 x5_4 x50_3).f1) from ge54_1)
                                        have HP54 := Kd.R_putg ge54_1 (x67_4 : Int) (wrap64 ((rd ((rd_T92 x5_4 x50_3).f1) x67_4) + 1))
                                        go_wp2_with (first | ((with_reducible refine gate_store (t := 3) (p := 79) rfl ?_); refine store_event (t := 3) (p := 79) (v := ?vo_w55) (w1 := (wr.setCell ⟨go53, (x67_4 : Int).toNat, none⟩ (.int .i64 (wrap64 ((rd ((rd_T92 x5_4 x50_3).f1) x67_4) + 1))))) ?hg ?ho ?hn ?hr ?_; (case ho => rfl); (case hg => rfl); (case hn => rfl); (case hr => first | (go_simp; done) | (go_simp; rfl)); intro w55 hw; have hg : wr.grownBy w55 (some go53) := (by rw [hw]; exact HP54.2); have hz_ : Kd.R (Kd.int .i64) 3 w55 w.heap.size oki54 (.slice (some ⟨go53, 0, none⟩) ((rd_T92 x5_4 x50_3).f1).length c204_1) y206 := (by rw [hw, Ny206.out]; exact HP54.1); have hp_ : Kd.S k92 92 w55 w.heap.size (fun k_ => k_ < lo_) (.slice (some ⟨go45, 0, none⟩) x5_4.length co40) y208 := (by rw [Ny208.out]; exact hbk54 hg (fun k_ e_ => by injection e_ with e_; subst e_; exact ge54_1.1 _ rfl) (k92_mkM _ _ _ (⟨(rd_T92 x5_4 x50_3).f0, y206⟩ : S92) hz_)); have hm_ := Kd.R_mono hz_ hok54; have hd_ := Kd.S_grown HD.out hg (fun k_ hk_ he_ => by injection he_ with he_; subst he_; exact absurd (hok54 _ (ge54_1.1 _ rfl)).1 (Nat.not_lt.2 hk_)); clear HD; have HD := Aside0.mk hd_; clear hd_; clear HP54 hbk54; have n0_ := Aside0.mk (hp_); have n1_ := Aside0.mk ((by rw [hw]; exact below_set (HB.out) GB53.out : Below w.heap.size w w55)); have n2_ := Aside0.mk (hm_); have n3_ := Aside0.mk ((Kd.R_reads' hm_).2.1); clear HO_5; clear HB; clear HL204_1; have HO_5 := n0_; have HB := n1_; have HL209 := n2_; have HC207 := n3_; clear n0_ n1_ n2_ n3_; clear hg hw hp_ hz_ hm_ hok54))
                                        (try simp only [← hl5_4])
                                        go_roundg k4
                                        case measure => have := HJ2.out; have := HJ13.out; have := HK3.out; have := HK4.out; omega
                                        case rel => exact ⟨(y208), (wrap64 (x67_4 + 1)), (by first | rfl | (simp; done) | (simp [*]; done)), H', ⟨by have := HJ2.out; have := HJ13.out; have := HK3.out; have := HK4.out; omega⟩, ⟨by (try simp only [hl5_3]); (try simp only [hl5_4]); (with_reducible repeat (first | apply Kd.S_alloc | apply Kd.S_drewN | apply Kd.S_drew)); exact HO_5.out⟩, ⟨by repeat (first | (with_reducible first | exact HB.out | apply below_alloc | apply pw_below_drewN | apply below_drew1) | exact HB.out)⟩, ⟨by (with_reducible repeat (first | apply Kd.S_alloc | apply Kd.S_drewN | apply Kd.S_drew)); exact HD.out⟩⟩
                                      · rw [if_neg c52] at H
                                        exact absurd H (by simp)
                                    · rw [if_neg c51] at H
                                      exact absurd H (by simp)
                                  · rw [if_neg c50] at H
                                    exact absurd H (by simp)
                                · rw [if_neg c49] at H
                                  exact absurd H (by simp)
                              · rw [if_neg c48] at H
                                have c48b0 : decide (x67_4 < (((rd_T92 y202 x50_3).f1).length : Int)) = false := decide_eq_false c48
                                (try simp only [hl5_3] at c48b0)
                                (try simp only [hl5_4] at c48b0)
                                clear c48
                                have H' := Aside0.mk H
                                clear H
                                go_wp2
                                (try simp only [← hl5_3, ← hl5_4])
                                go_roundg k4
                                case measure => have := HJ2.out; have := HJ13.out; have := HK3.out; have := HK4.out; omega
                                case rel => exact ⟨(x5_4), (wrap64 (x50_3 + 1)), (by first | rfl | (simp; done) | (simp [*]; done)), H', ⟨by have := HJ2.out; have := HJ13.out; have := HK3.out; have := HK4.out; omega⟩, ⟨by (try simp only [hl5_3]); (try simp only [hl5_4]); (with_reducible repeat (first | apply Kd.S_alloc | apply Kd.S_drewN | apply Kd.S_drew)); exact HO_5.out⟩, ⟨by repeat (first | (with_reducible first | exact HB.out | apply below_alloc | apply pw_below_drewN | apply below_drew1) | exact HB.out)⟩, ⟨by (with_reducible repeat (first | apply Kd.S_alloc | apply Kd.S_drewN | apply Kd.S_drew)); exact HD.out⟩⟩
                        · rw [if_neg c44] at H
                          exact absurd H (by simp)
                      · rw [if_neg c43] at H
                        exact absurd H (by simp)
                    · rw [if_neg c42] at H
                      exact absurd H (by simp)
                  · rw [if_neg c41] at H
                    have c41b0 : decide (x50_3 < (t190.length : Int)) = false := decide_eq_false c41
                    (try simp only [hl5_3] at c41b0)
                    clear c41
                    replace H := Option.bind_eq_some_iff.mp H
                    obtain ⟨t199, A560, H⟩ := H
                    replace H : (if t199 = true then ((tachographref09_Same.f k3 l0 y6).bind fun t200 => (some t200)) else (some false)) = some r := H
                    have A56 := Aside0.mk A560
                    clear A560
                    by_cases c57 : t199 = true
                    · subst c57
                      have H1 : ((tachographref09_Same.f k3 l0 y6).bind fun t200 => (some t200)) = some r := by rw [if_pos rfl] at H; exact H
                      clear H
                      have H := H1
                      clear H1
                      replace H := Option.bind_eq_some_iff.mp H
                      obtain ⟨t200, A580, H⟩ := H
                      replace H : (some t200) = some r := H
                      have A58 := Aside0.mk A580
                      clear A580
                      obtain rfl := Option.some.inj H
                      go_wp2_with (first | ((with_reducible refine gate_callee (f := 51) rfl ?_); refine goesL_ (some 82) rfl rfl Try.func51 (by kernel_rfl) rfl #[] rfl (by (try simp only [List.map_toArray, List.map_cons, List.map_nil]); first | done | rfl | (simp only [List.length_drop, List.length_take]; rfl) | (refine congrArg (fun z_ => #[z_]) (congrArg (Value.int IntKind.u64) (Eq.symm (Go.Proofs.YtjfklfmfeghjnaaAid.wrap_len _ (by omega)))))) ?_; (with_reducible refine (tachographlaw09_fixed.calls k3  true _ A56.out).mono ?_); rintro e w59 ⟨rfl, hb⟩; refine ⟨_, rfl, ?_⟩; have hd_ := Kd.S_below (by (with_reducible repeat (first | apply Kd.S_alloc | apply Kd.S_drewN | apply Kd.S_drew)); exact HD.out) hb; clear HD; have HD := Aside0.mk hd_; clear hd_; have n0_ := Aside0.mk (Kd.S_below (by (with_reducible repeat (first | apply Kd.S_alloc | apply Kd.S_drewN | apply Kd.S_drew)); exact HO_5.out) hb); have n1_ := Aside0.mk (below_step (by repeat (first | (with_reducible first | exact HB.out | apply below_alloc | apply pw_below_drewN | apply below_drew1) | exact HB.out)) hb); clear HO_5; clear HB; have HO_5 := n0_; have HB := n1_; clear n0_ n1_; (try clear hb); (try clear hb2); (try clear hk); (try clear hi)) | (go_at_call 60; (with_reducible refine (tachographref09_Same.calls k3 _ _ l0 _ _ y6 t200 _ ?side1 ?side2 ?side3 ?side4 A58.out).mono ?_); (case side1 => repeat (first | exact (Kd.C_below HR0.out HB.out) | (with_reducible refine Kd.C_alloc ?_ _) | (with_reducible refine Kd.C_drewN ?_ _) | (with_reducible refine Kd.C_drew ?_))); (case side2 => exact HC0.out); (case side3 => repeat (first | exact (Kd.S_reads' HD.out).2.2 | (with_reducible refine Kd.C_alloc ?_ _) | (with_reducible refine Kd.C_drewN ?_ _) | (with_reducible refine Kd.C_drew ?_))); (case side4 => exact (Kd.S_reads' HD.out).2.1); rintro e w' ⟨rfl, ⟨nd, rfl⟩⟩))
                      go_ret
                      exact ⟨by first | rfl | (simp [errW_none, errW_some] <;> rfl) | (simp [*, errW_none, errW_some] <;> rfl), by repeat (first | (with_reducible first | exact HB.out | apply below_alloc | apply pw_below_drewN | apply below_drew1) | exact HB.out)⟩
                    · replace c57 := Bool.eq_false_iff.mpr c57
                      subst c57
                      have H1 : (some false) = some r := by rw [if_neg (show ¬ (false = true) by decide)] at H; exact H
                      clear H
                      have H := H1
                      clear H1
                      obtain rfl := Option.some.inj H
                      go_wp2_with (first | ((with_reducible refine gate_callee (f := 51) rfl ?_); refine goesL_ (some 82) rfl rfl Try.func51 (by kernel_rfl) rfl #[] rfl (by (try simp only [List.map_toArray, List.map_cons, List.map_nil]); first | done | rfl | (simp only [List.length_drop, List.length_take]; rfl) | (refine congrArg (fun z_ => #[z_]) (congrArg (Value.int IntKind.u64) (Eq.symm (Go.Proofs.YtjfklfmfeghjnaaAid.wrap_len _ (by omega)))))) ?_; (with_reducible refine (tachographlaw09_fixed.calls k3  false _ A56.out).mono ?_); rintro e w60 ⟨rfl, hb⟩; refine ⟨_, rfl, ?_⟩; have hd_ := Kd.S_below (by (with_reducible repeat (first | apply Kd.S_alloc | apply Kd.S_drewN | apply Kd.S_drew)); exact HD.out) hb; clear HD; have HD := Aside0.mk hd_; clear hd_; have n0_ := Aside0.mk (Kd.S_below (by (with_reducible repeat (first | apply Kd.S_alloc | apply Kd.S_drewN | apply Kd.S_drew)); exact HO_5.out) hb); have n1_ := Aside0.mk (below_step (by repeat (first | (with_reducible first | exact HB.out | apply below_alloc | apply pw_below_drewN | apply below_drew1) | exact HB.out)) hb); clear HO_5; clear HB; have HO_5 := n0_; have HB := n1_; clear n0_ n1_; (try clear hb); (try clear hb2); (try clear hk); (try clear hi)))
                      go_ret
                      exact ⟨by first | rfl | (simp [errW_none, errW_some] <;> rfl) | (simp [*, errW_none, errW_some] <;> rfl), by repeat (first | (with_reducible first | exact HB.out | apply below_alloc | apply pw_below_drewN | apply below_drew1) | exact HB.out)⟩

set_option maxRecDepth 100000 in
theorem tachographlaw09_SigSame.laid0 : Go.Proofs.YtjfklfmfeghjnaaOpen.Laid Try.prog 92 k92 (fun b_ : S92 => (Go.Proofs.YtjfklfmfeghjnaaOpen.pairOk Go.Proofs.YtjfklfmfeghjnaaOpen.strOk (Go.Proofs.YtjfklfmfeghjnaaOpen.sliceOk 8 (Go.Proofs.YtjfklfmfeghjnaaOpen.intOk .i64))) (b_.f0, b_.f1)) := (Go.Proofs.YtjfklfmfeghjnaaOpen.laid_iso (fun b_ : S92 => (b_.f0, b_.f1)) (fun p_ => ⟨p_.1, p_.2⟩) (fun _ => rfl) (Go.Proofs.YtjfklfmfeghjnaaOpen.laid_struct Try.underlying92 (by kernel_rfl) (Go.Proofs.YtjfklfmfeghjnaaOpen.laidF_cons (by rfl) (Go.Proofs.YtjfklfmfeghjnaaOpen.laid_string Try.underlying9 (by kernel_rfl)) (Go.Proofs.YtjfklfmfeghjnaaOpen.laidF_one (by rfl) (Go.Proofs.YtjfklfmfeghjnaaOpen.laid_slice 3 Try.underlying90 (by kernel_rfl) (by kernel_rfl) (Go.Proofs.YtjfklfmfeghjnaaOpen.laid_int Try.underlying3 (by kernel_rfl)))))))
set_option maxRecDepth 100000 in
theorem tachographlaw09_SigSame.laid1 : Go.Proofs.YtjfklfmfeghjnaaOpen.Laid Try.prog 92 k92 (fun b_ : S92 => (Go.Proofs.YtjfklfmfeghjnaaOpen.pairOk Go.Proofs.YtjfklfmfeghjnaaOpen.strOk (Go.Proofs.YtjfklfmfeghjnaaOpen.sliceOk 8 (Go.Proofs.YtjfklfmfeghjnaaOpen.intOk .i64))) (b_.f0, b_.f1)) := (Go.Proofs.YtjfklfmfeghjnaaOpen.laid_iso (fun b_ : S92 => (b_.f0, b_.f1)) (fun p_ => ⟨p_.1, p_.2⟩) (fun _ => rfl) (Go.Proofs.YtjfklfmfeghjnaaOpen.laid_struct Try.underlying92 (by kernel_rfl) (Go.Proofs.YtjfklfmfeghjnaaOpen.laidF_cons (by rfl) (Go.Proofs.YtjfklfmfeghjnaaOpen.laid_string Try.underlying9 (by kernel_rfl)) (Go.Proofs.YtjfklfmfeghjnaaOpen.laidF_one (by rfl) (Go.Proofs.YtjfklfmfeghjnaaOpen.laid_slice 3 Try.underlying90 (by kernel_rfl) (by kernel_rfl) (Go.Proofs.YtjfklfmfeghjnaaOpen.laid_int Try.underlying3 (by kernel_rfl)))))))
/-- THE ONE PURE STATEMENT of tachographlaw09_SigSame: yours. -/
def tachographlaw09_SigSame.Pure : Prop := ∀ (l0 : List (S92)) (l1 : List (S92)), (Go.Proofs.YtjfklfmfeghjnaaOpen.sliceOk 40 (fun b_ : S92 => (Go.Proofs.YtjfklfmfeghjnaaOpen.pairOk Go.Proofs.YtjfklfmfeghjnaaOpen.strOk (Go.Proofs.YtjfklfmfeghjnaaOpen.sliceOk 8 (Go.Proofs.YtjfklfmfeghjnaaOpen.intOk .i64))) (b_.f0, b_.f1))) l0 → (Go.Proofs.YtjfklfmfeghjnaaOpen.sliceOk 40 (fun b_ : S92 => (Go.Proofs.YtjfklfmfeghjnaaOpen.pairOk Go.Proofs.YtjfklfmfeghjnaaOpen.strOk (Go.Proofs.YtjfklfmfeghjnaaOpen.sliceOk 8 (Go.Proofs.YtjfklfmfeghjnaaOpen.intOk .i64))) (b_.f0, b_.f1))) l1 → ∃ k, tachographlaw09_SigSame.f k l0 l1 = some true
theorem tachographlaw09_SigSame.walk (P : tachographlaw09_SigSame.Pure) (a0 : Option Addr) (cap0 : Nat) (l0 : List (S92)) (a1 : Option Addr) (cap1 : Nat) (l1 : List (S92)) (w : World) (w0 : (Go.Proofs.YtjfklfmfeghjnaaOpen.sliceOk 40 (fun b_ : S92 => (Go.Proofs.YtjfklfmfeghjnaaOpen.pairOk Go.Proofs.YtjfklfmfeghjnaaOpen.strOk (Go.Proofs.YtjfklfmfeghjnaaOpen.sliceOk 8 (Go.Proofs.YtjfklfmfeghjnaaOpen.intOk .i64))) (b_.f0, b_.f1))) l0) (e0 : l0.length ≤ cap0) (C0 : Kd.C k92 w a0 l0.length l0) (w1 : (Go.Proofs.YtjfklfmfeghjnaaOpen.sliceOk 40 (fun b_ : S92 => (Go.Proofs.YtjfklfmfeghjnaaOpen.pairOk Go.Proofs.YtjfklfmfeghjnaaOpen.strOk (Go.Proofs.YtjfklfmfeghjnaaOpen.sliceOk 8 (Go.Proofs.YtjfklfmfeghjnaaOpen.intOk .i64))) (b_.f0, b_.f1))) l1) (e1 : l1.length ≤ cap1) (C1 : Kd.C k92 w a1 l1.length l1) :
    Calls Try.prog 14 #[.slice a0 l0.length cap0, .slice a1 l1.length cap1] w fun e w' => e = .returned (.bool true) ∧ Below w.heap.size w w' := by
  obtain ⟨k, h⟩ := P l0 l1 w0 w1
  refine (tachographlaw09_SigSame.calls k _ _ l0 _ _ l1 true w C0 e0 C1 e1 h).mono ?_
  rintro e w' ⟨rfl, hd⟩
  exact ⟨rfl, hd⟩

end Go.Proofs.Ytjfklfmfeghjnaa.PS
