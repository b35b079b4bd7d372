-- Contracts of Go functions, each with its plain Lean function: written by wip/tools/myprint.py of this work (the kit's print, with contracts proved by hand spliced in).
import Derived.Test.YtjfklfmfeghjnabPKx0
import Derived.Test.YtjfklfmfeghjnabPKx1
import Derived.Test.YtjfklfmfeghjnabPKx6
namespace Go.Proofs.Ytjfklfmfeghjnab.PK
open Go.RowKit Go.Proofs.YtjfklfmfeghjnabW.PrintWords Go.Proofs.YtjfklfmfeghjnabW.PrintLast Go.Proofs.YtjfklfmfeghjnabW.PrintMore
attribute [local go_sem] max2_int min2_int max_two min_two max_three min_three max_four min_four   -- for this text's walks alone
set_option linter.unusedVariables false
set_option linter.unusedSimpArgs false

/-! ### tachographlaw14_BlockShifts: function 10 -/
mutual
def tachographlaw14_BlockShifts.j0 : Nat → List (S106) → List (S44) → Int → Bool → Option (Bool)
  | 0, _, _, _, _ => none
  | k + 1, x0, x1, x2, x38 => if x38 = true then ((tachographlaw14_fixed.f k).bind fun t206 => (some t206)) else (tachographlaw14_BlockShifts.l0 k x0 x1 x2 ([] : List (S44)) x1 (x1.length : Int) 0)
def tachographlaw14_BlockShifts.l0 : Nat → List (S106) → List (S44) → Int → List (S44) → List (S44) → Int → Int → Option (Bool)
  | 0, _, _, _, _, _, _, _ => none
  | k + 1, x0, x1, x2, x7, x40, x41, x42 => if x42 < x41 then (if 0 ≤ x42 then (if x42 < (x40.length : Int) then (if x7.length < 4398046511104 then (tachographlaw14_BlockShifts.l0 k x0 x1 x2 (x7 ++ [(⟨IntKind.u64.wrap (((rd_T44 x40 x42).f0) + x2), (rd_T44 x40 x42).f1⟩ : S44)]) x40 x41 (wrap64 (x42 + 1))) else (none)) else (none)) else (none)) else ((block_Put.f k x0 x1).bind fun bt212 => ((block_Put.f k x0 x7).bind fun bt216 => (if bt212.2 = 0 then (tachographlaw14_BlockShifts.j2 k bt212.1 bt216.1 (bt216.2 != 0)) else (tachographlaw14_BlockShifts.j2 k bt212.1 bt216.1 true))))
def tachographlaw14_BlockShifts.j2 : Nat → List Int → List Int → Bool → Option (Bool)
  | 0, _, _, _ => none
  | k + 1, x10, x12, x73 => if x73 = true then ((tachographlaw14_fixed.f k).bind fun t220 => (some t220)) else ((tachographlaw14_fixed.f k).bind fun t221 => (if t221 = true then ((tachographlaw14_tail.f k x10).bind fun t222 => ((tachographlaw14_tail.f k x12).bind fun t223 => (some (t222.toList == t223.toList)))) else (some false)))
end
def tachographlaw14_BlockShifts.f (k : Nat) (l0 : List (S106)) (l1 : List (S44)) (a2 : Int) : Option (Bool) := (tachographlaw09_Great.f k l0).bind fun t203 => (if t203 = true then (tachographlaw14_BlockShifts.j0 k l0 l1 a2 true) else ((tachographlaw12_Great.f k l1 2000).bind fun t204 => (if t204 = true then (tachographlaw14_BlockShifts.j0 k l0 l1 a2 true) else (if (l1.length : Int) = 0 then (tachographlaw14_BlockShifts.j0 k l0 l1 a2 true) else (if 0 ≤ (wrap64 ((l1.length : Int) - 1)) then (if (wrap64 ((l1.length : Int) - 1)) < (l1.length : Int) then (if ((rd_T44 l1 (wrap64 ((l1.length : Int) - 1))).f0) > 9223372036854775808 then (tachographlaw14_BlockShifts.j0 k l0 l1 a2 true) else (tachographlaw14_BlockShifts.j0 k l0 l1 a2 (decide (a2 > 4611686018427387904)))) else (none)) else (none))))))
theorem tachographlaw14_BlockShifts.mono_l : ∀ k, (∀ y0 y1 y2 y3, LeO (tachographlaw14_BlockShifts.j0 k y0 y1 y2 y3) (tachographlaw14_BlockShifts.j0 (k + 1) y0 y1 y2 y3)) ∧ (∀ y0 y1 y2 y3 y4 y5 y6, LeO (tachographlaw14_BlockShifts.l0 k y0 y1 y2 y3 y4 y5 y6) (tachographlaw14_BlockShifts.l0 (k + 1) y0 y1 y2 y3 y4 y5 y6)) ∧ (∀ y0 y1 y2, LeO (tachographlaw14_BlockShifts.j2 k y0 y1 y2) (tachographlaw14_BlockShifts.j2 (k + 1) y0 y1 y2))
  | 0 => ⟨fun _ _ _ _ r h => by simp [tachographlaw14_BlockShifts.j0] at h, fun _ _ _ _ _ _ _ r h => by simp [tachographlaw14_BlockShifts.l0] at h, fun _ _ _ r h => by simp [tachographlaw14_BlockShifts.j2] at h⟩
  | k + 1 => by
    obtain ⟨ih0, ih1, ih2⟩ := tachographlaw14_BlockShifts.mono_l k
    refine ⟨?_, ?_, ?_⟩
    · intro y0 y1 y2 y3
      unfold tachographlaw14_BlockShifts.j0
      repeat' first
      | (with_reducible exact ih0 _ _ _ _)
      | (with_reducible exact ih1 _ _ _ _ _ _ _)
      | (with_reducible exact ih2 _ _ _)
      | (with_reducible exact block_Put.mono _ _ _)
      | (with_reducible exact tachographlaw09_Great.mono _ _)
      | (with_reducible exact tachographlaw12_Great.mono _ _ _)
      | (with_reducible exact tachographlaw14_fixed.mono _)
      | (with_reducible exact tachographlaw14_tail.mono _ _)
      | (with_reducible exact LeO.refl _)
      | (with_reducible exact LeO.none _)
      | (with_reducible refine LeO.ite ?_ ?_)
      | (with_reducible refine LeO.bind ?_ (fun _ => ?_))
      | exact ih0 _ _ _ _
      | exact ih1 _ _ _ _ _ _ _
      | exact ih2 _ _ _
      | exact block_Put.mono _ _ _
      | exact tachographlaw09_Great.mono _ _
      | exact tachographlaw12_Great.mono _ _ _
      | exact tachographlaw14_fixed.mono _
      | exact tachographlaw14_tail.mono _ _
      | exact LeO.none _
      | refine LeO.ite ?_ ?_
      | refine LeO.bind ?_ (fun _ => ?_)
    · intro y0 y1 y2 y3 y4 y5 y6
      unfold tachographlaw14_BlockShifts.l0
      repeat' first
      | (with_reducible exact ih0 _ _ _ _)
      | (with_reducible exact ih1 _ _ _ _ _ _ _)
      | (with_reducible exact ih2 _ _ _)
      | (with_reducible exact block_Put.mono _ _ _)
      | (with_reducible exact tachographlaw09_Great.mono _ _)
      | (with_reducible exact tachographlaw12_Great.mono _ _ _)
      | (with_reducible exact tachographlaw14_fixed.mono _)
      | (with_reducible exact tachographlaw14_tail.mono _ _)
      | (with_reducible exact LeO.refl _)
      | (with_reducible exact LeO.none _)
      | (with_reducible refine LeO.ite ?_ ?_)
      | (with_reducible refine LeO.bind ?_ (fun _ => ?_))
      | exact ih0 _ _ _ _
      | exact ih1 _ _ _ _ _ _ _
      | exact ih2 _ _ _
      | exact block_Put.mono _ _ _
      | exact tachographlaw09_Great.mono _ _
      | exact tachographlaw12_Great.mono _ _ _
      | exact tachographlaw14_fixed.mono _
      | exact tachographlaw14_tail.mono _ _
      | exact LeO.none _
      | refine LeO.ite ?_ ?_
      | refine LeO.bind ?_ (fun _ => ?_)
    · intro y0 y1 y2
      unfold tachographlaw14_BlockShifts.j2
      repeat' first
      | (with_reducible exact ih0 _ _ _ _)
      | (with_reducible exact ih1 _ _ _ _ _ _ _)
      | (with_reducible exact ih2 _ _ _)
      | (with_reducible exact block_Put.mono _ _ _)
      | (with_reducible exact tachographlaw09_Great.mono _ _)
      | (with_reducible exact tachographlaw12_Great.mono _ _ _)
      | (with_reducible exact tachographlaw14_fixed.mono _)
      | (with_reducible exact tachographlaw14_tail.mono _ _)
      | (with_reducible exact LeO.refl _)
      | (with_reducible exact LeO.none _)
      | (with_reducible refine LeO.ite ?_ ?_)
      | (with_reducible refine LeO.bind ?_ (fun _ => ?_))
      | exact ih0 _ _ _ _
      | exact ih1 _ _ _ _ _ _ _
      | exact ih2 _ _ _
      | exact block_Put.mono _ _ _
      | exact tachographlaw09_Great.mono _ _
      | exact tachographlaw12_Great.mono _ _ _
      | exact tachographlaw14_fixed.mono _
      | exact tachographlaw14_tail.mono _ _
      | exact LeO.none _
      | refine LeO.ite ?_ ?_
      | refine LeO.bind ?_ (fun _ => ?_)
theorem tachographlaw14_BlockShifts.mono : ∀ a0 a1 a2 k, LeO (tachographlaw14_BlockShifts.f k a0 a1 a2) (tachographlaw14_BlockShifts.f (k + 1) a0 a1 a2) := by
  intro a0 a1 a2 k
  obtain ⟨ih0, ih1, ih2⟩ := tachographlaw14_BlockShifts.mono_l k
  unfold tachographlaw14_BlockShifts.f
  repeat' first
      | (with_reducible exact ih0 _ _ _ _)
      | (with_reducible exact ih1 _ _ _ _ _ _ _)
      | (with_reducible exact ih2 _ _ _)
      | (with_reducible exact block_Put.mono _ _ _)
      | (with_reducible exact tachographlaw09_Great.mono _ _)
      | (with_reducible exact tachographlaw12_Great.mono _ _ _)
      | (with_reducible exact tachographlaw14_fixed.mono _)
      | (with_reducible exact tachographlaw14_tail.mono _ _)
      | (with_reducible exact LeO.refl _)
      | (with_reducible exact LeO.none _)
      | (with_reducible refine LeO.ite ?_ ?_)
      | (with_reducible refine LeO.bind ?_ (fun _ => ?_))
      | exact ih0 _ _ _ _
      | exact ih1 _ _ _ _ _ _ _
      | exact ih2 _ _ _
      | exact block_Put.mono _ _ _
      | exact tachographlaw09_Great.mono _ _
      | exact tachographlaw12_Great.mono _ _ _
      | exact tachographlaw14_fixed.mono _
      | exact tachographlaw14_tail.mono _ _
      | exact LeO.none _
      | refine LeO.ite ?_ ?_
      | refine LeO.bind ?_ (fun _ => ?_)
set_option maxHeartbeats 8000000 in
set_option maxRecDepth 100000 in
theorem tachographlaw14_BlockShifts.calls (k : Nat) (A0 : Option Addr) (c0 : Nat) (l0 : List (S106)) (P1_ : Nat → Prop) (A1 : Option Addr) (c1 : Nat) (l1 : List (S44)) (a2 : Int) (r : Bool) (w : World) (hr0 : Kd.C k106 w A0 l0.length l0) (hc0 : l0.length ≤ c0) (hs1 : Kd.V k44 44 w w.heap.size (fun k_ => P1_ k_) (.slice A1 l1.length c1) l1) (h : tachographlaw14_BlockShifts.f k l0 l1 a2 = some r) :
    Calls Try.prog 10 #[.slice A0 l0.length c0, .slice A1 l1.length c1, .int .u64 a2] w fun e w' => e = .returned (.bool r) ∧ Below w.heap.size w w' := by
  have hu44 := Try.underlying44
  have HR0 := Aside0.mk hr0
  have HC0 := Aside0.mk hc0
  clear hr0 hc0
  have HO1 := Aside0.mk (show Kd.V k44 44 w w.heap.size (fun k_ => (P1_ k_ ∨ w.heap.size ≤ k_)) (.slice A1 l1.length c1) l1 from Kd.V_mono hs1 (fun k_ hk => .inl hk))
  have HB := Aside0.mk (Below.refl w.heap.size w)
  have H : ((tachographlaw09_Great.f k l0).bind fun t203 => (if t203 = true then (tachographlaw14_BlockShifts.j0 k l0 l1 a2 true) else ((tachographlaw12_Great.f k l1 2000).bind fun t204 => (if t204 = true then (tachographlaw14_BlockShifts.j0 k l0 l1 a2 true) else (if (l1.length : Int) = 0 then (tachographlaw14_BlockShifts.j0 k l0 l1 a2 true) else (if 0 ≤ (wrap64 ((l1.length : Int) - 1)) then (if (wrap64 ((l1.length : Int) - 1)) < (l1.length : Int) then (if ((rd_T44 l1 (wrap64 ((l1.length : Int) - 1))).f0) > 9223372036854775808 then (tachographlaw14_BlockShifts.j0 k l0 l1 a2 true) else (tachographlaw14_BlockShifts.j0 k l0 l1 a2 (decide (a2 > 4611686018427387904)))) else (none)) else (none))))))) = some r := h
  clear h
  have HC4 := Aside0.mk H
  clear H
  go_enter Try.func10, Try.ntmps10
  go_upto_region 1 with (fail)
  go_cut [38] (fun v38 wc => ∃ (kq : Nat) (x38_3 : Bool), v38 = .bool x38_3 ∧ Aside0 (tachographlaw14_BlockShifts.j0 kq l0 l1 a2 x38_3 = some r) ∧ Aside0 (kq ≤ k) ∧ Aside0 (Kd.V k44 44 wc w.heap.size (fun k_ => (P1_ k_ ∨ w.heap.size ≤ k_)) (.slice A1 l1.length c1) l1) ∧ Aside0 (Below w.heap.size w wc))
  case first =>
    have H := HC4.out
    clear HC4
    replace H := Option.bind_eq_some_iff.mp H
    obtain ⟨t203, A50, H⟩ := H
    replace H : (if t203 = true then (tachographlaw14_BlockShifts.j0 k l0 l1 a2 true) else ((tachographlaw12_Great.f k l1 2000).bind fun t204 => (if t204 = true then (tachographlaw14_BlockShifts.j0 k l0 l1 a2 true) else (if (l1.length : Int) = 0 then (tachographlaw14_BlockShifts.j0 k l0 l1 a2 true) else (if 0 ≤ (wrap64 ((l1.length : Int) - 1)) then (if (wrap64 ((l1.length : Int) - 1)) < (l1.length : Int) then (if ((rd_T44 l1 (wrap64 ((l1.length : Int) - 1))).f0) > 9223372036854775808 then (tachographlaw14_BlockShifts.j0 k l0 l1 a2 true) else (tachographlaw14_BlockShifts.j0 k l0 l1 a2 (decide (a2 > 4611686018427387904)))) else (none)) else (none)))))) = some r := H
    have A5 := Aside0.mk A50
    clear A50
    by_cases c6 : t203 = true
    · subst c6
      have H1 : (tachographlaw14_BlockShifts.j0 k l0 l1 a2 true) = some r := by rw [if_pos rfl] at H; exact H
      clear H
      have H := H1
      clear H1
      have H' := Aside0.mk H
      clear H
      go_wp2_with (first | ((with_reducible refine gate_callee (f := 29) rfl ?_); refine goesL_ (some 15) rfl rfl Try.func29 (by kernel_rfl) rfl #[.slice A0 l0.length c0] rfl (by (try simp only [List.map_toArray, List.map_cons, List.map_nil]); first | done | rfl | (simp only [List.length_drop, List.length_take]; rfl) | (refine congrArg (fun z_ => #[z_]) (congrArg (Value.int IntKind.u64) (Eq.symm (Go.Proofs.YtjfklfmfeghjnabAid.wrap_len _ (by omega)))))) ?_; (with_reducible refine (tachographlaw09_Great.calls k _ _ l0 true _ ?side1 ?side2 A5.out).mono ?_); (case side1 => repeat (first | exact (Kd.C_below HR0.out HB.out) | (with_reducible refine Kd.C_alloc ?_ _) | (with_reducible refine Kd.C_drewN ?_ _) | (with_reducible refine Kd.C_drew ?_))); (case side2 => exact HC0.out); rintro e w7 ⟨rfl, hb⟩; refine ⟨_, rfl, ?_⟩; have n0_ := Aside0.mk (Kd.V_below (by (with_reducible repeat (first | apply Kd.V_alloc | apply Kd.V_drewN | apply Kd.V_drew)); exact HO1.out) hb); have n1_ := Aside0.mk (below_step (by repeat (first | (with_reducible first | exact HB.out | apply below_alloc | apply pw_below_drewN | apply below_drew1) | exact HB.out)) hb); clear HO1; clear HB; have HO1 := n0_; have HB := n1_; clear n0_ n1_; (try clear hb); (try clear hb2); (try clear hk); (try clear hi)))
      go_meet
      case rel => exact ⟨_, (true), (by first | rfl | (simp; done) | (simp [*]; done)), H', ⟨by first | omega | exact Nat.le_refl _⟩, ⟨by (with_reducible repeat (first | apply Kd.V_alloc | apply Kd.V_drewN | apply Kd.V_drew)); exact HO1.out⟩, ⟨by repeat (first | (with_reducible first | exact HB.out | apply below_alloc | apply pw_below_drewN | apply below_drew1) | exact HB.out)⟩⟩
    · replace c6 := Bool.eq_false_iff.mpr c6
      subst c6
      have H1 : ((tachographlaw12_Great.f k l1 2000).bind fun t204 => (if t204 = true then (tachographlaw14_BlockShifts.j0 k l0 l1 a2 true) else (if (l1.length : Int) = 0 then (tachographlaw14_BlockShifts.j0 k l0 l1 a2 true) else (if 0 ≤ (wrap64 ((l1.length : Int) - 1)) then (if (wrap64 ((l1.length : Int) - 1)) < (l1.length : Int) then (if ((rd_T44 l1 (wrap64 ((l1.length : Int) - 1))).f0) > 9223372036854775808 then (tachographlaw14_BlockShifts.j0 k l0 l1 a2 true) else (tachographlaw14_BlockShifts.j0 k l0 l1 a2 (decide (a2 > 4611686018427387904)))) else (none)) else (none))))) = some r := by rw [if_neg (show ¬ (false = true) by decide)] at H; exact H
      clear H
      have H := H1
      clear H1
      replace H := Option.bind_eq_some_iff.mp H
      obtain ⟨t204, A80, H⟩ := H
      replace H : (if t204 = true then (tachographlaw14_BlockShifts.j0 k l0 l1 a2 true) else (if (l1.length : Int) = 0 then (tachographlaw14_BlockShifts.j0 k l0 l1 a2 true) else (if 0 ≤ (wrap64 ((l1.length : Int) - 1)) then (if (wrap64 ((l1.length : Int) - 1)) < (l1.length : Int) then (if ((rd_T44 l1 (wrap64 ((l1.length : Int) - 1))).f0) > 9223372036854775808 then (tachographlaw14_BlockShifts.j0 k l0 l1 a2 true) else (tachographlaw14_BlockShifts.j0 k l0 l1 a2 (decide (a2 > 4611686018427387904)))) else (none)) else (none)))) = some r := H
      have A8 := Aside0.mk A80
      clear A80
      by_cases c9 : t204 = true
      · subst c9
        have H1 : (tachographlaw14_BlockShifts.j0 k l0 l1 a2 true) = some r := by rw [if_pos rfl] at H; exact H
        clear H
        have H := H1
        clear H1
        have H' := Aside0.mk H
        clear H
        go_wp2_with (first | ((with_reducible refine gate_callee (f := 29) rfl ?_); refine goesL_ (some 15) rfl rfl Try.func29 (by kernel_rfl) rfl #[.slice A0 l0.length c0] rfl (by (try simp only [List.map_toArray, List.map_cons, List.map_nil]); first | done | rfl | (simp only [List.length_drop, List.length_take]; rfl) | (refine congrArg (fun z_ => #[z_]) (congrArg (Value.int IntKind.u64) (Eq.symm (Go.Proofs.YtjfklfmfeghjnabAid.wrap_len _ (by omega)))))) ?_; (with_reducible refine (tachographlaw09_Great.calls k _ _ l0 false _ ?side1 ?side2 A5.out).mono ?_); (case side1 => repeat (first | exact (Kd.C_below HR0.out HB.out) | (with_reducible refine Kd.C_alloc ?_ _) | (with_reducible refine Kd.C_drewN ?_ _) | (with_reducible refine Kd.C_drew ?_))); (case side2 => exact HC0.out); rintro e w10 ⟨rfl, hb⟩; refine ⟨_, rfl, ?_⟩; have n0_ := Aside0.mk (Kd.V_below (by (with_reducible repeat (first | apply Kd.V_alloc | apply Kd.V_drewN | apply Kd.V_drew)); exact HO1.out) hb); have n1_ := Aside0.mk (below_step (by repeat (first | (with_reducible first | exact HB.out | apply below_alloc | apply pw_below_drewN | apply below_drew1) | exact HB.out)) hb); clear HO1; clear HB; have HO1 := n0_; have HB := n1_; clear n0_ n1_; (try clear hb); (try clear hb2); (try clear hk); (try clear hi)) | (go_at_call 24; (with_reducible refine (tachographlaw12_Great.calls k _ _ l1 2000 true _ ?side1 ?side2 A8.out).mono ?_); (case side1 => repeat (first | exact (Kd.V_reads' HO1.out).2.2 | (with_reducible refine Kd.C_alloc ?_ _) | (with_reducible refine Kd.C_drewN ?_ _) | (with_reducible refine Kd.C_drew ?_))); (case side2 => exact (Kd.V_reads' HO1.out).2.1); rintro e w11 ⟨rfl, hb⟩; have n0_ := Aside0.mk (Kd.V_below (by (with_reducible repeat (first | apply Kd.V_alloc | apply Kd.V_drewN | apply Kd.V_drew)); exact HO1.out) hb); have n1_ := Aside0.mk (below_step (by repeat (first | (with_reducible first | exact HB.out | apply below_alloc | apply pw_below_drewN | apply below_drew1) | exact HB.out)) hb); clear HO1; clear HB; have HO1 := n0_; have HB := n1_; clear n0_ n1_; (try clear hb); (try clear hb2); (try clear hk); (try clear hi)))
        go_meet
        case rel => exact ⟨_, (true), (by first | rfl | (simp; done) | (simp [*]; done)), H', ⟨by first | omega | exact Nat.le_refl _⟩, ⟨by (with_reducible repeat (first | apply Kd.V_alloc | apply Kd.V_drewN | apply Kd.V_drew)); exact HO1.out⟩, ⟨by repeat (first | (with_reducible first | exact HB.out | apply below_alloc | apply pw_below_drewN | apply below_drew1) | exact HB.out)⟩⟩
      · replace c9 := Bool.eq_false_iff.mpr c9
        subst c9
        have H1 : (if (l1.length : Int) = 0 then (tachographlaw14_BlockShifts.j0 k l0 l1 a2 true) else (if 0 ≤ (wrap64 ((l1.length : Int) - 1)) then (if (wrap64 ((l1.length : Int) - 1)) < (l1.length : Int) then (if ((rd_T44 l1 (wrap64 ((l1.length : Int) - 1))).f0) > 9223372036854775808 then (tachographlaw14_BlockShifts.j0 k l0 l1 a2 true) else (tachographlaw14_BlockShifts.j0 k l0 l1 a2 (decide (a2 > 4611686018427387904)))) else (none)) else (none))) = some r := by rw [if_neg (show ¬ (false = true) by decide)] at H; exact H
        clear H
        have H := H1
        clear H1
        by_cases c12 : (l1.length : Int) = 0
        · rw [if_pos c12] at H
          have c12b0 : ((l1.length : Int) == 0) = true := beq_iff_eq.mpr c12
          have c12b1 : ((l1.length : Int) != 0) = false := bne_eq_false_iff_eq.mpr c12
          clear c12
          (first | rw [c12b0] | (simp only [i64_w, i32_w]; rw [c12b0]) | skip)
          have H' := Aside0.mk H
          clear H
          go_wp2_with (first | ((with_reducible refine gate_callee (f := 29) rfl ?_); refine goesL_ (some 15) rfl rfl Try.func29 (by kernel_rfl) rfl #[.slice A0 l0.length c0] rfl (by (try simp only [List.map_toArray, List.map_cons, List.map_nil]); first | done | rfl | (simp only [List.length_drop, List.length_take]; rfl) | (refine congrArg (fun z_ => #[z_]) (congrArg (Value.int IntKind.u64) (Eq.symm (Go.Proofs.YtjfklfmfeghjnabAid.wrap_len _ (by omega)))))) ?_; (with_reducible refine (tachographlaw09_Great.calls k _ _ l0 false _ ?side1 ?side2 A5.out).mono ?_); (case side1 => repeat (first | exact (Kd.C_below HR0.out HB.out) | (with_reducible refine Kd.C_alloc ?_ _) | (with_reducible refine Kd.C_drewN ?_ _) | (with_reducible refine Kd.C_drew ?_))); (case side2 => exact HC0.out); rintro e w13 ⟨rfl, hb⟩; refine ⟨_, rfl, ?_⟩; have n0_ := Aside0.mk (Kd.V_below (by (with_reducible repeat (first | apply Kd.V_alloc | apply Kd.V_drewN | apply Kd.V_drew)); exact HO1.out) hb); have n1_ := Aside0.mk (below_step (by repeat (first | (with_reducible first | exact HB.out | apply below_alloc | apply pw_below_drewN | apply below_drew1) | exact HB.out)) hb); clear HO1; clear HB; have HO1 := n0_; have HB := n1_; clear n0_ n1_; (try clear hb); (try clear hb2); (try clear hk); (try clear hi)) | (go_at_call 24; (with_reducible refine (tachographlaw12_Great.calls k _ _ l1 2000 false _ ?side1 ?side2 A8.out).mono ?_); (case side1 => repeat (first | exact (Kd.V_reads' HO1.out).2.2 | (with_reducible refine Kd.C_alloc ?_ _) | (with_reducible refine Kd.C_drewN ?_ _) | (with_reducible refine Kd.C_drew ?_))); (case side2 => exact (Kd.V_reads' HO1.out).2.1); rintro e w14 ⟨rfl, hb⟩; have n0_ := Aside0.mk (Kd.V_below (by (with_reducible repeat (first | apply Kd.V_alloc | apply Kd.V_drewN | apply Kd.V_drew)); exact HO1.out) hb); have n1_ := Aside0.mk (below_step (by repeat (first | (with_reducible first | exact HB.out | apply below_alloc | apply pw_below_drewN | apply below_drew1) | exact HB.out)) hb); clear HO1; clear HB; have HO1 := n0_; have HB := n1_; clear n0_ n1_; (try clear hb); (try clear hb2); (try clear hk); (try clear hi)))
          go_meet
          case rel => exact ⟨_, (true), (by first | rfl | (simp; done) | (simp [*]; done)), H', ⟨by first | omega | exact Nat.le_refl _⟩, ⟨by (with_reducible repeat (first | apply Kd.V_alloc | apply Kd.V_drewN | apply Kd.V_drew)); exact HO1.out⟩, ⟨by repeat (first | (with_reducible first | exact HB.out | apply below_alloc | apply pw_below_drewN | apply below_drew1) | exact HB.out)⟩⟩
        · rw [if_neg c12] at H
          have c12b0 : ((l1.length : Int) == 0) = false := beq_eq_false_iff_ne.mpr c12
          have c12b1 : ((l1.length : Int) != 0) = true := bne_iff_ne.mpr c12
          have c12b2 : ¬ (l1 = []) := fun h_ => c12 (by rw [h_]; rfl)
          (first | rw [c12b0] | (simp only [i64_w, i32_w]; rw [c12b0]) | skip)
          obtain ⟨ji15, hji15⟩ : ∃ j_ : Int, (wrap64 ((l1.length : Int) - 1)) = j_ := ⟨_, rfl⟩
          replace H : (if 0 ≤ (ji15) then (if (ji15) < (l1.length : Int) then (if ((rd_T44 l1 (ji15)).f0) > 9223372036854775808 then (tachographlaw14_BlockShifts.j0 k l0 l1 a2 true) else (tachographlaw14_BlockShifts.j0 k l0 l1 a2 (decide (a2 > 4611686018427387904)))) else (none)) else (none)) = some r := by first | (rw [hji15] at H; exact H) | (simp only [hji15] at H ⊢; exact H)
          (try rw [hji15] at A5)
          (try rw [hji15] at A8)
          have hji15w : (IntKind.i64.wrap ((l1.length : Int) - 1)) = ji15 := (i64_w _).trans hji15
          by_cases c16 : 0 ≤ (ji15)
          · rw [if_pos c16] at H
            have c16b0 : decide (0 ≤ (ji15)) = true := decide_eq_true c16
            clear c16
            by_cases c17 : (ji15) < (l1.length : Int)
            · rw [if_pos c17] at H
              have c17b0 : decide ((ji15) < (l1.length : Int)) = true := decide_eq_true c17
              clear c17
              by_cases c18 : ((rd_T44 l1 (ji15)).f0) > 9223372036854775808
              · rw [if_pos c18] at H
                have c18b0 : decide (9223372036854775808 < ((rd_T44 l1 (ji15)).f0)) = true := decide_eq_true c18
                clear c18
                have H' := Aside0.mk H
                clear H
                go_wp2_with (first | ((with_reducible refine gate_callee (f := 29) rfl ?_); refine goesL_ (some 15) rfl rfl Try.func29 (by kernel_rfl) rfl #[.slice A0 l0.length c0] rfl (by (try simp only [List.map_toArray, List.map_cons, List.map_nil]); first | done | rfl | (simp only [List.length_drop, List.length_take]; rfl) | (refine congrArg (fun z_ => #[z_]) (congrArg (Value.int IntKind.u64) (Eq.symm (Go.Proofs.YtjfklfmfeghjnabAid.wrap_len _ (by omega)))))) ?_; (with_reducible refine (tachographlaw09_Great.calls k _ _ l0 false _ ?side1 ?side2 A5.out).mono ?_); (case side1 => repeat (first | exact (Kd.C_below HR0.out HB.out) | (with_reducible refine Kd.C_alloc ?_ _) | (with_reducible refine Kd.C_drewN ?_ _) | (with_reducible refine Kd.C_drew ?_))); (case side2 => exact HC0.out); rintro e w19 ⟨rfl, hb⟩; refine ⟨_, rfl, ?_⟩; have n0_ := Aside0.mk (Kd.V_below (by (with_reducible repeat (first | apply Kd.V_alloc | apply Kd.V_drewN | apply Kd.V_drew)); exact HO1.out) hb); have n1_ := Aside0.mk (below_step (by repeat (first | (with_reducible first | exact HB.out | apply below_alloc | apply pw_below_drewN | apply below_drew1) | exact HB.out)) hb); clear HO1; clear HB; have HO1 := n0_; have HB := n1_; clear n0_ n1_; (try clear hb); (try clear hb2); (try clear hk); (try clear hi)) | (go_at_call 24; (with_reducible refine (tachographlaw12_Great.calls k _ _ l1 2000 false _ ?side1 ?side2 A8.out).mono ?_); (case side1 => repeat (first | exact (Kd.V_reads' HO1.out).2.2 | (with_reducible refine Kd.C_alloc ?_ _) | (with_reducible refine Kd.C_drewN ?_ _) | (with_reducible refine Kd.C_drew ?_))); (case side2 => exact (Kd.V_reads' HO1.out).2.1); rintro e w20 ⟨rfl, hb⟩; have n0_ := Aside0.mk (Kd.V_below (by (with_reducible repeat (first | apply Kd.V_alloc | apply Kd.V_drewN | apply Kd.V_drew)); exact HO1.out) hb); have n1_ := Aside0.mk (below_step (by repeat (first | (with_reducible first | exact HB.out | apply below_alloc | apply pw_below_drewN | apply below_drew1) | exact HB.out)) hb); clear HO1; clear HB; have HO1 := n0_; have HB := n1_; clear n0_ n1_; (try clear hb); (try clear hb2); (try clear hk); (try clear hi); have p205 : 0 ≤ ((ji15) : Int) := of_decide_eq_true (by first | (with_reducible assumption) | assumption); have q205 : (ji15) < (l1.length : Int) := of_decide_eq_true (by first | (with_reducible assumption) | assumption); obtain ⟨ad205, A205_1, c205_1, e205, hx205_0, hx205_1, hl205_1, hi205_1⟩ := at_T44 (Kd.V_reads' HO1.out).2.2 (ji15) p205 q205; cases e205; obtain ⟨ce205, hce205, hMe205, hcc205⟩ := Kd.V_get HO1.out z44 (ji15) p205 (by first | exact q205 | exact of_decide_eq_true (by first | (with_reducible assumption) | assumption) | (have e_ := (Kd.V_reads' HO1.out).1; omega)); obtain ⟨ua205_1, uc205_1, rfl, ul205_1, ge205_1⟩ := k44_openF hMe205; have hv205_1 := hcc205 1 _ rfl; rw [add_field _ _ 1 (by omega)] at hv205_1; replace hv205_1 := Option.some.inj (hv205_1.symm.trans hx205_1); injection hv205_1 with hva_ hvn_ hvc_; rw [hva_] at ge205_1; rw [hvc_] at ul205_1; have HL205_1 := Aside0.mk (show Kd.V k61 61 _ w.heap.size _ _ ((rd_T44 l1 (ji15)).f1) from Kd.V_mk ul205_1 ge205_1); clear hva_ hvn_ hvc_ ge205_1 ul205_1; clear hcc205 hce205; have HR205_1 := Aside0.mk hi205_1; have HC205_1 := Aside0.mk hl205_1; clear hi205_1 hl205_1; replace p205 := eq_true p205; replace q205 := eq_true q205))
                go_meet
                case rel => exact ⟨_, (true), (by first | rfl | (simp; done) | (simp [*]; done)), H', ⟨by first | omega | exact Nat.le_refl _⟩, ⟨by (with_reducible repeat (first | apply Kd.V_alloc | apply Kd.V_drewN | apply Kd.V_drew)); exact HO1.out⟩, ⟨by repeat (first | (with_reducible first | exact HB.out | apply below_alloc | apply pw_below_drewN | apply below_drew1) | exact HB.out)⟩⟩
              · rw [if_neg c18] at H
                have c18b0 : decide (9223372036854775808 < ((rd_T44 l1 (ji15)).f0)) = false := decide_eq_false c18
                clear c18
                have H' := Aside0.mk H
                clear H
                go_wp2_with (first | ((with_reducible refine gate_callee (f := 29) rfl ?_); refine goesL_ (some 15) rfl rfl Try.func29 (by kernel_rfl) rfl #[.slice A0 l0.length c0] rfl (by (try simp only [List.map_toArray, List.map_cons, List.map_nil]); first | done | rfl | (simp only [List.length_drop, List.length_take]; rfl) | (refine congrArg (fun z_ => #[z_]) (congrArg (Value.int IntKind.u64) (Eq.symm (Go.Proofs.YtjfklfmfeghjnabAid.wrap_len _ (by omega)))))) ?_; (with_reducible refine (tachographlaw09_Great.calls k _ _ l0 false _ ?side1 ?side2 A5.out).mono ?_); (case side1 => repeat (first | exact (Kd.C_below HR0.out HB.out) | (with_reducible refine Kd.C_alloc ?_ _) | (with_reducible refine Kd.C_drewN ?_ _) | (with_reducible refine Kd.C_drew ?_))); (case side2 => exact HC0.out); rintro e w21 ⟨rfl, hb⟩; refine ⟨_, rfl, ?_⟩; have n0_ := Aside0.mk (Kd.V_below (by (with_reducible repeat (first | apply Kd.V_alloc | apply Kd.V_drewN | apply Kd.V_drew)); exact HO1.out) hb); have n1_ := Aside0.mk (below_step (by repeat (first | (with_reducible first | exact HB.out | apply below_alloc | apply pw_below_drewN | apply below_drew1) | exact HB.out)) hb); clear HO1; clear HB; have HO1 := n0_; have HB := n1_; clear n0_ n1_; (try clear hb); (try clear hb2); (try clear hk); (try clear hi)) | (go_at_call 24; (with_reducible refine (tachographlaw12_Great.calls k _ _ l1 2000 false _ ?side1 ?side2 A8.out).mono ?_); (case side1 => repeat (first | exact (Kd.V_reads' HO1.out).2.2 | (with_reducible refine Kd.C_alloc ?_ _) | (with_reducible refine Kd.C_drewN ?_ _) | (with_reducible refine Kd.C_drew ?_))); (case side2 => exact (Kd.V_reads' HO1.out).2.1); rintro e w22 ⟨rfl, hb⟩; have n0_ := Aside0.mk (Kd.V_below (by (with_reducible repeat (first | apply Kd.V_alloc | apply Kd.V_drewN | apply Kd.V_drew)); exact HO1.out) hb); have n1_ := Aside0.mk (below_step (by repeat (first | (with_reducible first | exact HB.out | apply below_alloc | apply pw_below_drewN | apply below_drew1) | exact HB.out)) hb); clear HO1; clear HB; have HO1 := n0_; have HB := n1_; clear n0_ n1_; (try clear hb); (try clear hb2); (try clear hk); (try clear hi); have p205 : 0 ≤ ((ji15) : Int) := of_decide_eq_true (by first | (with_reducible assumption) | assumption); have q205 : (ji15) < (l1.length : Int) := of_decide_eq_true (by first | (with_reducible assumption) | assumption); obtain ⟨ad205, A205_1, c205_1, e205, hx205_0, hx205_1, hl205_1, hi205_1⟩ := at_T44 (Kd.V_reads' HO1.out).2.2 (ji15) p205 q205; cases e205; obtain ⟨ce205, hce205, hMe205, hcc205⟩ := Kd.V_get HO1.out z44 (ji15) p205 (by first | exact q205 | exact of_decide_eq_true (by first | (with_reducible assumption) | assumption) | (have e_ := (Kd.V_reads' HO1.out).1; omega)); obtain ⟨ua205_1, uc205_1, rfl, ul205_1, ge205_1⟩ := k44_openF hMe205; have hv205_1 := hcc205 1 _ rfl; rw [add_field _ _ 1 (by omega)] at hv205_1; replace hv205_1 := Option.some.inj (hv205_1.symm.trans hx205_1); injection hv205_1 with hva_ hvn_ hvc_; rw [hva_] at ge205_1; rw [hvc_] at ul205_1; have HL205_1 := Aside0.mk (show Kd.V k61 61 _ w.heap.size _ _ ((rd_T44 l1 (ji15)).f1) from Kd.V_mk ul205_1 ge205_1); clear hva_ hvn_ hvc_ ge205_1 ul205_1; clear hcc205 hce205; have HR205_1 := Aside0.mk hi205_1; have HC205_1 := Aside0.mk hl205_1; clear hi205_1 hl205_1; replace p205 := eq_true p205; replace q205 := eq_true q205))
                go_meet
                case rel => exact ⟨_, (decide (a2 > 4611686018427387904)), (by first | rfl | (simp; done) | (simp [*]; done)), H', ⟨by first | omega | exact Nat.le_refl _⟩, ⟨by (with_reducible repeat (first | apply Kd.V_alloc | apply Kd.V_drewN | apply Kd.V_drew)); exact HO1.out⟩, ⟨by repeat (first | (with_reducible first | exact HB.out | apply below_alloc | apply pw_below_drewN | apply below_drew1) | exact HB.out)⟩⟩
            · rw [if_neg c17] at H
              exact absurd H (by simp)
          · rw [if_neg c16] at H
            exact absurd H (by simp)
  case rest =>
    clear HC4
    try clear c1
    try clear c2
    try clear p2
    try clear q2
    try clear hx2
    try clear c6
    try clear p6
    try clear c9
    try clear c10
    try clear c12
    try clear c12b0
    try clear c12b1
    try clear c12b2
    try clear c16
    try clear c16b0
    try clear c17
    try clear c17b0
    try clear c18
    try clear c18b0
    try clear c20
    try clear p20
    try clear q20
    try clear hx20
    try clear hx205_0
    try clear hx205_1
    try clear p205
    try clear q205
    obtain ⟨kq, x38_3, rfl, HA, HJ3, HO_1, HB⟩ := hcut
    cases kq with
    | zero => exact absurd HA.out (by simp [tachographlaw14_BlockShifts.j0])
    | succ kj3 =>
      have H := HA.out
      clear HA
      simp only [tachographlaw14_BlockShifts.j0] at H
      by_cases c23 : x38_3 = true
      · subst c23
        have H1 : ((tachographlaw14_fixed.f kj3).bind fun t206 => (some t206)) = some r := by rw [if_pos rfl] at H; exact H
        clear H
        have H := H1
        clear H1
        replace H := Option.bind_eq_some_iff.mp H
        obtain ⟨t206, A240, H⟩ := H
        replace H : (some t206) = some r := H
        have A24 := Aside0.mk A240
        clear A240
        obtain rfl := Option.some.inj H
        go_wp2_with (first | ((with_reducible refine gate_callee (f := 45) rfl ?_); refine goesL_ (some 39) rfl rfl Try.func45 (by kernel_rfl) rfl #[] rfl (by (try simp only [List.map_toArray, List.map_cons, List.map_nil]); first | done | rfl | (simp only [List.length_drop, List.length_take]; rfl) | (refine congrArg (fun z_ => #[z_]) (congrArg (Value.int IntKind.u64) (Eq.symm (Go.Proofs.YtjfklfmfeghjnabAid.wrap_len _ (by omega)))))) ?_; (with_reducible refine (tachographlaw14_fixed.calls kj3  t206 _ A24.out).mono ?_); rintro e w25 ⟨rfl, hb⟩; refine ⟨_, rfl, ?_⟩; have n0_ := Aside0.mk (Kd.V_below (by (with_reducible repeat (first | apply Kd.V_alloc | apply Kd.V_drewN | apply Kd.V_drew)); exact HO_1.out) hb); have n1_ := Aside0.mk (below_step (by repeat (first | (with_reducible first | exact HB.out | apply below_alloc | apply pw_below_drewN | apply below_drew1) | exact HB.out)) hb); clear HO_1; clear HB; have HO_1 := n0_; have HB := n1_; clear n0_ n1_; (try clear hb); (try clear hb2); (try clear hk); (try clear hi)))
        go_ret
        exact ⟨by first | rfl | (simp [errW_none, errW_some] <;> rfl) | (simp [*, errW_none, errW_some] <;> rfl), by repeat (first | (with_reducible first | exact HB.out | apply below_alloc | apply pw_below_drewN | apply below_drew1) | exact HB.out)⟩
      · replace c23 := Bool.eq_false_iff.mpr c23
        subst c23
        have H1 : (tachographlaw14_BlockShifts.l0 kj3 l0 l1 a2 ([] : List (S44)) l1 (l1.length : Int) 0) = some r := by rw [if_neg (show ¬ (false = true) by decide)] at H; exact H
        clear H
        have H := H1
        clear H1
        have H' := Aside0.mk H
        clear H
        go_wp2
        go_loopg [7, 42] kj3 (fun kq v7 v42 w' => ∃ (x7_2 : List (S44)) (x42_2 : Int), v42 = .int .i64 x42_2 ∧ Aside0 (tachographlaw14_BlockShifts.l0 kq l0 l1 a2 x7_2 l1 (l1.length : Int) x42_2 = some r) ∧ Aside0 (kq ≤ kj3) ∧ Aside0 (Kd.V k44 44 w' w.heap.size (fun k_ => (P1_ k_ ∨ w.heap.size ≤ k_) ∧ some k_ ≠ (v7 : Value).ownBlock) (.slice A1 l1.length c1) l1) ∧ Aside0 (Kd.N k44 44 w' w.heap.size (fun k_ => (P1_ k_ ∨ w.heap.size ≤ k_)) v7 x7_2) ∧ Aside0 (Kd.V k44 44 w' w.heap.size (fun k_ => (P1_ k_ ∨ w.heap.size ≤ k_) ∧ some k_ ≠ (v7 : Value).ownBlock) (.slice A1 l1.length c1) l1) ∧ Aside0 (Below w.heap.size w w'))
        case atStart => exact ⟨(([] : List (S44))), (0), (by first | rfl | (simp; done) | (simp [*]; done)), H', ⟨Nat.le_refl _⟩, ⟨by (with_reducible repeat (first | apply Kd.V_alloc | apply Kd.V_drewN | apply Kd.V_drew)); exact Kd.V_mono HO_1.out (fun _ hk => ⟨hk, (by simp [Value.ownBlock])⟩)⟩, ⟨by first | exact Kd.R_nil _ _ _ _ _ | exact Kd.N_nil _ _ _ _ _ | exact Kd.V_nil _ _ _ _ _ | exact Kd.Q_nil _ _ _ _ _ | exact Kd.S_nil _ _ _ _ _⟩, ⟨by (with_reducible repeat (first | apply Kd.V_alloc | apply Kd.V_drewN | apply Kd.V_drew)); exact Kd.V_mono HO_1.out (fun _ hk => ⟨hk, (by simp [Value.ownBlock])⟩)⟩, ⟨by repeat (first | (with_reducible first | exact HB.out | apply below_alloc | apply pw_below_drewN | apply below_drew1) | exact HB.out)⟩⟩
        case round =>
          clear H'
          try clear c1
          try clear c2
          try clear p2
          try clear q2
          try clear hx2
          try clear c4
          try clear c6
          try clear p6
          try clear c9
          try clear c10
          try clear c12
          try clear c12b0
          try clear c12b1
          try clear c12b2
          try clear c16
          try clear c16b0
          try clear c17
          try clear c17b0
          try clear c18
          try clear c18b0
          try clear c20
          try clear p20
          try clear q20
          try clear hx20
          try clear c23
          try clear hx205_0
          try clear hx205_1
          try clear p2
          try clear p20
          try clear p205
          try clear p6
          try clear q2
          try clear q20
          try clear q205
          obtain ⟨x7_2, x42_2, rfl, HA, HK2, HO_1, HO_7, HO_40, HB⟩ := hrel
          cases gk with
          | zero => exact absurd HA.out (by simp [tachographlaw14_BlockShifts.l0])
          | succ k2 =>
            have H := HA.out
            clear HA
            simp only [tachographlaw14_BlockShifts.l0] at H
            by_cases c26 : x42_2 < (l1.length : Int)
            · rw [if_pos c26] at H
              have c26b0 : decide (x42_2 < (l1.length : Int)) = true := decide_eq_true c26
              clear c26
              by_cases c27 : 0 ≤ x42_2
              · rw [if_pos c27] at H
                have c27b0 : decide (0 ≤ x42_2) = true := decide_eq_true c27
                clear c27
                by_cases c28 : x42_2 < (l1.length : Int)
                · rw [if_pos c28] at H
                  have c28b0 : decide (x42_2 < (l1.length : Int)) = true := decide_eq_true c28
                  clear c28
                  by_cases c29 : x7_2.length < 4398046511104
                  · rw [if_pos c29] at H
                    have LMc29 := Aside0.mk c29
                    clear c29
                    obtain ⟨y209, hy209⟩ : ∃ y_ : List (S44), y_ = (x7_2 ++ [(⟨IntKind.u64.wrap (((rd_T44 l1 x42_2).f0) + a2), (rd_T44 l1 x42_2).f1⟩ : S44)]) := ⟨_, rfl⟩
                    replace H : (tachographlaw14_BlockShifts.l0 k2 l0 l1 a2 y209 l1 (l1.length : Int) (wrap64 (x42_2 + 1))) = some r := by first | (rw [hy209]; with_reducible exact H) | (have H2_ := (Option.bind_some _ _).symm.trans H; rw [hy209]; with_reducible exact H2_) | (have H2_ := (Option.bind_some _ _).symm.trans H; with_reducible exact H2_) | with_reducible exact H | (rw [hy209]; exact H) | exact H
                    have Ny209 := Aside0.mk hy209
                    clear hy209
                    have H' := Aside0.mk H
                    clear H
                    have p207 : 0 ≤ (x42_2 : Int) := of_decide_eq_true (by first | (with_reducible assumption) | assumption)
                    have q207 : x42_2 < (l1.length : Int) := of_decide_eq_true (by first | (with_reducible assumption) | assumption)
                    obtain ⟨ad207, A207_1, c207_1, e207, hx207_0, hx207_1, hl207_1, hi207_1⟩ := at_T44 (Kd.V_reads' HO_40.out).2.2 x42_2 p207 q207
                    cases e207
                    obtain ⟨ce207, hce207, hMe207, hcc207⟩ := Kd.V_get HO_40.out z44 x42_2 p207 (by first | exact q207 | exact of_decide_eq_true (by first | (with_reducible assumption) | assumption) | (have e_ := (Kd.V_reads' HO_40.out).1; omega))
                    obtain ⟨ua207_1, uc207_1, rfl, ul207_1, ge207_1⟩ := k44_openF hMe207
                    have hv207_1 := hcc207 1 _ rfl
                    rw [add_field _ _ 1 (by omega)] at hv207_1
                    replace hv207_1 := Option.some.inj (hv207_1.symm.trans hx207_1)
                    injection hv207_1 with hva_ hvn_ hvc_
                    rw [hva_] at ge207_1
                    rw [hvc_] at ul207_1
                    have HL207_1 := Aside0.mk (show Kd.V k61 61 _ w.heap.size _ _ ((rd_T44 l1 x42_2).f1) from Kd.V_mk ul207_1 ge207_1)
                    clear hva_ hvn_ hvc_ ge207_1 ul207_1
                    clear hcc207 hce207
                    have HR207_1 := Aside0.mk hi207_1
                    have HC207_1 := Aside0.mk hl207_1
                    clear hi207_1 hl207_1
                    replace p207 := eq_true p207
                    replace q207 := eq_true q207
                    go_wp2_with (first | ((with_reducible refine gate_dst (N := 9) rfl ?_); (try (refine gate_guard (by rfl) ?_; dsimp only)); refine box_event ?hg (N := 9) ?hd (cs := #[.int .u64 0, .slice none 0 0]) (t := 44) ?hr ?_; (case hd => rfl); (case hg => rfl); (case hr => first | (go_simp; done) | (go_simp; rfl)); intro gb208 hg w30 hbox hb; have n0_ := Aside0.mk (Kd.V_below (Kd.V_elderB (by (with_reducible repeat (first | apply Kd.V_alloc | apply Kd.V_drewN | apply Kd.V_drew)); exact HO_1.out) gb208 (Nat.le_of_eq hg.symm)) hb); have n1_ := Aside0.mk (Kd.N_below (Kd.N_elderB (by (with_reducible repeat (first | apply Kd.N_alloc | apply Kd.N_drewN | apply Kd.N_drew)); exact HO_7.out) gb208 (Nat.le_of_eq hg.symm)) hb); have n2_ := Aside0.mk (Kd.V_below (Kd.V_elderB (by (with_reducible repeat (first | apply Kd.V_alloc | apply Kd.V_drewN | apply Kd.V_drew)); exact HO_40.out) gb208 (Nat.le_of_eq hg.symm)) hb); have n3_ := Aside0.mk (Kd.V_below (Kd.V_elderB (by (with_reducible repeat (first | apply Kd.V_alloc | apply Kd.V_drewN | apply Kd.V_drew)); exact HL207_1.out) gb208 (Nat.le_of_eq hg.symm)) hb); have n4_ := Aside0.mk (Kd.C_below (by repeat (first | (with_reducible exact HR207_1.out) | (with_reducible refine Kd.C_alloc ?_ _) | (with_reducible refine Kd.C_drewN ?_ _) | (with_reducible refine Kd.C_drew ?_) | exact HR207_1.out)) hb); have n5_ := Aside0.mk (below_step (by repeat (first | (with_reducible first | exact HB.out | apply below_alloc | apply pw_below_drewN | apply below_drew1) | exact HB.out)) hb); have n6_ := Aside0.mk (hbox); have n7_ := Aside0.mk ((by rw [hg]; exact (below_size (by repeat (first | (with_reducible first | exact HB.out | apply below_alloc | apply pw_below_drewN | apply below_drew1) | exact HB.out))) : w.heap.size ≤ gb208)); have n8_ := Aside0.mk ((by rw [hg]; exact (below_size (by repeat (first | (with_reducible first | exact HB.out | apply below_alloc | apply pw_below_drewN | apply below_drew1) | exact HB.out))) : w.heap.size ≤ gb208)); clear HO_1; clear HO_7; clear HO_40; clear HL207_1; clear HR207_1; clear HB; have HO_1 := n0_; have HO_7 := n1_; have HO_40 := n2_; have HL207_1 := n3_; have HR207_1 := n4_; have HB := n5_; have BK208 := n6_; have GW208 := n7_; have GE208 := n8_; clear n0_ n1_ n2_ n3_ n4_ n5_ n6_ n7_ n8_; clear hb hbox hg; have hcz31_0 : w30.cell? ⟨gb208, 0, none⟩ = some (.int .u64 0) := (blk_cell BK208.out 0).trans rfl; have hcz31_1 : w30.cell? ⟨gb208, 1, none⟩ = some (.slice none 0 0) := (blk_cell BK208.out 1).trans rfl; have hfz31_0 := blk_frozen BK208.out 0; have hfz31_1 := blk_frozen BK208.out 1) | ((with_reducible refine gate_store (t := 44) (p := 9) rfl ?_); refine store_event (t := 44) (p := 9) (v := ?vo_w32) (w1 := ((w30.setCell ⟨gb208, 0, none⟩ (.int .u64 ((rd_T44 l1 x42_2).f0))).setCell ⟨gb208, 1, none⟩ (.slice A207_1 ((rd_T44 l1 x42_2).f1).length c207_1))) ?hg ?ho ?hn ?hr ?_; (case ho => rfl); (case hg => rfl); (case hn => rfl); (case hr => first | (go_simp; done) | (go_simp; rfl)); intro w32 hw; have n0_ : Aside0 (Kd.V k44 44 w32 w.heap.size (fun k_ => (P1_ k_ ∨ w.heap.size ≤ k_) ∧ some k_ ≠ (u7 : Value).ownBlock ∧ k_ ≠ gb208) (.slice (some ad207) l1.length c1) l1) := ⟨(by rw [hw]; exact (by (with_reducible repeat (first | apply Kd.V_alloc | apply Kd.V_drewN | apply Kd.V_drew)); exact Kd.V_mono (Kd.V_far (p := ⟨gb208, 1, none⟩) (Kd.V_far (p := ⟨gb208, 0, none⟩) (Kd.V_mono HO_1.out (fun k_ hk => (⟨hk, hk.2⟩ : _ ∧ k_ ≠ gb208))) (fun _ hk => hk.2) (.int .u64 ((rd_T44 l1 x42_2).f0))) (fun _ hk => hk.2) (.slice A207_1 ((rd_T44 l1 x42_2).f1).length c207_1)) (fun _ hk => ⟨hk.1.1.1, ⟨hk.1.1.2, hk.1.2⟩⟩)))⟩; have n1_ : Aside0 (Kd.N k44 44 w32 w.heap.size (fun k_ => (P1_ k_ ∨ w.heap.size ≤ k_) ∧ k_ ≠ gb208) u7 x7_2) := ⟨(by rw [hw]; exact (by (with_reducible repeat (first | apply Kd.N_alloc | apply Kd.N_drewN | apply Kd.N_drew)); exact Kd.N_mono (Kd.N_far (p := ⟨gb208, 1, none⟩) (Kd.N_far (p := ⟨gb208, 0, none⟩) (Kd.N_mono HO_7.out (fun k_ hk => (⟨hk, hk.2⟩ : _ ∧ k_ ≠ gb208))) (fun _ hk => hk.2) (.int .u64 ((rd_T44 l1 x42_2).f0))) (fun _ hk => hk.2) (.slice A207_1 ((rd_T44 l1 x42_2).f1).length c207_1)) (fun _ hk => ⟨hk.1.1, hk.1.2⟩)))⟩; have n2_ : Aside0 (Kd.V k44 44 w32 w.heap.size (fun k_ => (P1_ k_ ∨ w.heap.size ≤ k_) ∧ some k_ ≠ (u7 : Value).ownBlock ∧ k_ ≠ gb208) (.slice (some ad207) l1.length c1) l1) := ⟨(by rw [hw]; exact (by (with_reducible repeat (first | apply Kd.V_alloc | apply Kd.V_drewN | apply Kd.V_drew)); exact Kd.V_mono (Kd.V_far (p := ⟨gb208, 1, none⟩) (Kd.V_far (p := ⟨gb208, 0, none⟩) (Kd.V_mono HO_40.out (fun k_ hk => (⟨hk, hk.2⟩ : _ ∧ k_ ≠ gb208))) (fun _ hk => hk.2) (.int .u64 ((rd_T44 l1 x42_2).f0))) (fun _ hk => hk.2) (.slice A207_1 ((rd_T44 l1 x42_2).f1).length c207_1)) (fun _ hk => ⟨hk.1.1.1, ⟨hk.1.1.2, hk.1.2⟩⟩)))⟩; have n3_ : Aside0 (Kd.V k61 61 w32 w.heap.size (fun k_ => (P1_ k_ ∨ w.heap.size ≤ k_) ∧ some k_ ≠ (u7 : Value).ownBlock ∧ k_ ≠ gb208) (.slice A207_1 ((rd_T44 l1 x42_2).f1).length c207_1) ((rd_T44 l1 x42_2).f1)) := ⟨(by rw [hw]; exact (by (with_reducible repeat (first | apply Kd.V_alloc | apply Kd.V_drewN | apply Kd.V_drew)); exact Kd.V_mono (Kd.V_far (p := ⟨gb208, 1, none⟩) (Kd.V_far (p := ⟨gb208, 0, none⟩) (Kd.V_mono HL207_1.out (fun k_ hk => (⟨hk, hk.2⟩ : _ ∧ k_ ≠ gb208))) (fun _ hk => hk.2) (.int .u64 ((rd_T44 l1 x42_2).f0))) (fun _ hk => hk.2) (.slice A207_1 ((rd_T44 l1 x42_2).f1).length c207_1)) (fun _ hk => ⟨hk.1.1.1, ⟨hk.1.1.2, hk.1.2⟩⟩)))⟩; have n4_ : Aside0 (w32.heap[gb208]? = some (.cells #[.int .u64 ((rd_T44 l1 x42_2).f0), .slice A207_1 ((rd_T44 l1 x42_2).f1).length c207_1] 44 (0, 0))) := ⟨(by rw [hw]; exact (by (with_reducible repeat (first | refine blk_drewN ?_ _ | refine blk_drew ?_ | refine blk_alloc ?_ _)); refine blk_put (cs := #[.int .u64 ((rd_T44 l1 x42_2).f0), .slice none 0 0]) ?_ 1 _ rfl; (with_reducible repeat (first | refine blk_drewN ?_ _ | refine blk_drew ?_ | refine blk_alloc ?_ _)); refine blk_put (cs := #[.int .u64 0, .slice none 0 0]) ?_ 0 _ rfl; (with_reducible repeat (first | refine blk_drewN ?_ _ | refine blk_drew ?_ | refine blk_alloc ?_ _)); exact BK208.out))⟩; have n5_ : Aside0 (Below w.heap.size w w32) := ⟨(by rw [hw]; exact (by repeat (first | (with_reducible first | exact HB.out | apply below_alloc | apply pw_below_drewN | apply below_drew1 | refine below_set ?_ GE208.out) | exact HB.out)))⟩; clear hw; clear HO_1; clear HO_7; clear HO_40; clear HL207_1; clear BK208; clear HB; have HO_1 := n0_; have HO_7 := n1_; have HO_40 := n2_; have HL207_1 := n3_; have BK208 := n4_; have HB := n5_; clear n0_ n1_ n2_ n3_ n4_ n5_; have hcz33_0 : w32.cell? ⟨gb208, 0, none⟩ = some (.int .u64 ((rd_T44 l1 x42_2).f0)) := (blk_cell BK208.out 0).trans rfl; have hcz33_1 : w32.cell? ⟨gb208, 1, none⟩ = some (.slice A207_1 ((rd_T44 l1 x42_2).f1).length c207_1) := (blk_cell BK208.out 1).trans rfl; have hfz33_0 := blk_frozen BK208.out 0; have hfz33_1 := blk_frozen BK208.out 1) | ((with_reducible refine gate_store (t := 41) (p := 50) rfl ?_); refine store_event (t := 41) (p := 50) (v := ?vo_w34) (w1 := (w32.setCell ⟨gb208, 0, none⟩ (.int .u64 (IntKind.u64.wrap (((rd_T44 l1 x42_2).f0) + a2))))) ?hg ?ho ?hn ?hr ?_; (case ho => rfl); (case hg => rfl); (case hn => rfl); (case hr => first | (go_simp; done) | (go_simp; rfl)); intro w34 hw; have n0_ : Aside0 (Kd.V k44 44 w34 w.heap.size (fun k_ => (P1_ k_ ∨ w.heap.size ≤ k_) ∧ some k_ ≠ (u7 : Value).ownBlock ∧ k_ ≠ gb208) (.slice (some ad207) l1.length c1) l1) := ⟨(by rw [hw]; exact (by (with_reducible repeat (first | apply Kd.V_alloc | apply Kd.V_drewN | apply Kd.V_drew)); exact Kd.V_mono (Kd.V_far (p := ⟨gb208, 0, none⟩) (Kd.V_mono HO_1.out (fun k_ hk => (⟨hk, hk.2.2⟩ : _ ∧ k_ ≠ gb208))) (fun _ hk => hk.2) (.int .u64 (IntKind.u64.wrap (((rd_T44 l1 x42_2).f0) + a2)))) (fun _ hk => ⟨hk.1.1, ⟨hk.1.2.1, hk.1.2.2⟩⟩)))⟩; have n1_ : Aside0 (Kd.N k44 44 w34 w.heap.size (fun k_ => (P1_ k_ ∨ w.heap.size ≤ k_) ∧ k_ ≠ gb208) u7 x7_2) := ⟨(by rw [hw]; exact (by (with_reducible repeat (first | apply Kd.N_alloc | apply Kd.N_drewN | apply Kd.N_drew)); exact Kd.N_mono (Kd.N_far (p := ⟨gb208, 0, none⟩) (Kd.N_mono HO_7.out (fun k_ hk => (⟨hk, hk.2⟩ : _ ∧ k_ ≠ gb208))) (fun _ hk => hk.2) (.int .u64 (IntKind.u64.wrap (((rd_T44 l1 x42_2).f0) + a2)))) (fun _ hk => ⟨hk.1.1, hk.1.2⟩)))⟩; have n2_ : Aside0 (Kd.V k44 44 w34 w.heap.size (fun k_ => (P1_ k_ ∨ w.heap.size ≤ k_) ∧ some k_ ≠ (u7 : Value).ownBlock ∧ k_ ≠ gb208) (.slice (some ad207) l1.length c1) l1) := ⟨(by rw [hw]; exact (by (with_reducible repeat (first | apply Kd.V_alloc | apply Kd.V_drewN | apply Kd.V_drew)); exact Kd.V_mono (Kd.V_far (p := ⟨gb208, 0, none⟩) (Kd.V_mono HO_40.out (fun k_ hk => (⟨hk, hk.2.2⟩ : _ ∧ k_ ≠ gb208))) (fun _ hk => hk.2) (.int .u64 (IntKind.u64.wrap (((rd_T44 l1 x42_2).f0) + a2)))) (fun _ hk => ⟨hk.1.1, ⟨hk.1.2.1, hk.1.2.2⟩⟩)))⟩; have n3_ : Aside0 (Kd.V k61 61 w34 w.heap.size (fun k_ => (P1_ k_ ∨ w.heap.size ≤ k_) ∧ some k_ ≠ (u7 : Value).ownBlock ∧ k_ ≠ gb208) (.slice A207_1 ((rd_T44 l1 x42_2).f1).length c207_1) ((rd_T44 l1 x42_2).f1)) := ⟨(by rw [hw]; exact (by (with_reducible repeat (first | apply Kd.V_alloc | apply Kd.V_drewN | apply Kd.V_drew)); exact Kd.V_mono (Kd.V_far (p := ⟨gb208, 0, none⟩) (Kd.V_mono HL207_1.out (fun k_ hk => (⟨hk, hk.2.2⟩ : _ ∧ k_ ≠ gb208))) (fun _ hk => hk.2) (.int .u64 (IntKind.u64.wrap (((rd_T44 l1 x42_2).f0) + a2)))) (fun _ hk => ⟨hk.1.1, ⟨hk.1.2.1, hk.1.2.2⟩⟩)))⟩; have n4_ : Aside0 (w34.heap[gb208]? = some (.cells #[.int .u64 (IntKind.u64.wrap (((rd_T44 l1 x42_2).f0) + a2)), .slice A207_1 ((rd_T44 l1 x42_2).f1).length c207_1] 44 (0, 0))) := ⟨(by rw [hw]; exact (by (with_reducible repeat (first | refine blk_drewN ?_ _ | refine blk_drew ?_ | refine blk_alloc ?_ _)); refine blk_put (cs := #[.int .u64 ((rd_T44 l1 x42_2).f0), .slice A207_1 ((rd_T44 l1 x42_2).f1).length c207_1]) ?_ 0 _ rfl; (with_reducible repeat (first | refine blk_drewN ?_ _ | refine blk_drew ?_ | refine blk_alloc ?_ _)); exact BK208.out))⟩; have n5_ : Aside0 (Below w.heap.size w w34) := ⟨(by rw [hw]; exact (by repeat (first | (with_reducible first | exact HB.out | apply below_alloc | apply pw_below_drewN | apply below_drew1 | refine below_set ?_ GE208.out) | exact HB.out)))⟩; clear hw; clear HO_1; clear HO_7; clear HO_40; clear HL207_1; clear BK208; clear HB; have HO_1 := n0_; have HO_7 := n1_; have HO_40 := n2_; have HL207_1 := n3_; have BK208 := n4_; have HB := n5_; clear n0_ n1_ n2_ n3_ n4_ n5_; have hcz35_0 : w34.cell? ⟨gb208, 0, none⟩ = some (.int .u64 (IntKind.u64.wrap (((rd_T44 l1 x42_2).f0) + a2))) := (blk_cell BK208.out 0).trans rfl; have hcz35_1 : w34.cell? ⟨gb208, 1, none⟩ = some (.slice A207_1 ((rd_T44 l1 x42_2).f1).length c207_1) := (blk_cell BK208.out 1).trans rfl; have hfz35_0 := blk_frozen BK208.out 0; have hfz35_1 := blk_frozen BK208.out 1) | ((with_reducible refine gate_builtin (b := .append) (xs := #[.tmp 51, .tmp 53]) rfl ?_); (try (refine gate_guard (by rfl) ?_; dsimp only)); at_builtin; refine Kd.N_append k44 (w0 := w) w.heap.size rfl (.tmp 51) (.tmp 53) 37 44 (.agg #[(.int .u64 0), (.slice none 0 0)]) 32 rfl Try.underlying37 info44 rfl (by decide) (by omega) u7 x7_2 (⟨IntKind.u64.wrap (((rd_T44 l1 x42_2).f0) + a2), (rd_T44 l1 x42_2).f1⟩ : S44) [.int .u64 (IntKind.u64.wrap (((rd_T44 l1 x42_2).f0) + a2)), .slice A207_1 ((rd_T44 l1 x42_2).f1).length c207_1] (fun k_ => (P1_ k_ ∨ w.heap.size ≤ k_) ∧ k_ ≠ gb208) (fun k_ => ((fun k_ => (P1_ k_ ∨ w.heap.size ≤ k_) ∧ k_ ≠ gb208)) k_ ∧ some k_ ≠ (u7 : Value).ownBlock) rfl rfl ?aP (fun _ hk => hk) ?aF ?aO ?aB ?aS ?aL ?_; (case aP => exact (k44_mkF _ _ (⟨IntKind.u64.wrap (((rd_T44 l1 x42_2).f0) + a2), (rd_T44 l1 x42_2).f1⟩ : S44) (Kd.V_reads' (Kd.V_mono (ok' := (fun k_ => ((fun k_ => (P1_ k_ ∨ w.heap.size ≤ k_) ∧ k_ ≠ gb208)) k_ ∧ some k_ ≠ (u7 : Value).ownBlock)) (HL207_1.out) (fun k_ hk => ⟨⟨hk.1, hk.2.2⟩, hk.2.1⟩))).2.1 (Kd.V_F (Kd.V_mono (ok' := (fun k_ => ((fun k_ => (P1_ k_ ∨ w.heap.size ≤ k_) ∧ k_ ≠ gb208)) k_ ∧ some k_ ≠ (u7 : Value).ownBlock)) (HL207_1.out) (fun k_ hk => ⟨⟨hk.1, hk.2.2⟩, hk.2.1⟩))))); (case aB => exact (by repeat (first | (with_reducible first | exact HB.out | apply below_alloc | apply pw_below_drewN | apply below_drew1 | refine below_set ?_ GE208.out) | exact HB.out))); (case aF => exact (fun k_ hk => ⟨(.inr (Nat.le_trans (below_size (by repeat (first | (with_reducible first | exact HB.out | apply below_alloc | apply pw_below_drewN | apply below_drew1 | refine below_set ?_ GE208.out) | exact HB.out))) hk)), Kd.freshB (g := gb208) (o := .cells #[.int .u64 (IntKind.u64.wrap (((rd_T44 l1 x42_2).f0) + a2)), .slice A207_1 ((rd_T44 l1 x42_2).f1).length c207_1] 44 (0, 0)) (by (with_reducible repeat (first | refine blk_drewN ?_ _ | refine blk_drew ?_ | refine blk_alloc ?_ _)); exact BK208.out) k_ hk⟩)); (case aO => exact (by (with_reducible repeat (first | apply Kd.N_alloc | apply Kd.N_drewN | apply Kd.N_drew)); exact HO_7.out)); (case aS => exact (below_size (by repeat (first | (with_reducible first | exact HB.out | apply below_alloc | apply pw_below_drewN | apply below_drew1 | refine below_set ?_ GE208.out) | exact HB.out)))); (case aL => have := LMc29.out; omega); intro v210 w36 ho hb hg hat; rw [← Ny209.out] at ho; have n0_ := Aside0.mk (Kd.V_afterv (ok := (fun k_ => (P1_ k_ ∨ w.heap.size ≤ k_) ∧ k_ ≠ gb208)) (by (with_reducible repeat (first | apply Kd.V_alloc | apply Kd.V_drewN | apply Kd.V_drew)); exact Kd.V_mono HO_1.out (fun _ hk => ⟨⟨hk.1, hk.2.2⟩, hk.2.1⟩)) hg hat); have n1_ := Aside0.mk (Kd.V_afterv (ok := (fun k_ => (P1_ k_ ∨ w.heap.size ≤ k_) ∧ k_ ≠ gb208)) (by (with_reducible repeat (first | apply Kd.V_alloc | apply Kd.V_drewN | apply Kd.V_drew)); exact Kd.V_mono HO_40.out (fun _ hk => ⟨⟨hk.1, hk.2.2⟩, hk.2.1⟩)) hg hat); have n2_ := Aside0.mk (Kd.V_afterv (ok := (fun k_ => (P1_ k_ ∨ w.heap.size ≤ k_) ∧ k_ ≠ gb208)) (by (with_reducible repeat (first | apply Kd.V_alloc | apply Kd.V_drewN | apply Kd.V_drew)); exact Kd.V_mono HL207_1.out (fun _ hk => ⟨⟨hk.1, hk.2.2⟩, hk.2.1⟩)) hg hat); have n3_ := Aside0.mk (blk_grown (g := gb208) (o := .cells #[.int .u64 (IntKind.u64.wrap (((rd_T44 l1 x42_2).f0) + a2)), .slice A207_1 ((rd_T44 l1 x42_2).f1).length c207_1] 44 (0, 0)) (by (with_reducible repeat (first | refine blk_drewN ?_ _ | refine blk_drew ?_ | refine blk_alloc ?_ _)); exact BK208.out) hg (Kd.N_away HO_7.out (fun _ hk => hk.2))); have n4_ := Aside0.mk (hb); have n5_ := Aside0.mk (ho); clear HO_1; clear HO_40; clear HL207_1; clear BK208; clear HB; clear HO_7; have HO_1 := n0_; have HO_40 := n1_; have HL207_1 := n2_; have BK208 := n3_; have HB := n4_; have HO211 := n5_; clear n0_ n1_ n2_ n3_ n4_ n5_; clear ho hb hg hat))
                    go_roundg k2
                    case measure => have := HJ3.out; have := HK2.out; omega
                    case rel => exact ⟨(y209), (wrap64 (x42_2 + 1)), (by first | rfl | (simp; done) | (simp [*]; done)), H', ⟨by have := HJ3.out; have := HK2.out; omega⟩, ⟨by (with_reducible repeat (first | apply Kd.V_alloc | apply Kd.V_drewN | apply Kd.V_drew)); exact Kd.V_mono HO_1.out (fun _ hk => ⟨hk.1.1, hk.2⟩)⟩, ⟨by (with_reducible repeat (first | apply Kd.N_alloc | apply Kd.N_drewN | apply Kd.N_drew)); exact Kd.N_mono HO211.out (fun _ hk => hk.1)⟩, ⟨by (with_reducible repeat (first | apply Kd.V_alloc | apply Kd.V_drewN | apply Kd.V_drew)); exact Kd.V_mono HO_40.out (fun _ hk => ⟨hk.1.1, hk.2⟩)⟩, ⟨by repeat (first | (with_reducible first | exact HB.out | apply below_alloc | apply pw_below_drewN | apply below_drew1 | refine below_set ?_ GE208.out) | exact HB.out)⟩⟩
                  · rw [if_neg c29] at H
                    exact absurd H (by simp)
                · rw [if_neg c28] at H
                  exact absurd H (by simp)
              · rw [if_neg c27] at H
                exact absurd H (by simp)
            · rw [if_neg c26] at H
              have c26b0 : decide (x42_2 < (l1.length : Int)) = false := decide_eq_false c26
              clear c26
              replace H := Option.bind_eq_some_iff.mp H
              obtain ⟨⟨t212, t213⟩, A370, H⟩ := H
              replace H : ((block_Put.f k2 l0 x7_2).bind fun bt216 => (if t213 = 0 then (tachographlaw14_BlockShifts.j2 k2 t212 bt216.1 (bt216.2 != 0)) else (tachographlaw14_BlockShifts.j2 k2 t212 bt216.1 true))) = some r := H
              have A37 := Aside0.mk A370
              clear A370
              replace H := Option.bind_eq_some_iff.mp H
              obtain ⟨⟨t216, t217⟩, A380, H⟩ := H
              replace H : (if t213 = 0 then (tachographlaw14_BlockShifts.j2 k2 t212 t216 (t217 != 0)) else (tachographlaw14_BlockShifts.j2 k2 t212 t216 true)) = some r := H
              have A38 := Aside0.mk A380
              clear A380
              have HC39 := Aside0.mk H
              clear H
              go_upto_region 12 with (first | ((with_reducible refine gate_callee (f := 46) rfl ?_); refine goesL_ (some 59) rfl rfl Try.func46 (by kernel_rfl) rfl #[.slice A0 l0.length c0, .slice A1 l1.length c1] rfl (by (try simp only [List.map_toArray, List.map_cons, List.map_nil]); first | done | rfl | (simp only [List.length_drop, List.length_take]; rfl) | (refine congrArg (fun z_ => #[z_]) (congrArg (Value.int IntKind.u64) (Eq.symm (Go.Proofs.YtjfklfmfeghjnabAid.wrap_len _ (by omega)))))) ?_; (with_reducible refine (block_Put.calls k2 _ _ l0 _ _ l1 t212 t213 _ ?side1 ?side2 ?side3 ?side4 A37.out).mono ?_); (case side1 => repeat (first | exact (Kd.C_below HR0.out HB.out) | (with_reducible refine Kd.C_alloc ?_ _) | (with_reducible refine Kd.C_drewN ?_ _) | (with_reducible refine Kd.C_drew ?_))); (case side2 => exact HC0.out); (case side3 => repeat (first | exact (Kd.V_reads' HO_1.out).2.2 | (with_reducible refine Kd.C_alloc ?_ _) | (with_reducible refine Kd.C_drewN ?_ _) | (with_reducible refine Kd.C_drew ?_))); (case side4 => exact (Kd.V_reads' HO_1.out).2.1); rintro e w40 ⟨v214, rfl, ho0, hb⟩; refine ⟨_, rfl, ?_⟩; have n0_ := Aside0.mk (Kd.V_elder' (by (with_reducible repeat (first | apply Kd.V_alloc | apply Kd.V_drewN | apply Kd.V_drew)); exact HO_1.out) (Kd.R_base ho0) hb); have n1_ := Aside0.mk (Kd.N_elder' (by (with_reducible repeat (first | apply Kd.N_alloc | apply Kd.N_drewN | apply Kd.N_drew)); exact HO_7.out) (Kd.R_base ho0) hb); have n2_ := Aside0.mk (Kd.V_elder' (by (with_reducible repeat (first | apply Kd.V_alloc | apply Kd.V_drewN | apply Kd.V_drew)); exact HO_40.out) (Kd.R_base ho0) hb); have n3_ := Aside0.mk (Kd.R_lower (Kd.R_newM (M := fun k_ => (w.heap.size ≤ k_)) ho0 (below_size (by repeat (first | (with_reducible first | exact HB.out | apply below_alloc | apply pw_below_drewN | apply below_drew1) | exact HB.out))) (fun k_ h_ => h_)) (below_size (by repeat (first | (with_reducible first | exact HB.out | apply below_alloc | apply pw_below_drewN | apply below_drew1) | exact HB.out)))); have n4_ := Aside0.mk (below_step (by repeat (first | (with_reducible first | exact HB.out | apply below_alloc | apply pw_below_drewN | apply below_drew1) | exact HB.out)) hb); clear HO_1; clear HO_7; clear HO_40; clear HB; have HO_1 := n0_; have HO_7 := n1_; have HO_40 := n2_; have HO215 := n3_; have HB := n4_; clear n0_ n1_ n2_ n3_ n4_; (try clear hb); (try clear hb2); (try clear hk); (try clear hi); (try clear ho0); obtain ⟨Ao41, co41, eo41⟩ := Kd.N_slice HO_7.out; subst eo41) | ((with_reducible refine gate_callee (f := 46) rfl ?_); refine goesL_ (some 65) rfl rfl Try.func46 (by kernel_rfl) rfl #[.slice A0 l0.length c0, .slice Ao41 x7_2.length co41] rfl (by (try simp only [List.map_toArray, List.map_cons, List.map_nil]); first | done | rfl | (simp only [List.length_drop, List.length_take]; rfl) | (refine congrArg (fun z_ => #[z_]) (congrArg (Value.int IntKind.u64) (Eq.symm (Go.Proofs.YtjfklfmfeghjnabAid.wrap_len _ (by omega)))))) ?_; (with_reducible refine (block_Put.calls k2 _ _ l0 _ _ x7_2 t216 t217 _ ?side1 ?side2 ?side3 ?side4 A38.out).mono ?_); (case side1 => repeat (first | exact (Kd.C_below HR0.out HB.out) | (with_reducible refine Kd.C_alloc ?_ _) | (with_reducible refine Kd.C_drewN ?_ _) | (with_reducible refine Kd.C_drew ?_))); (case side2 => exact HC0.out); (case side3 => repeat (first | exact (Kd.N_reads' HO_7.out).2.2 | (with_reducible refine Kd.C_alloc ?_ _) | (with_reducible refine Kd.C_drewN ?_ _) | (with_reducible refine Kd.C_drew ?_))); (case side4 => exact (Kd.N_reads' HO_7.out).2.1); rintro e w42 ⟨v218, rfl, ho0, hb⟩; refine ⟨_, rfl, ?_⟩; have n0_ := Aside0.mk (Kd.V_elder' (by (with_reducible repeat (first | apply Kd.V_alloc | apply Kd.V_drewN | apply Kd.V_drew)); exact HO_1.out) (Kd.R_base ho0) hb); have n1_ := Aside0.mk (Kd.N_elder' (by (with_reducible repeat (first | apply Kd.N_alloc | apply Kd.N_drewN | apply Kd.N_drew)); exact HO_7.out) (Kd.R_base ho0) hb); have n2_ := Aside0.mk (Kd.V_elder' (by (with_reducible repeat (first | apply Kd.V_alloc | apply Kd.V_drewN | apply Kd.V_drew)); exact HO_40.out) (Kd.R_base ho0) hb); have n3_ := Aside0.mk (Kd.R_elder' (by (with_reducible repeat (first | apply Kd.R_alloc | apply Kd.R_drewN | apply Kd.R_drew)); exact HO215.out) (Kd.R_base ho0) hb); have n4_ := Aside0.mk (Kd.R_lower (Kd.R_new' (Kd.R_newM (M := fun k_ => (w.heap.size ≤ k_)) ho0 (below_size (by repeat (first | (with_reducible first | exact HB.out | apply below_alloc | apply pw_below_drewN | apply below_drew1) | exact HB.out))) (fun k_ h_ => h_)) (Kd.R_lt (by (with_reducible repeat (first | apply Kd.R_alloc | apply Kd.R_drewN | apply Kd.R_drew)); exact HO215.out))) (below_size (by repeat (first | (with_reducible first | exact HB.out | apply below_alloc | apply pw_below_drewN | apply below_drew1) | exact HB.out)))); have n5_ := Aside0.mk (below_step (by repeat (first | (with_reducible first | exact HB.out | apply below_alloc | apply pw_below_drewN | apply below_drew1) | exact HB.out)) hb); clear HO_1; clear HO_7; clear HO_40; clear HO215; clear HB; have HO_1 := n0_; have HO_7 := n1_; have HO_40 := n2_; have HO215 := n3_; have HO219 := n4_; have HB := n5_; clear n0_ n1_ n2_ n3_ n4_ n5_; (try clear hb); (try clear hb2); (try clear hk); (try clear hi); (try clear ho0)))
              (try simp only [Act.put, List.setIfInBounds_toArray, List.set_cons_zero, List.set_cons_succ])
              go_cut [73] (fun v73 wc => ∃ (kq : Nat) (x73_38 : Bool), v73 = .bool x73_38 ∧ Aside0 (tachographlaw14_BlockShifts.j2 kq t212 t216 x73_38 = some r) ∧ Aside0 (kq ≤ k2) ∧ Aside0 (Kd.R (Kd.int .u8) 5 wc w.heap.size (fun k_ => (w.heap.size ≤ k_) ∧ some k_ ≠ (v218 : Value).ownBlock) v214 t212) ∧ Aside0 (Kd.R (Kd.int .u8) 5 wc w.heap.size (fun k_ => (w.heap.size ≤ k_) ∧ some k_ ≠ (v214 : Value).ownBlock) v218 t216) ∧ Aside0 (Below w.heap.size w wc))
              case first =>
                have H := HC39.out
                clear HC39
                by_cases c43 : t213 = 0
                · rw [if_pos c43] at H
                  have c43b0 : (t213 == 0) = true := beq_iff_eq.mpr c43
                  have c43b1 : (t213 != 0) = false := bne_eq_false_iff_eq.mpr c43
                  clear c43
                  (first | rw [c43b0] | (simp only [i64_w, i32_w]; rw [c43b0]) | skip)
                  have H' := Aside0.mk H
                  clear H
                  go_wp2
                  go_meet
                  case rel => exact ⟨_, ((t217 != 0)), (by first | rfl | (simp; done) | (simp [*]; done)), H', ⟨by have := HJ3.out; have := HK2.out; first | omega | exact Nat.le_refl _⟩, ⟨by (with_reducible repeat (first | apply Kd.R_alloc | apply Kd.R_drewN | apply Kd.R_drew)); exact Kd.R_mono HO215.out (fun _ hk => ⟨hk.1.1, hk.2⟩)⟩, ⟨by (with_reducible repeat (first | apply Kd.R_alloc | apply Kd.R_drewN | apply Kd.R_drew)); exact Kd.R_mono HO219.out (fun _ hk => ⟨hk.1.1, hk.2⟩)⟩, ⟨by repeat (first | (with_reducible first | exact HB.out | apply below_alloc | apply pw_below_drewN | apply below_drew1) | exact HB.out)⟩⟩
                · rw [if_neg c43] at H
                  have c43b0 : (t213 == 0) = false := beq_eq_false_iff_ne.mpr c43
                  have c43b1 : (t213 != 0) = true := bne_iff_ne.mpr c43
                  (first | rw [c43b0] | (simp only [i64_w, i32_w]; rw [c43b0]) | skip)
                  have H' := Aside0.mk H
                  clear H
                  go_wp2
                  go_meet
                  case rel => exact ⟨_, (true), (by first | rfl | (simp; done) | (simp [*]; done)), H', ⟨by have := HJ3.out; have := HK2.out; first | omega | exact Nat.le_refl _⟩, ⟨by (with_reducible repeat (first | apply Kd.R_alloc | apply Kd.R_drewN | apply Kd.R_drew)); exact Kd.R_mono HO215.out (fun _ hk => ⟨hk.1.1, hk.2⟩)⟩, ⟨by (with_reducible repeat (first | apply Kd.R_alloc | apply Kd.R_drewN | apply Kd.R_drew)); exact Kd.R_mono HO219.out (fun _ hk => ⟨hk.1.1, hk.2⟩)⟩, ⟨by repeat (first | (with_reducible first | exact HB.out | apply below_alloc | apply pw_below_drewN | apply below_drew1) | exact HB.out)⟩⟩
              case rest =>
                clear HC39
                try clear c1
                try clear c2
                try clear p2
                try clear q2
                try clear hx2
                try clear c4
                try clear c6
                try clear p6
                try clear c9
                try clear c10
                try clear c12
                try clear c12b0
                try clear c12b1
                try clear c12b2
                try clear c16
                try clear c16b0
                try clear c17
                try clear c17b0
                try clear c18
                try clear c18b0
                try clear c20
                try clear p20
                try clear q20
                try clear hx20
                try clear c23
                try clear c26
                try clear c26b0
                try clear c27
                try clear c27b0
                try clear c28
                try clear c28b0
                try clear c29
                try clear c43
                try clear c43b0
                try clear c43b1
                try clear hcz31_0
                try clear hcz31_1
                try clear hcz33_0
                try clear hcz33_1
                try clear hcz35_0
                try clear hcz35_1
                try clear hfz31_0
                try clear hfz31_1
                try clear hfz33_0
                try clear hfz33_1
                try clear hfz35_0
                try clear hfz35_1
                try clear hx205_0
                try clear hx205_1
                try clear hx207_0
                try clear hx207_1
                try clear p2
                try clear p20
                try clear p205
                try clear p207
                try clear p6
                try clear q2
                try clear q20
                try clear q205
                try clear q207
                obtain ⟨kq, x73_38, rfl, HA, HJ38, HO_10, HO_12, HB⟩ := hcut
                cases kq with
                | zero => exact absurd HA.out (by simp [tachographlaw14_BlockShifts.j2])
                | succ kj38 =>
                  have H := HA.out
                  clear HA
                  simp only [tachographlaw14_BlockShifts.j2] at H
                  by_cases c44 : x73_38 = true
                  · subst c44
                    have H1 : ((tachographlaw14_fixed.f kj38).bind fun t220 => (some t220)) = some r := by rw [if_pos rfl] at H; exact H
                    clear H
                    have H := H1
                    clear H1
                    replace H := Option.bind_eq_some_iff.mp H
                    obtain ⟨t220, A450, H⟩ := H
                    replace H : (some t220) = some r := H
                    have A45 := Aside0.mk A450
                    clear A450
                    obtain rfl := Option.some.inj H
                    go_wp2_with (first | ((with_reducible refine gate_callee (f := 45) rfl ?_); refine goesL_ (some 74) rfl rfl Try.func45 (by kernel_rfl) rfl #[] rfl (by (try simp only [List.map_toArray, List.map_cons, List.map_nil]); first | done | rfl | (simp only [List.length_drop, List.length_take]; rfl) | (refine congrArg (fun z_ => #[z_]) (congrArg (Value.int IntKind.u64) (Eq.symm (Go.Proofs.YtjfklfmfeghjnabAid.wrap_len _ (by omega)))))) ?_; (with_reducible refine (tachographlaw14_fixed.calls kj38  t220 _ A45.out).mono ?_); rintro e w46 ⟨rfl, hb⟩; refine ⟨_, rfl, ?_⟩; have n0_ := Aside0.mk (Kd.R_below (by (with_reducible repeat (first | apply Kd.R_alloc | apply Kd.R_drewN | apply Kd.R_drew)); exact HO_10.out) hb); have n1_ := Aside0.mk (Kd.R_below (by (with_reducible repeat (first | apply Kd.R_alloc | apply Kd.R_drewN | apply Kd.R_drew)); exact HO_12.out) hb); have n2_ := Aside0.mk (below_step (by repeat (first | (with_reducible first | exact HB.out | apply below_alloc | apply pw_below_drewN | apply below_drew1) | exact HB.out)) hb); clear HO_10; clear HO_12; clear HB; have HO_10 := n0_; have HO_12 := n1_; have HB := n2_; clear n0_ n1_ n2_; (try clear hb); (try clear hb2); (try clear hk); (try clear hi)))
                    go_ret
                    exact ⟨by first | rfl | (simp [errW_none, errW_some] <;> rfl) | (simp [*, errW_none, errW_some] <;> rfl), by repeat (first | (with_reducible first | exact HB.out | apply below_alloc | apply pw_below_drewN | apply below_drew1) | exact HB.out)⟩
                  · replace c44 := Bool.eq_false_iff.mpr c44
                    subst c44
                    have H1 : ((tachographlaw14_fixed.f kj38).bind fun t221 => (if t221 = true then ((tachographlaw14_tail.f kj38 t212).bind fun t222 => ((tachographlaw14_tail.f kj38 t216).bind fun t223 => (some (t222.toList == t223.toList)))) else (some false))) = some r := by rw [if_neg (show ¬ (false = true) by decide)] at H; exact H
                    clear H
                    have H := H1
                    clear H1
                    replace H := Option.bind_eq_some_iff.mp H
                    obtain ⟨t221, A470, H⟩ := H
                    replace H : (if t221 = true then ((tachographlaw14_tail.f kj38 t212).bind fun t222 => ((tachographlaw14_tail.f kj38 t216).bind fun t223 => (some (t222.toList == t223.toList)))) else (some false)) = some r := H
                    have A47 := Aside0.mk A470
                    clear A470
                    by_cases c48 : t221 = true
                    · subst c48
                      have H1 : ((tachographlaw14_tail.f kj38 t212).bind fun t222 => ((tachographlaw14_tail.f kj38 t216).bind fun t223 => (some (t222.toList == t223.toList)))) = some r := by rw [if_pos rfl] at H; exact H
                      clear H
                      have H := H1
                      clear H1
                      replace H := Option.bind_eq_some_iff.mp H
                      obtain ⟨t222, A490, H⟩ := H
                      replace H : ((tachographlaw14_tail.f kj38 t216).bind fun t223 => (some (t222.toList == t223.toList))) = some r := H
                      have A49 := Aside0.mk A490
                      clear A490
                      replace H := Option.bind_eq_some_iff.mp H
                      obtain ⟨t223, A500, H⟩ := H
                      replace H : (some (t222.toList == t223.toList)) = some r := H
                      have A50 := Aside0.mk A500
                      clear A500
                      obtain rfl := Option.some.inj H
                      go_wp2_with (first | ((with_reducible refine gate_callee (f := 45) rfl ?_); refine goesL_ (some 75) rfl rfl Try.func45 (by kernel_rfl) rfl #[] rfl (by (try simp only [List.map_toArray, List.map_cons, List.map_nil]); first | done | rfl | (simp only [List.length_drop, List.length_take]; rfl) | (refine congrArg (fun z_ => #[z_]) (congrArg (Value.int IntKind.u64) (Eq.symm (Go.Proofs.YtjfklfmfeghjnabAid.wrap_len _ (by omega)))))) ?_; (with_reducible refine (tachographlaw14_fixed.calls kj38  true _ A47.out).mono ?_); rintro e w51 ⟨rfl, hb⟩; refine ⟨_, rfl, ?_⟩; have n0_ := Aside0.mk (Kd.R_below (by (with_reducible repeat (first | apply Kd.R_alloc | apply Kd.R_drewN | apply Kd.R_drew)); exact HO_10.out) hb); have n1_ := Aside0.mk (Kd.R_below (by (with_reducible repeat (first | apply Kd.R_alloc | apply Kd.R_drewN | apply Kd.R_drew)); exact HO_12.out) hb); have n2_ := Aside0.mk (below_step (by repeat (first | (with_reducible first | exact HB.out | apply below_alloc | apply pw_below_drewN | apply below_drew1) | exact HB.out)) hb); clear HO_10; clear HO_12; clear HB; have HO_10 := n0_; have HO_12 := n1_; have HB := n2_; clear n0_ n1_ n2_; (try clear hb); (try clear hb2); (try clear hk); (try clear hi); obtain ⟨Ao52, co52, eo52⟩ := Kd.R_slice HO_10.out; subst eo52) | (go_at_call 47; (with_reducible refine (tachographlaw14_tail.calls kj38 _ _ t212 t222 _ ?side1 ?side2 A49.out).mono ?_); (case side1 => repeat (first | exact (Kd.R_reads' HO_10.out).2.2 | (with_reducible refine Kd.C_alloc ?_ _) | (with_reducible refine Kd.C_drewN ?_ _) | (with_reducible refine Kd.C_drew ?_))); (case side2 => exact (Kd.R_reads' HO_10.out).2.1); rintro e w' ⟨rfl, ⟨nd, rfl⟩⟩; obtain ⟨Ao53, co53, eo53⟩ := Kd.R_slice HO_12.out; subst eo53) | (go_at_call 47; (with_reducible refine (tachographlaw14_tail.calls kj38 _ _ t216 t223 _ ?side1 ?side2 A50.out).mono ?_); (case side1 => repeat (first | exact (Kd.R_reads' HO_12.out).2.2 | (with_reducible refine Kd.C_alloc ?_ _) | (with_reducible refine Kd.C_drewN ?_ _) | (with_reducible refine Kd.C_drew ?_))); (case side2 => exact (Kd.R_reads' HO_12.out).2.1); rintro e w' ⟨rfl, ⟨nd, rfl⟩⟩))
                      go_ret
                      exact ⟨by first | rfl | (simp [errW_none, errW_some] <;> rfl) | (simp [*, errW_none, errW_some] <;> rfl), by repeat (first | (with_reducible first | exact HB.out | apply below_alloc | apply pw_below_drewN | apply below_drew1) | exact HB.out)⟩
                    · replace c48 := Bool.eq_false_iff.mpr c48
                      subst c48
                      have H1 : (some false) = some r := by rw [if_neg (show ¬ (false = true) by decide)] at H; exact H
                      clear H
                      have H := H1
                      clear H1
                      obtain rfl := Option.some.inj H
                      go_wp2_with (first | ((with_reducible refine gate_callee (f := 45) rfl ?_); refine goesL_ (some 75) rfl rfl Try.func45 (by kernel_rfl) rfl #[] rfl (by (try simp only [List.map_toArray, List.map_cons, List.map_nil]); first | done | rfl | (simp only [List.length_drop, List.length_take]; rfl) | (refine congrArg (fun z_ => #[z_]) (congrArg (Value.int IntKind.u64) (Eq.symm (Go.Proofs.YtjfklfmfeghjnabAid.wrap_len _ (by omega)))))) ?_; (with_reducible refine (tachographlaw14_fixed.calls kj38  false _ A47.out).mono ?_); rintro e w54 ⟨rfl, hb⟩; refine ⟨_, rfl, ?_⟩; have n0_ := Aside0.mk (Kd.R_below (by (with_reducible repeat (first | apply Kd.R_alloc | apply Kd.R_drewN | apply Kd.R_drew)); exact HO_10.out) hb); have n1_ := Aside0.mk (Kd.R_below (by (with_reducible repeat (first | apply Kd.R_alloc | apply Kd.R_drewN | apply Kd.R_drew)); exact HO_12.out) hb); have n2_ := Aside0.mk (below_step (by repeat (first | (with_reducible first | exact HB.out | apply below_alloc | apply pw_below_drewN | apply below_drew1) | exact HB.out)) hb); clear HO_10; clear HO_12; clear HB; have HO_10 := n0_; have HO_12 := n1_; have HB := n2_; clear n0_ n1_ n2_; (try clear hb); (try clear hb2); (try clear hk); (try clear hi)))
                      go_ret
                      exact ⟨by first | rfl | (simp [errW_none, errW_some] <;> rfl) | (simp [*, errW_none, errW_some] <;> rfl), by repeat (first | (with_reducible first | exact HB.out | apply below_alloc | apply pw_below_drewN | apply below_drew1) | exact HB.out)⟩

set_option maxRecDepth 100000 in
theorem tachographlaw14_BlockShifts.laid0 : Go.Proofs.YtjfklfmfeghjnabOpen.Laid Try.prog 106 k106 (fun b_ : S106 => (Go.Proofs.YtjfklfmfeghjnabOpen.pairOk Go.Proofs.YtjfklfmfeghjnabOpen.strOk (Go.Proofs.YtjfklfmfeghjnabOpen.sliceOk 8 (Go.Proofs.YtjfklfmfeghjnabOpen.intOk .i64))) (b_.f0, b_.f1)) := (Go.Proofs.YtjfklfmfeghjnabOpen.laid_iso (fun b_ : S106 => (b_.f0, b_.f1)) (fun p_ => ⟨p_.1, p_.2⟩) (fun _ => rfl) (Go.Proofs.YtjfklfmfeghjnabOpen.laid_struct Try.underlying106 (by kernel_rfl) (Go.Proofs.YtjfklfmfeghjnabOpen.laidF_cons (by rfl) (Go.Proofs.YtjfklfmfeghjnabOpen.laid_string Try.underlying9 (by kernel_rfl)) (Go.Proofs.YtjfklfmfeghjnabOpen.laidF_one (by rfl) (Go.Proofs.YtjfklfmfeghjnabOpen.laid_slice 3 Try.underlying45 (by kernel_rfl) (by kernel_rfl) (Go.Proofs.YtjfklfmfeghjnabOpen.laid_int Try.underlying3 (by kernel_rfl)))))))
set_option maxRecDepth 100000 in
theorem tachographlaw14_BlockShifts.laid1 : Go.Proofs.YtjfklfmfeghjnabOpen.Laid Try.prog 44 k44 (fun b_ : S44 => (Go.Proofs.YtjfklfmfeghjnabOpen.pairOk (Go.Proofs.YtjfklfmfeghjnabOpen.intOk .u64) (Go.Proofs.YtjfklfmfeghjnabOpen.sliceOk 32 (fun b_ : S61 => (Go.Proofs.YtjfklfmfeghjnabOpen.pairOk (Go.Proofs.YtjfklfmfeghjnabOpen.intOk .i64) (Go.Proofs.YtjfklfmfeghjnabOpen.sliceOk 32 (fun b_ : S70 => (Go.Proofs.YtjfklfmfeghjnabOpen.pairOk (Go.Proofs.YtjfklfmfeghjnabOpen.intOk .i64) (Go.Proofs.YtjfklfmfeghjnabOpen.pairOk (Go.Proofs.YtjfklfmfeghjnabOpen.intOk .i64) Go.Proofs.YtjfklfmfeghjnabOpen.strOk)) (b_.f0, b_.f1, b_.f2)))) (b_.f0, b_.f1)))) (b_.f0, b_.f1)) := (Go.Proofs.YtjfklfmfeghjnabOpen.laid_iso (fun b_ : S44 => (b_.f0, b_.f1)) (fun p_ => ⟨p_.1, p_.2⟩) (fun _ => rfl) (Go.Proofs.YtjfklfmfeghjnabOpen.laid_struct Try.underlying44 (by kernel_rfl) (Go.Proofs.YtjfklfmfeghjnabOpen.laidF_cons (by rfl) (Go.Proofs.YtjfklfmfeghjnabOpen.laid_int Try.underlying41 (by kernel_rfl)) (Go.Proofs.YtjfklfmfeghjnabOpen.laidF_one (by rfl) (Go.Proofs.YtjfklfmfeghjnabOpen.laid_slice 61 Try.underlying42 (by kernel_rfl) (by kernel_rfl) (Go.Proofs.YtjfklfmfeghjnabOpen.laid_iso (fun b_ : S61 => (b_.f0, b_.f1)) (fun p_ => ⟨p_.1, p_.2⟩) (fun _ => rfl) (Go.Proofs.YtjfklfmfeghjnabOpen.laid_struct Try.underlying61 (by kernel_rfl) (Go.Proofs.YtjfklfmfeghjnabOpen.laidF_cons (by rfl) (Go.Proofs.YtjfklfmfeghjnabOpen.laid_int Try.underlying3 (by kernel_rfl)) (Go.Proofs.YtjfklfmfeghjnabOpen.laidF_one (by rfl) (Go.Proofs.YtjfklfmfeghjnabOpen.laid_slice 70 Try.underlying59 (by kernel_rfl) (by kernel_rfl) (Go.Proofs.YtjfklfmfeghjnabOpen.laid_iso (fun b_ : S70 => (b_.f0, b_.f1, b_.f2)) (fun p_ => ⟨p_.1, p_.2.1, p_.2.2⟩) (fun _ => rfl) (Go.Proofs.YtjfklfmfeghjnabOpen.laid_struct Try.underlying70 (by kernel_rfl) (Go.Proofs.YtjfklfmfeghjnabOpen.laidF_cons (by rfl) (Go.Proofs.YtjfklfmfeghjnabOpen.laid_int Try.underlying3 (by kernel_rfl)) (Go.Proofs.YtjfklfmfeghjnabOpen.laidF_cons (by rfl) (Go.Proofs.YtjfklfmfeghjnabOpen.laid_int Try.underlying2 (by kernel_rfl)) (Go.Proofs.YtjfklfmfeghjnabOpen.laidF_one (by rfl) (Go.Proofs.YtjfklfmfeghjnabOpen.laid_string Try.underlying9 (by kernel_rfl)))))))))))))))))
/-- THE ONE PURE STATEMENT of tachographlaw14_BlockShifts: yours. -/
def tachographlaw14_BlockShifts.Pure : Prop := ∀ (l0 : List (S106)) (l1 : List (S44)) (a2 : Int), (Go.Proofs.YtjfklfmfeghjnabOpen.sliceOk 40 (fun b_ : S106 => (Go.Proofs.YtjfklfmfeghjnabOpen.pairOk Go.Proofs.YtjfklfmfeghjnabOpen.strOk (Go.Proofs.YtjfklfmfeghjnabOpen.sliceOk 8 (Go.Proofs.YtjfklfmfeghjnabOpen.intOk .i64))) (b_.f0, b_.f1))) l0 → (Go.Proofs.YtjfklfmfeghjnabOpen.sliceOk 32 (fun b_ : S44 => (Go.Proofs.YtjfklfmfeghjnabOpen.pairOk (Go.Proofs.YtjfklfmfeghjnabOpen.intOk .u64) (Go.Proofs.YtjfklfmfeghjnabOpen.sliceOk 32 (fun b_ : S61 => (Go.Proofs.YtjfklfmfeghjnabOpen.pairOk (Go.Proofs.YtjfklfmfeghjnabOpen.intOk .i64) (Go.Proofs.YtjfklfmfeghjnabOpen.sliceOk 32 (fun b_ : S70 => (Go.Proofs.YtjfklfmfeghjnabOpen.pairOk (Go.Proofs.YtjfklfmfeghjnabOpen.intOk .i64) (Go.Proofs.YtjfklfmfeghjnabOpen.pairOk (Go.Proofs.YtjfklfmfeghjnabOpen.intOk .i64) Go.Proofs.YtjfklfmfeghjnabOpen.strOk)) (b_.f0, b_.f1, b_.f2)))) (b_.f0, b_.f1)))) (b_.f0, b_.f1))) l1 → (Lit.int .u64 a2).wf = true → ∃ k, tachographlaw14_BlockShifts.f k l0 l1 a2 = some true
theorem tachographlaw14_BlockShifts.walk (P : tachographlaw14_BlockShifts.Pure) (a0 : Option Addr) (cap0 : Nat) (l0 : List (S106)) (a1 : Option Addr) (cap1 : Nat) (l1 : List (S44)) (a2 : Int) (w : World) (w0 : (Go.Proofs.YtjfklfmfeghjnabOpen.sliceOk 40 (fun b_ : S106 => (Go.Proofs.YtjfklfmfeghjnabOpen.pairOk Go.Proofs.YtjfklfmfeghjnabOpen.strOk (Go.Proofs.YtjfklfmfeghjnabOpen.sliceOk 8 (Go.Proofs.YtjfklfmfeghjnabOpen.intOk .i64))) (b_.f0, b_.f1))) l0) (e0 : l0.length ≤ cap0) (C0 : Kd.C k106 w a0 l0.length l0) (w1 : (Go.Proofs.YtjfklfmfeghjnabOpen.sliceOk 32 (fun b_ : S44 => (Go.Proofs.YtjfklfmfeghjnabOpen.pairOk (Go.Proofs.YtjfklfmfeghjnabOpen.intOk .u64) (Go.Proofs.YtjfklfmfeghjnabOpen.sliceOk 32 (fun b_ : S61 => (Go.Proofs.YtjfklfmfeghjnabOpen.pairOk (Go.Proofs.YtjfklfmfeghjnabOpen.intOk .i64) (Go.Proofs.YtjfklfmfeghjnabOpen.sliceOk 32 (fun b_ : S70 => (Go.Proofs.YtjfklfmfeghjnabOpen.pairOk (Go.Proofs.YtjfklfmfeghjnabOpen.intOk .i64) (Go.Proofs.YtjfklfmfeghjnabOpen.pairOk (Go.Proofs.YtjfklfmfeghjnabOpen.intOk .i64) Go.Proofs.YtjfklfmfeghjnabOpen.strOk)) (b_.f0, b_.f1, b_.f2)))) (b_.f0, b_.f1)))) (b_.f0, b_.f1))) l1) (e1 : l1.length ≤ cap1) (C1 : Kd.C k44 w a1 l1.length l1) (w2 : (Lit.int .u64 a2).wf = true) :
    Calls Try.prog 10 #[.slice a0 l0.length cap0, .slice a1 l1.length cap1, .int .u64 a2] w fun e w' => e = .returned (.bool true) ∧ Below w.heap.size w w' := by
  obtain ⟨k, h⟩ := P l0 l1 a2 w0 w1 w2
  refine (tachographlaw14_BlockShifts.calls k _ _ l0 (fun k_ => k_ < w.heap.size) _ _ l1 a2 true w C0 e0 ⟨a1, cap1, rfl, e1, Kd.C_F (show Kd.Heap k44 from Kd.heap_iso _ (Kd.heap_pair (Kd.heap_int _) (Kd.heap_slice 61 (Kd.heap_iso _ (Kd.heap_pair (Kd.heap_int _) (Kd.heap_slice 70 (Kd.heap_iso _ (Kd.heap_pair (Kd.heap_int _) (Kd.heap_pair (Kd.heap_int _) Kd.heap_string))))))))) C1⟩ h).mono ?_
  rintro e w' ⟨rfl, hd⟩
  exact ⟨rfl, hd⟩

end Go.Proofs.Ytjfklfmfeghjnab.PK
