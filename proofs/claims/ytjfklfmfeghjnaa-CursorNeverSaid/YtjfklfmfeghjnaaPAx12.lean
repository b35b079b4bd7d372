-- Contracts of Go functions, each with its plain Lean function: written by wip/tools/myprint.py of this work (the kit's print, with contracts proved by hand spliced in).
import Derived.Test.YtjfklfmfeghjnaaPAx0
import Derived.Test.YtjfklfmfeghjnaaPAx8
import Derived.Test.YtjfklfmfeghjnaaPAx9
import Derived.Test.YtjfklfmfeghjnaaPAx10
import Derived.Test.YtjfklfmfeghjnaaPAx11
namespace Go.Proofs.Ytjfklfmfeghjnaa.PA
open Go.RowKit Go.Proofs.YtjfklfmfeghjnaaW.PrintWords Go.Proofs.YtjfklfmfeghjnaaW.PrintLast Go.Proofs.YtjfklfmfeghjnaaW.PrintMore
attribute [local go_sem] max2_int min2_int max_two min_two max_three min_three max_four min_four   -- for this text's walks alone
set_option linter.unusedVariables false
set_option linter.unusedSimpArgs false

/-! ### tachographlaw03_CursorNever: function 11 -/
mutual
def tachographlaw03_CursorNever.j0 : Nat → List Int → List (S61) → Bool → Option (Bool)
  | 0, _, _, _ => none
  | k + 1, x0, x1, x17 => if x17 = true then ((tachographlaw03_fixed.f k).bind fun t352 => (some t352)) else ((cursor_New.f x0).bind fun bt353 => (tachographlaw03_CursorNever.l0 k x0 x1 (x1.length : Int) 0 bt353.1 bt353.2.1 bt353.2.2))
def tachographlaw03_CursorNever.l0 : Nat → List Int → List (S61) → Int → Int → ByteArray → Int → Int → Option (Bool)
  | 0, _, _, _, _, _, _, _ => none
  | k + 1, x0, x23, x24, x25, x357000, x357001, x357002 => if x25 < x24 then (if 0 ≤ x25 then (if x25 < (x23.length : Int) then ((cursor_Cursor_At.f x357000 x357001 x357002).bind fun bt360 => ((cursor_Cursor_Err.f bt360.2.1 bt360.2.2.1 bt360.2.2.2).bind fun bt364 => (if ((rd_T61 x23 x25).f0) = 0 then ((cursor_Cursor_Byte.f bt364.2.1 bt364.2.2.1 bt364.2.2.2).bind fun bt368 => (tachographlaw03_CursorNever.j2 k x0 bt360.1 bt364.1 x23 x24 x25 bt368.2.1 bt368.2.2.1 bt368.2.2.2)) else (if ((rd_T61 x23 x25).f0) = 1 then ((cursor_Cursor_Number.f k bt364.2.1 bt364.2.2.1 bt364.2.2.2 (IntKind.u64.wrap ((rd_T61 x23 x25).f1))).bind fun bt372 => (tachographlaw03_CursorNever.j2 k x0 bt360.1 bt364.1 x23 x24 x25 bt372.2.1 bt372.2.2.1 bt372.2.2.2)) else (if ((rd_T61 x23 x25).f0) = 2 then ((cursor_Cursor_Signed.f k bt364.2.1 bt364.2.2.1 bt364.2.2.2).bind fun bt376 => (tachographlaw03_CursorNever.j2 k x0 bt360.1 bt364.1 x23 x24 x25 bt376.2.1 bt376.2.2.1 bt376.2.2.2)) else (if ((rd_T61 x23 x25).f0) = 3 then ((cursor_Cursor_Text.f k bt364.2.1 bt364.2.2.1 bt364.2.2.2 ((rd_T61 x23 x25).f1)).bind fun bt380 => (tachographlaw03_CursorNever.j2 k x0 bt360.1 bt364.1 x23 x24 x25 bt380.2.1 bt380.2.2.1 bt380.2.2.2)) else (if ((rd_T61 x23 x25).f0) = 4 then ((cursor_Cursor_Done.f bt364.2.1 bt364.2.2.1 bt364.2.2.2).bind fun bt384 => (tachographlaw03_CursorNever.j2 k x0 bt360.1 bt364.1 x23 x24 x25 bt384.2.1 bt384.2.2.1 bt384.2.2.2)) else (if ((rd_T61 x23 x25).f0) = 5 then ((cursor_Cursor_Stop.f bt364.2.1 bt364.2.2.1 bt364.2.2.2 ((rd_T61 x23 x25).f1)).bind fun bt388 => (tachographlaw03_CursorNever.j2 k x0 bt360.1 bt364.1 x23 x24 x25 bt388.1 bt388.2.1 bt388.2.2)) else (tachographlaw03_CursorNever.j2 k x0 bt360.1 bt364.1 x23 x24 x25 bt364.2.1 bt364.2.2.1 bt364.2.2.2))))))))) else (none)) else (none)) else ((tachographlaw03_fixed.f k).bind fun t357 => (some t357))
def tachographlaw03_CursorNever.j2 : Nat → List Int → Int → Int → List (S61) → Int → Int → ByteArray → Int → Int → Option (Bool)
  | 0, _, _, _, _, _, _, _, _, _ => none
  | k + 1, x0, x8, x9, x23, x24, x25, x357000, x357001, x357002 => (cursor_Cursor_At.f x357000 x357001 x357002).bind fun bt391 => (if bt391.1 < x8 then (some false) else ((cursor_Cursor_At.f bt391.2.1 bt391.2.2.1 bt391.2.2.2).bind fun bt395 => (if bt395.1 > (x0.length : Int) then (some false) else ((cursor_Cursor_Left.f bt395.2.1 bt395.2.2.1 bt395.2.2.2).bind fun bt399 => ((cursor_Cursor_At.f bt399.2.1 bt399.2.2.1 bt399.2.2.2).bind fun bt403 => (if bt399.1 = (wrap64 ((x0.length : Int) - bt403.1)) then (if x9 = 0 then (tachographlaw03_CursorNever.l0 k x0 x23 x24 (wrap64 (x25 + 1)) bt403.2.1 bt403.2.2.1 bt403.2.2.2) else ((cursor_Cursor_At.f bt403.2.1 bt403.2.2.1 bt403.2.2.2).bind fun bt407 => (if bt407.1 = x8 then ((cursor_Cursor_Err.f bt407.2.1 bt407.2.2.1 bt407.2.2.2).bind fun bt411 => (if bt411.1 = x9 then (tachographlaw03_CursorNever.l0 k x0 x23 x24 (wrap64 (x25 + 1)) bt411.2.1 bt411.2.2.1 bt411.2.2.2) else (some false))) else (some false)))) else (some false)))))))
end
def tachographlaw03_CursorNever.f (k : Nat) (l0 : List Int) (l1 : List (S61)) : Option (Bool) := if (l0.length : Int) > 300 then (tachographlaw03_CursorNever.j0 k l0 l1 true) else (tachographlaw03_CursorNever.j0 k l0 l1 (decide ((l1.length : Int) > 60)))
theorem tachographlaw03_CursorNever.mono_l : ∀ k, (∀ y0 y1 y2, LeO (tachographlaw03_CursorNever.j0 k y0 y1 y2) (tachographlaw03_CursorNever.j0 (k + 1) y0 y1 y2)) ∧ (∀ y0 y1 y2 y3 y4 y5 y6, LeO (tachographlaw03_CursorNever.l0 k y0 y1 y2 y3 y4 y5 y6) (tachographlaw03_CursorNever.l0 (k + 1) y0 y1 y2 y3 y4 y5 y6)) ∧ (∀ y0 y1 y2 y3 y4 y5 y6 y7 y8, LeO (tachographlaw03_CursorNever.j2 k y0 y1 y2 y3 y4 y5 y6 y7 y8) (tachographlaw03_CursorNever.j2 (k + 1) y0 y1 y2 y3 y4 y5 y6 y7 y8))
  | 0 => ⟨fun _ _ _ r h => by simp [tachographlaw03_CursorNever.j0] at h, fun _ _ _ _ _ _ _ r h => by simp [tachographlaw03_CursorNever.l0] at h, fun _ _ _ _ _ _ _ _ _ r h => by simp [tachographlaw03_CursorNever.j2] at h⟩
  | k + 1 => by
    obtain ⟨ih0, ih1, ih2⟩ := tachographlaw03_CursorNever.mono_l k
    refine ⟨?_, ?_, ?_⟩
    · intro y0 y1 y2
      unfold tachographlaw03_CursorNever.j0
      repeat' first
      | (with_reducible exact ih0 _ _ _)
      | (with_reducible exact ih1 _ _ _ _ _ _ _)
      | (with_reducible exact ih2 _ _ _ _ _ _ _ _ _)
      | (with_reducible exact cursor_Cursor_Number.mono _ _ _ _ _)
      | (with_reducible exact cursor_Cursor_Signed.mono _ _ _ _)
      | (with_reducible exact cursor_Cursor_Text.mono _ _ _ _ _)
      | (with_reducible exact tachographlaw03_fixed.mono _)
      | (with_reducible exact LeO.refl _)
      | (with_reducible exact LeO.none _)
      | (with_reducible refine LeO.ite ?_ ?_)
      | (with_reducible refine LeO.bind ?_ (fun _ => ?_))
      | exact ih0 _ _ _
      | exact ih1 _ _ _ _ _ _ _
      | exact ih2 _ _ _ _ _ _ _ _ _
      | exact cursor_Cursor_Number.mono _ _ _ _ _
      | exact cursor_Cursor_Signed.mono _ _ _ _
      | exact cursor_Cursor_Text.mono _ _ _ _ _
      | exact tachographlaw03_fixed.mono _
      | exact LeO.none _
      | refine LeO.ite ?_ ?_
      | refine LeO.bind ?_ (fun _ => ?_)
    · intro y0 y1 y2 y3 y4 y5 y6
      unfold tachographlaw03_CursorNever.l0
      repeat' first
      | (with_reducible exact ih0 _ _ _)
      | (with_reducible exact ih1 _ _ _ _ _ _ _)
      | (with_reducible exact ih2 _ _ _ _ _ _ _ _ _)
      | (with_reducible exact cursor_Cursor_Number.mono _ _ _ _ _)
      | (with_reducible exact cursor_Cursor_Signed.mono _ _ _ _)
      | (with_reducible exact cursor_Cursor_Text.mono _ _ _ _ _)
      | (with_reducible exact tachographlaw03_fixed.mono _)
      | (with_reducible exact LeO.refl _)
      | (with_reducible exact LeO.none _)
      | (with_reducible refine LeO.ite ?_ ?_)
      | (with_reducible refine LeO.bind ?_ (fun _ => ?_))
      | exact ih0 _ _ _
      | exact ih1 _ _ _ _ _ _ _
      | exact ih2 _ _ _ _ _ _ _ _ _
      | exact cursor_Cursor_Number.mono _ _ _ _ _
      | exact cursor_Cursor_Signed.mono _ _ _ _
      | exact cursor_Cursor_Text.mono _ _ _ _ _
      | exact tachographlaw03_fixed.mono _
      | exact LeO.none _
      | refine LeO.ite ?_ ?_
      | refine LeO.bind ?_ (fun _ => ?_)
    · intro y0 y1 y2 y3 y4 y5 y6 y7 y8
      unfold tachographlaw03_CursorNever.j2
      repeat' first
      | (with_reducible exact ih0 _ _ _)
      | (with_reducible exact ih1 _ _ _ _ _ _ _)
      | (with_reducible exact ih2 _ _ _ _ _ _ _ _ _)
      | (with_reducible exact cursor_Cursor_Number.mono _ _ _ _ _)
      | (with_reducible exact cursor_Cursor_Signed.mono _ _ _ _)
      | (with_reducible exact cursor_Cursor_Text.mono _ _ _ _ _)
      | (with_reducible exact tachographlaw03_fixed.mono _)
      | (with_reducible exact LeO.refl _)
      | (with_reducible exact LeO.none _)
      | (with_reducible refine LeO.ite ?_ ?_)
      | (with_reducible refine LeO.bind ?_ (fun _ => ?_))
      | exact ih0 _ _ _
      | exact ih1 _ _ _ _ _ _ _
      | exact ih2 _ _ _ _ _ _ _ _ _
      | exact cursor_Cursor_Number.mono _ _ _ _ _
      | exact cursor_Cursor_Signed.mono _ _ _ _
      | exact cursor_Cursor_Text.mono _ _ _ _ _
      | exact tachographlaw03_fixed.mono _
      | exact LeO.none _
      | refine LeO.ite ?_ ?_
      | refine LeO.bind ?_ (fun _ => ?_)
theorem tachographlaw03_CursorNever.mono : ∀ a0 a1 k, LeO (tachographlaw03_CursorNever.f k a0 a1) (tachographlaw03_CursorNever.f (k + 1) a0 a1) := by
  intro a0 a1 k
  obtain ⟨ih0, ih1, ih2⟩ := tachographlaw03_CursorNever.mono_l k
  unfold tachographlaw03_CursorNever.f
  repeat' first
      | (with_reducible exact ih0 _ _ _)
      | (with_reducible exact ih1 _ _ _ _ _ _ _)
      | (with_reducible exact ih2 _ _ _ _ _ _ _ _ _)
      | (with_reducible exact cursor_Cursor_Number.mono _ _ _ _ _)
      | (with_reducible exact cursor_Cursor_Signed.mono _ _ _ _)
      | (with_reducible exact cursor_Cursor_Text.mono _ _ _ _ _)
      | (with_reducible exact tachographlaw03_fixed.mono _)
      | (with_reducible exact LeO.refl _)
      | (with_reducible exact LeO.none _)
      | (with_reducible refine LeO.ite ?_ ?_)
      | (with_reducible refine LeO.bind ?_ (fun _ => ?_))
      | exact ih0 _ _ _
      | exact ih1 _ _ _ _ _ _ _
      | exact ih2 _ _ _ _ _ _ _ _ _
      | exact cursor_Cursor_Number.mono _ _ _ _ _
      | exact cursor_Cursor_Signed.mono _ _ _ _
      | exact cursor_Cursor_Text.mono _ _ _ _ _
      | exact tachographlaw03_fixed.mono _
      | exact LeO.none _
      | refine LeO.ite ?_ ?_
      | refine LeO.bind ?_ (fun _ => ?_)
set_option maxHeartbeats 8000000 in
set_option maxRecDepth 100000 in
theorem tachographlaw03_CursorNever.calls (k : Nat) (A0 : Option Addr) (c0 : Nat) (l0 : List Int) (A1 : Option Addr) (c1 : Nat) (l1 : List (S61)) (r : Bool) (w : World) (hr0 : Kd.C (Kd.int .u8) w A0 l0.length l0) (hc0 : l0.length ≤ c0) (hr1 : Kd.C k61 w A1 l1.length l1) (hc1 : l1.length ≤ c1) (h : tachographlaw03_CursorNever.f k l0 l1 = some r) :
    Calls Try.prog 11 #[.slice A0 l0.length c0, .slice A1 l1.length c1] w fun e w' => e = .returned (.bool r) ∧ Below w.heap.size w w' := by
  have hu61 := Try.underlying61
  have HR0 := Aside0.mk hr0
  have HC0 := Aside0.mk hc0
  clear hr0 hc0
  have HR1 := Aside0.mk hr1
  have HC1 := Aside0.mk hc1
  clear hr1 hc1
  have HB := Aside0.mk (Below.refl w.heap.size w)
  have H : (if (l0.length : Int) > 300 then (tachographlaw03_CursorNever.j0 k l0 l1 true) else (tachographlaw03_CursorNever.j0 k l0 l1 (decide ((l1.length : Int) > 60)))) = some r := h
  clear h
  have HC3 := Aside0.mk H
  clear H
  go_enter Try.func11, Try.ntmps11
  go_upto_region 1 with (fail)
  go_cut [17] (fun v17 wc => ∃ (kq : Nat) (x17_2 : Bool), v17 = .bool x17_2 ∧ Aside0 (tachographlaw03_CursorNever.j0 kq l0 l1 x17_2 = some r) ∧ Aside0 (kq ≤ k) ∧ Aside0 (Below w.heap.size w wc))
  case first =>
    have H := HC3.out
    clear HC3
    by_cases c4 : (l0.length : Int) > 300
    · rw [if_pos c4] at H
      have c4b0 : decide (300 < (l0.length : Int)) = true := decide_eq_true c4
      have c4b1 : decide (300 < l0.length) = true := decide_eq_true (by omega)
      clear c4
      (first | rw [c4b0] | (simp only [i64_w, i32_w]; rw [c4b0]) | skip)
      have H' := Aside0.mk H
      clear H
      go_wp2
      go_meet
      case rel => exact ⟨_, (true), (by first | rfl | (simp; done) | (simp [*]; done)), H', ⟨by first | omega | exact Nat.le_refl _⟩, ⟨by repeat (first | (with_reducible first | exact HB.out | apply below_alloc | apply pw_below_drewN | apply below_drew1) | exact HB.out)⟩⟩
    · rw [if_neg c4] at H
      have c4b0 : decide (300 < (l0.length : Int)) = false := decide_eq_false c4
      have c4b1 : decide (300 < l0.length) = false := decide_eq_false (by omega)
      clear c4
      (first | rw [c4b0] | (simp only [i64_w, i32_w]; rw [c4b0]) | skip)
      have H' := Aside0.mk H
      clear H
      go_wp2
      go_meet
      case rel => exact ⟨_, (decide ((l1.length : Int) > 60)), (by first | rfl | (simp; done) | (simp [*]; done)), H', ⟨by first | omega | exact Nat.le_refl _⟩, ⟨by repeat (first | (with_reducible first | exact HB.out | apply below_alloc | apply pw_below_drewN | apply below_drew1) | exact HB.out)⟩⟩
  case rest =>
    clear HC3
    try clear c1
    try clear p2
    try clear c4
    try clear c4b0
    try clear c4b1
    obtain ⟨kq, x17_2, rfl, HA, HJ2, HB⟩ := hcut
    cases kq with
    | zero => exact absurd HA.out (by simp [tachographlaw03_CursorNever.j0])
    | succ kj2 =>
      have H := HA.out
      clear HA
      simp only [tachographlaw03_CursorNever.j0] at H
      by_cases c5 : x17_2 = true
      · subst c5
        have H1 : ((tachographlaw03_fixed.f kj2).bind fun t352 => (some t352)) = some r := by rw [if_pos rfl] at H; exact H
        clear H
        have H := H1
        clear H1
        replace H := Option.bind_eq_some_iff.mp H
        obtain ⟨t352, A60, H⟩ := H
        replace H : (some t352) = some r := H
        have A6 := Aside0.mk A60
        clear A60
        obtain rfl := Option.some.inj H
        go_wp2_with (first | ((with_reducible refine gate_callee (f := 33) rfl ?_); refine goesL_ (some 18) rfl rfl Try.func33 (by kernel_rfl) rfl #[] rfl (by (try simp only [List.map_toArray, List.map_cons, List.map_nil]); first | done | rfl | (simp only [List.length_drop, List.length_take]; rfl) | (refine congrArg (fun z_ => #[z_]) (congrArg (Value.int IntKind.u64) (Eq.symm (Go.Proofs.YtjfklfmfeghjnaaAid.wrap_len _ (by omega)))))) ?_; (with_reducible refine (tachographlaw03_fixed.calls kj2  t352 _ A6.out).mono ?_); rintro e w7 ⟨rfl, hb⟩; refine ⟨_, rfl, ?_⟩; have n0_ := Aside0.mk (below_step (by repeat (first | (with_reducible first | exact HB.out | apply below_alloc | apply pw_below_drewN | apply below_drew1) | exact HB.out)) hb); clear HB; have HB := n0_; clear n0_; (try clear hb); (try clear hb2); (try clear hk); (try clear hi)))
        go_ret
        exact ⟨by first | rfl | (simp [errW_none, errW_some] <;> rfl) | (simp [*, errW_none, errW_some] <;> rfl), by repeat (first | (with_reducible first | exact HB.out | apply below_alloc | apply pw_below_drewN | apply below_drew1) | exact HB.out)⟩
      · replace c5 := Bool.eq_false_iff.mpr c5
        subst c5
        have H1 : ((cursor_New.f l0).bind fun bt353 => (tachographlaw03_CursorNever.l0 kj2 l0 l1 (l1.length : Int) 0 bt353.1 bt353.2.1 bt353.2.2)) = some r := by rw [if_neg (show ¬ (false = true) by decide)] at H; exact H
        clear H
        have H := H1
        clear H1
        replace H := Option.bind_eq_some_iff.mp H
        obtain ⟨⟨t353, t354, t355⟩, A80, H⟩ := H
        replace H : (tachographlaw03_CursorNever.l0 kj2 l0 l1 (l1.length : Int) 0 t353 t354 t355) = some r := H
        have A8 := Aside0.mk A80
        clear A80
        have H' := Aside0.mk H
        clear H
        go_wp2_with (first | ((with_reducible refine gate_callee (f := 34) rfl ?_); refine goesL_ (some 20) rfl rfl Try.func34 (by kernel_rfl) rfl #[.slice A0 l0.length c0] rfl (by (try simp only [List.map_toArray, List.map_cons, List.map_nil]); first | done | rfl | (simp only [List.length_drop, List.length_take]; rfl) | (refine congrArg (fun z_ => #[z_]) (congrArg (Value.int IntKind.u64) (Eq.symm (Go.Proofs.YtjfklfmfeghjnaaAid.wrap_len _ (by omega)))))) ?_; (with_reducible refine (cursor_New.calls _ _ l0 t353 t354 t355 w _ ?side1 ?side2 ?side3 A8.out).mono ?_); (case side1 => repeat (first | (with_reducible first | exact HB.out | apply below_alloc | apply pw_below_drewN | apply below_drew1) | exact HB.out)); (case side2 => repeat (first | exact (Kd.C_below HR0.out HB.out) | (with_reducible refine Kd.C_alloc ?_ _) | (with_reducible refine Kd.C_drewN ?_ _) | (with_reducible refine Kd.C_drew ?_))); (case side3 => exact HC0.out); rintro e w9 ⟨g356, rfl, hi, hb, hb2⟩; refine ⟨_, rfl, ?_⟩; have n0_ := Aside0.mk (hb); have n1_ := Aside0.mk (hi); clear HB; have HB := n0_; have HI356 := n1_; clear n0_ n1_; (try clear hb); (try clear hb2); (try clear hk); (try clear hi)))
        go_loopg [25] kj2 (fun kq v25 w' => ∃ (x25_2 : Int) (x357000_2 : ByteArray) (x357001_2 : Int) (x357002_2 : Int), v25 = .int .i64 x25_2 ∧ Aside0 (tachographlaw03_CursorNever.l0 kq l0 l1 (l1.length : Int) x25_2 x357000_2 x357001_2 x357002_2 = some r) ∧ Aside0 (kq ≤ kj2) ∧ Aside0 (IsS102 w w' g356 x357000_2 x357001_2 x357002_2) ∧ Aside0 (Below w.heap.size w w'))
        case atStart => exact ⟨(0), (t353), (t354), (t355), (by first | rfl | (simp; done) | (simp [*]; done)), H', ⟨Nat.le_refl _⟩, ⟨by repeat (first | (with_reducible first | exact HI356.out | apply IsS102.alloc | apply IsS102.drewN | apply IsS102.drew | apply IsS102.set_0 | apply IsS102.set_1 | apply IsS102.set_2) | exact HI356.out)⟩, ⟨by repeat (first | (with_reducible first | exact HB.out | apply below_alloc | apply pw_below_drewN | apply below_drew1 | refine below_set ?_ (IsS102.ge HI356.out)) | exact HB.out)⟩⟩
        case round =>
          clear H'
          try clear c1
          try clear p2
          try clear c3
          try clear c4
          try clear c4b0
          try clear c4b1
          try clear c5
          try clear p2
          obtain ⟨x25_2, x357000_2, x357001_2, x357002_2, rfl, HA, HK2, HI356, HB⟩ := hrel
          cases gk with
          | zero => exact absurd HA.out (by simp [tachographlaw03_CursorNever.l0])
          | succ k2 =>
            have H := HA.out
            clear HA
            simp only [tachographlaw03_CursorNever.l0] at H
            by_cases c10 : x25_2 < (l1.length : Int)
            · rw [if_pos c10] at H
              have c10b0 : decide (x25_2 < (l1.length : Int)) = true := decide_eq_true c10
              clear c10
              by_cases c11 : 0 ≤ x25_2
              · rw [if_pos c11] at H
                have c11b0 : decide (0 ≤ x25_2) = true := decide_eq_true c11
                clear c11
                by_cases c12 : x25_2 < (l1.length : Int)
                · rw [if_pos c12] at H
                  have c12b0 : decide (x25_2 < (l1.length : Int)) = true := decide_eq_true c12
                  clear c12
                  replace H := Option.bind_eq_some_iff.mp H
                  obtain ⟨⟨t360, t361, t362, t363⟩, A130, H⟩ := H
                  replace H : ((cursor_Cursor_Err.f t361 t362 t363).bind fun bt364 => (if ((rd_T61 l1 x25_2).f0) = 0 then ((cursor_Cursor_Byte.f bt364.2.1 bt364.2.2.1 bt364.2.2.2).bind fun bt368 => (tachographlaw03_CursorNever.j2 k2 l0 t360 bt364.1 l1 (l1.length : Int) x25_2 bt368.2.1 bt368.2.2.1 bt368.2.2.2)) else (if ((rd_T61 l1 x25_2).f0) = 1 then ((cursor_Cursor_Number.f k2 bt364.2.1 bt364.2.2.1 bt364.2.2.2 (IntKind.u64.wrap ((rd_T61 l1 x25_2).f1))).bind fun bt372 => (tachographlaw03_CursorNever.j2 k2 l0 t360 bt364.1 l1 (l1.length : Int) x25_2 bt372.2.1 bt372.2.2.1 bt372.2.2.2)) else (if ((rd_T61 l1 x25_2).f0) = 2 then ((cursor_Cursor_Signed.f k2 bt364.2.1 bt364.2.2.1 bt364.2.2.2).bind fun bt376 => (tachographlaw03_CursorNever.j2 k2 l0 t360 bt364.1 l1 (l1.length : Int) x25_2 bt376.2.1 bt376.2.2.1 bt376.2.2.2)) else (if ((rd_T61 l1 x25_2).f0) = 3 then ((cursor_Cursor_Text.f k2 bt364.2.1 bt364.2.2.1 bt364.2.2.2 ((rd_T61 l1 x25_2).f1)).bind fun bt380 => (tachographlaw03_CursorNever.j2 k2 l0 t360 bt364.1 l1 (l1.length : Int) x25_2 bt380.2.1 bt380.2.2.1 bt380.2.2.2)) else (if ((rd_T61 l1 x25_2).f0) = 4 then ((cursor_Cursor_Done.f bt364.2.1 bt364.2.2.1 bt364.2.2.2).bind fun bt384 => (tachographlaw03_CursorNever.j2 k2 l0 t360 bt364.1 l1 (l1.length : Int) x25_2 bt384.2.1 bt384.2.2.1 bt384.2.2.2)) else (if ((rd_T61 l1 x25_2).f0) = 5 then ((cursor_Cursor_Stop.f bt364.2.1 bt364.2.2.1 bt364.2.2.2 ((rd_T61 l1 x25_2).f1)).bind fun bt388 => (tachographlaw03_CursorNever.j2 k2 l0 t360 bt364.1 l1 (l1.length : Int) x25_2 bt388.1 bt388.2.1 bt388.2.2)) else (tachographlaw03_CursorNever.j2 k2 l0 t360 bt364.1 l1 (l1.length : Int) x25_2 bt364.2.1 bt364.2.2.1 bt364.2.2.2)))))))) = some r := H
                  have A13 := Aside0.mk A130
                  clear A130
                  replace H := Option.bind_eq_some_iff.mp H
                  obtain ⟨⟨t364, t365, t366, t367⟩, A140, H⟩ := H
                  replace H : (if ((rd_T61 l1 x25_2).f0) = 0 then ((cursor_Cursor_Byte.f t365 t366 t367).bind fun bt368 => (tachographlaw03_CursorNever.j2 k2 l0 t360 t364 l1 (l1.length : Int) x25_2 bt368.2.1 bt368.2.2.1 bt368.2.2.2)) else (if ((rd_T61 l1 x25_2).f0) = 1 then ((cursor_Cursor_Number.f k2 t365 t366 t367 (IntKind.u64.wrap ((rd_T61 l1 x25_2).f1))).bind fun bt372 => (tachographlaw03_CursorNever.j2 k2 l0 t360 t364 l1 (l1.length : Int) x25_2 bt372.2.1 bt372.2.2.1 bt372.2.2.2)) else (if ((rd_T61 l1 x25_2).f0) = 2 then ((cursor_Cursor_Signed.f k2 t365 t366 t367).bind fun bt376 => (tachographlaw03_CursorNever.j2 k2 l0 t360 t364 l1 (l1.length : Int) x25_2 bt376.2.1 bt376.2.2.1 bt376.2.2.2)) else (if ((rd_T61 l1 x25_2).f0) = 3 then ((cursor_Cursor_Text.f k2 t365 t366 t367 ((rd_T61 l1 x25_2).f1)).bind fun bt380 => (tachographlaw03_CursorNever.j2 k2 l0 t360 t364 l1 (l1.length : Int) x25_2 bt380.2.1 bt380.2.2.1 bt380.2.2.2)) else (if ((rd_T61 l1 x25_2).f0) = 4 then ((cursor_Cursor_Done.f t365 t366 t367).bind fun bt384 => (tachographlaw03_CursorNever.j2 k2 l0 t360 t364 l1 (l1.length : Int) x25_2 bt384.2.1 bt384.2.2.1 bt384.2.2.2)) else (if ((rd_T61 l1 x25_2).f0) = 5 then ((cursor_Cursor_Stop.f t365 t366 t367 ((rd_T61 l1 x25_2).f1)).bind fun bt388 => (tachographlaw03_CursorNever.j2 k2 l0 t360 t364 l1 (l1.length : Int) x25_2 bt388.1 bt388.2.1 bt388.2.2)) else (tachographlaw03_CursorNever.j2 k2 l0 t360 t364 l1 (l1.length : Int) x25_2 t365 t366 t367))))))) = some r := H
                  have A14 := Aside0.mk A140
                  clear A140
                  have HC15 := Aside0.mk H
                  clear H
                  have p358 : 0 ≤ (x25_2 : Int) := of_decide_eq_true (by first | (with_reducible assumption) | assumption)
                  have q358 : x25_2 < (l1.length : Int) := of_decide_eq_true (by first | (with_reducible assumption) | assumption)
                  obtain ⟨ad358, e358, hx358_0, hx358_1⟩ := at_T61 HR1.out x25_2 p358 q358
                  cases e358
                  replace hx358_0 := (HB.out.cell (World.block_lt_of_cell? w _ hx358_0)).trans hx358_0
                  replace hx358_1 := (HB.out.cell (World.block_lt_of_cell? w _ hx358_1)).trans hx358_1
                  replace p358 := eq_true p358
                  replace q358 := eq_true q358
                  go_upto_block 2 with (first | ((with_reducible refine gate_dst (N := 7) rfl ?_); (try (refine gate_guard (by rfl) ?_; dsimp only)); refine box_event ?hg (N := 7) ?hd (cs := #[.int .i64 0, .int .i64 0]) (t := 61) ?hr ?_; (case hd => rfl); (case hg => rfl); (case hr => first | (go_simp; done) | (go_simp; rfl)); intro gb359 hg w16 hbox hb; have n0_ := Aside0.mk (IsS102.below (by repeat (first | (with_reducible first | exact HI356.out | apply IsS102.alloc | apply IsS102.drewN | apply IsS102.drew | apply IsS102.set_0 | apply IsS102.set_1 | apply IsS102.set_2) | exact HI356.out)) hb); have n1_ := Aside0.mk (below_step (by repeat (first | (with_reducible first | exact HB.out | apply below_alloc | apply pw_below_drewN | apply below_drew1 | refine below_set ?_ (IsS102.ge HI356.out)) | exact HB.out)) hb); have n2_ := Aside0.mk (hbox); have n3_ := Aside0.mk ((by rw [hg]; exact (below_size (by repeat (first | (with_reducible first | exact HB.out | apply below_alloc | apply pw_below_drewN | apply below_drew1 | refine below_set ?_ (IsS102.ge HI356.out)) | exact HB.out))) : w.heap.size ≤ gb359)); have n4_ := Aside0.mk ((by rw [hg]; exact (below_size (by repeat (first | (with_reducible first | exact HB.out | apply below_alloc | apply pw_below_drewN | apply below_drew1 | refine below_set ?_ (IsS102.ge HI356.out)) | exact HB.out))) : w.heap.size ≤ gb359)); have n5_ := Aside0.mk ((by rw [hg]; exact Nat.ne_of_lt (IsS102.lt (show IsS102 w _ g356 x357000_2 x357001_2 x357002_2 from by repeat (first | (with_reducible first | exact HI356.out | apply IsS102.alloc | apply IsS102.drewN | apply IsS102.drew | apply IsS102.set_0 | apply IsS102.set_1 | apply IsS102.set_2) | exact HI356.out))) : g356 ≠ gb359)); have n6_ := Aside0.mk ((by rw [hg]; exact Nat.ne_of_gt (IsS102.lt (show IsS102 w _ g356 x357000_2 x357001_2 x357002_2 from by repeat (first | (with_reducible first | exact HI356.out | apply IsS102.alloc | apply IsS102.drewN | apply IsS102.drew | apply IsS102.set_0 | apply IsS102.set_1 | apply IsS102.set_2) | exact HI356.out))) : gb359 ≠ g356)); clear HI356; clear HB; have HI356 := n0_; have HB := n1_; have BK359 := n2_; have GW359 := n3_; have GE359 := n4_; have NB356_359 := n5_; have NB359_356 := n6_; clear n0_ n1_ n2_ n3_ n4_ n5_ n6_; clear hb hbox hg; have hnb17 := NB359_356.out; have hnc17 := NB356_359.out; have hcz18_0 : w16.cell? ⟨gb359, 0, none⟩ = some (.int .i64 0) := (blk_cell BK359.out 0).trans rfl; have hcz18_1 : w16.cell? ⟨gb359, 1, none⟩ = some (.int .i64 0) := (blk_cell BK359.out 1).trans rfl; have hfz18_0 := blk_frozen BK359.out 0; have hfz18_1 := blk_frozen BK359.out 1) | ((with_reducible refine gate_callee (f := 47) rfl ?_); refine goesL_ (some 30) rfl rfl Try.func47 (by kernel_rfl) rfl #[.pointer (some ⟨g356, 0, none⟩)] rfl (by (try simp only [List.map_toArray, List.map_cons, List.map_nil]); first | done | rfl | (simp only [List.length_drop, List.length_take]; rfl) | (refine congrArg (fun z_ => #[z_]) (congrArg (Value.int IntKind.u64) (Eq.symm (Go.Proofs.YtjfklfmfeghjnaaAid.wrap_len _ (by omega)))))) ?_; (with_reducible refine (cursor_Cursor_At.calls g356 x357000_2 x357001_2 x357002_2 t360 t361 t362 t363 w _ ?side1 ?side2 A13.out).mono ?_); (case side1 => repeat (first | (with_reducible first | exact HI356.out | apply IsS102.alloc | apply IsS102.drewN | apply IsS102.drew | apply IsS102.set_0 | apply IsS102.set_1 | apply IsS102.set_2 | refine IsS102.far ?_ NB356_359.out _) | exact HI356.out)); (case side2 => repeat (first | (with_reducible first | exact HB.out | apply below_alloc | apply pw_below_drewN | apply below_drew1 | refine below_set ?_ (IsS102.ge HI356.out) | refine below_set ?_ GE359.out) | exact HB.out)); rintro e w19 ⟨rfl, hi, hb, hk⟩; refine ⟨_, rfl, ?_⟩; have n0_ := Aside0.mk (KeepBut.blk hk (g' := gb359) (o := .cells #[.int .i64 ((rd_T61 l1 x25_2).f0), .int .i64 ((rd_T61 l1 x25_2).f1)] 61 (0, 0)) (by (with_reducible repeat (first | refine blk_drewN ?_ _ | refine blk_drew ?_ | refine blk_alloc ?_ _)); refine blk_put (cs := #[.int .i64 ((rd_T61 l1 x25_2).f0), .int .i64 0]) ?_ 1 _ rfl; (with_reducible repeat (first | refine blk_drewN ?_ _ | refine blk_drew ?_ | refine blk_alloc ?_ _)); refine blk_put (cs := #[.int .i64 0, .int .i64 0]) ?_ 0 _ rfl; (with_reducible repeat (first | refine blk_drewN ?_ _ | refine blk_drew ?_ | refine blk_alloc ?_ _)); exact BK359.out) NB359_356.out (by simp)); have n1_ := Aside0.mk (hb); have n2_ := Aside0.mk (hi); clear BK359; clear HB; clear HI356; have BK359 := n0_; have HB := n1_; have HI356 := n2_; clear n0_ n1_ n2_; (try clear hb); (try clear hb2); (try clear hk); (try clear hi)) | ((with_reducible refine gate_callee (f := 49) rfl ?_); refine goesL_ (some 32) rfl rfl Try.func49 (by kernel_rfl) rfl #[.pointer (some ⟨g356, 0, none⟩)] rfl (by (try simp only [List.map_toArray, List.map_cons, List.map_nil]); first | done | rfl | (simp only [List.length_drop, List.length_take]; rfl) | (refine congrArg (fun z_ => #[z_]) (congrArg (Value.int IntKind.u64) (Eq.symm (Go.Proofs.YtjfklfmfeghjnaaAid.wrap_len _ (by omega)))))) ?_; (with_reducible refine (cursor_Cursor_Err.calls g356 t361 t362 t363 t364 t365 t366 t367 w _ ?side1 ?side2 A14.out).mono ?_); (case side1 => repeat (first | (with_reducible first | exact HI356.out | apply IsS102.alloc | apply IsS102.drewN | apply IsS102.drew | apply IsS102.set_0 | apply IsS102.set_1 | apply IsS102.set_2 | refine IsS102.far ?_ NB356_359.out _) | exact HI356.out)); (case side2 => repeat (first | (with_reducible first | exact HB.out | apply below_alloc | apply pw_below_drewN | apply below_drew1 | refine below_set ?_ (IsS102.ge HI356.out) | refine below_set ?_ GE359.out) | exact HB.out)); rintro e w20 ⟨rfl, hi, hb, hk⟩; refine ⟨_, rfl, ?_⟩; have n0_ := Aside0.mk (KeepBut.blk hk (g' := gb359) (o := .cells #[.int .i64 ((rd_T61 l1 x25_2).f0), .int .i64 ((rd_T61 l1 x25_2).f1)] 61 (0, 0)) (by (with_reducible repeat (first | refine blk_drewN ?_ _ | refine blk_drew ?_ | refine blk_alloc ?_ _)); exact BK359.out) NB359_356.out (by simp)); have n1_ := Aside0.mk (hb); have n2_ := Aside0.mk (hi); clear BK359; clear HB; clear HI356; have BK359 := n0_; have HB := n1_; have HI356 := n2_; clear n0_ n1_ n2_; (try clear hb); (try clear hb2); (try clear hk); (try clear hi); have hcz21_0 : w20.cell? ⟨gb359, 0, none⟩ = some (.int .i64 ((rd_T61 l1 x25_2).f0)) := (blk_cell BK359.out 0).trans rfl; have hcz21_1 : w20.cell? ⟨gb359, 1, none⟩ = some (.int .i64 ((rd_T61 l1 x25_2).f1)) := (blk_cell BK359.out 1).trans rfl; have hfz21_0 := blk_frozen BK359.out 0; have hfz21_1 := blk_frozen BK359.out 1))
                  (try simp only [Act.put, List.setIfInBounds_toArray, List.set_cons_zero, List.set_cons_succ])
                  go_cut [] (fun wc => ∃ (kq : Nat) (x357000_14 : ByteArray) (x357001_14 : Int) (x357002_14 : Int), Aside0 (tachographlaw03_CursorNever.j2 kq l0 t360 t364 l1 (l1.length : Int) x25_2 x357000_14 x357001_14 x357002_14 = some r) ∧ Aside0 (kq ≤ k2) ∧ Aside0 (wc.heap[gb359]? = some (.cells #[.int .i64 ((rd_T61 l1 x25_2).f0), .int .i64 ((rd_T61 l1 x25_2).f1)] 61 (0, 0))) ∧ Aside0 (IsS102 w wc g356 x357000_14 x357001_14 x357002_14) ∧ Aside0 (Below w.heap.size w wc))
                  case first =>
                    have H := HC15.out
                    clear HC15
                    by_cases c22 : ((rd_T61 l1 x25_2).f0) = 0
                    · rw [if_pos c22] at H
                      have c22b0 : (((rd_T61 l1 x25_2).f0) == 0) = true := beq_iff_eq.mpr c22
                      have c22b1 : (((rd_T61 l1 x25_2).f0) != 0) = false := bne_eq_false_iff_eq.mpr c22
                      clear c22
                      (first | rw [c22b0] | (simp only [i64_w, i32_w]; rw [c22b0]) | skip)
                      replace H := Option.bind_eq_some_iff.mp H
                      obtain ⟨⟨t368, t369, t370, t371⟩, A230, H⟩ := H
                      replace H : (tachographlaw03_CursorNever.j2 k2 l0 t360 t364 l1 (l1.length : Int) x25_2 t369 t370 t371) = some r := H
                      have A23 := Aside0.mk A230
                      clear A230
                      have H' := Aside0.mk H
                      clear H
                      go_wp2_with (first | ((with_reducible refine gate_callee (f := 36) rfl ?_); refine goesL_ (some 38) rfl rfl Try.func36 (by kernel_rfl) rfl #[.pointer (some ⟨g356, 0, none⟩)] rfl (by (try simp only [List.map_toArray, List.map_cons, List.map_nil]); first | done | rfl | (simp only [List.length_drop, List.length_take]; rfl) | (refine congrArg (fun z_ => #[z_]) (congrArg (Value.int IntKind.u64) (Eq.symm (Go.Proofs.YtjfklfmfeghjnaaAid.wrap_len _ (by omega)))))) ?_; (with_reducible refine (cursor_Cursor_Byte.calls g356 t365 t366 t367 t368 t369 t370 t371 w _ ?side1 ?side2 A23.out).mono ?_); (case side1 => repeat (first | (with_reducible first | exact HI356.out | apply IsS102.alloc | apply IsS102.drewN | apply IsS102.drew | apply IsS102.set_0 | apply IsS102.set_1 | apply IsS102.set_2 | refine IsS102.far ?_ NB356_359.out _) | exact HI356.out)); (case side2 => repeat (first | (with_reducible first | exact HB.out | apply below_alloc | apply pw_below_drewN | apply below_drew1 | refine below_set ?_ (IsS102.ge HI356.out) | refine below_set ?_ GE359.out) | exact HB.out)); rintro e w24 ⟨rfl, hi, hb, hk⟩; refine ⟨_, rfl, ?_⟩; have n0_ := Aside0.mk (KeepBut.blk hk (g' := gb359) (o := .cells #[.int .i64 ((rd_T61 l1 x25_2).f0), .int .i64 ((rd_T61 l1 x25_2).f1)] 61 (0, 0)) (by (with_reducible repeat (first | refine blk_drewN ?_ _ | refine blk_drew ?_ | refine blk_alloc ?_ _)); exact BK359.out) NB359_356.out (by simp)); have n1_ := Aside0.mk (hb); have n2_ := Aside0.mk (hi); clear BK359; clear HB; clear HI356; have BK359 := n0_; have HB := n1_; have HI356 := n2_; clear n0_ n1_ n2_; (try clear hb); (try clear hb2); (try clear hk); (try clear hi)))
                      go_meet
                      case rel => exact ⟨_, (t369), (t370), (t371), H', ⟨by have := HJ2.out; have := HK2.out; first | omega | exact Nat.le_refl _⟩, ⟨by (with_reducible repeat (first | refine blk_drewN ?_ _ | refine blk_drew ?_ | refine blk_alloc ?_ _)); exact BK359.out⟩, ⟨by repeat (first | (with_reducible first | exact HI356.out | apply IsS102.alloc | apply IsS102.drewN | apply IsS102.drew | apply IsS102.set_0 | apply IsS102.set_1 | apply IsS102.set_2 | refine IsS102.far ?_ NB356_359.out _) | exact HI356.out)⟩, ⟨by repeat (first | (with_reducible first | exact HB.out | apply below_alloc | apply pw_below_drewN | apply below_drew1 | refine below_set ?_ (IsS102.ge HI356.out) | refine below_set ?_ GE359.out) | exact HB.out)⟩⟩
                    · rw [if_neg c22] at H
                      have c22b0 : (((rd_T61 l1 x25_2).f0) == 0) = false := beq_eq_false_iff_ne.mpr c22
                      have c22b1 : (((rd_T61 l1 x25_2).f0) != 0) = true := bne_iff_ne.mpr c22
                      (first | rw [c22b0] | (simp only [i64_w, i32_w]; rw [c22b0]) | skip)
                      by_cases c25 : ((rd_T61 l1 x25_2).f0) = 1
                      · rw [if_pos c25] at H
                        have c25b0 : (((rd_T61 l1 x25_2).f0) == 1) = true := beq_iff_eq.mpr c25
                        have c25b1 : (((rd_T61 l1 x25_2).f0) != 1) = false := bne_eq_false_iff_eq.mpr c25
                        clear c25
                        replace H := Option.bind_eq_some_iff.mp H
                        obtain ⟨⟨t372, t373, t374, t375⟩, A260, H⟩ := H
                        replace H : (tachographlaw03_CursorNever.j2 k2 l0 t360 t364 l1 (l1.length : Int) x25_2 t373 t374 t375) = some r := H
                        have A26 := Aside0.mk A260
                        clear A260
                        have H' := Aside0.mk H
                        clear H
                        have hnb27 := NB359_356.out
                        have hnc27 := NB356_359.out
                        have hcz28_0 : w20.cell? ⟨gb359, 0, none⟩ = some (.int .i64 ((rd_T61 l1 x25_2).f0)) := (blk_cell BK359.out 0).trans rfl
                        have hcz28_1 : w20.cell? ⟨gb359, 1, none⟩ = some (.int .i64 ((rd_T61 l1 x25_2).f1)) := (blk_cell BK359.out 1).trans rfl
                        have hfz28_0 := blk_frozen BK359.out 0
                        have hfz28_1 := blk_frozen BK359.out 1
                        go_wp2_with (first | ((with_reducible refine gate_callee (f := 38) rfl ?_); refine goesL_ (some 45) rfl rfl Try.func38 (by kernel_rfl) rfl #[.pointer (some ⟨g356, 0, none⟩), .int .u64 (IntKind.u64.wrap ((rd_T61 l1 x25_2).f1))] rfl (by (try simp only [List.map_toArray, List.map_cons, List.map_nil]); first | done | rfl | (simp only [List.length_drop, List.length_take]; rfl) | (refine congrArg (fun z_ => #[z_]) (congrArg (Value.int IntKind.u64) (Eq.symm (Go.Proofs.YtjfklfmfeghjnaaAid.wrap_len _ (by omega)))))) ?_; (with_reducible refine (cursor_Cursor_Number.calls k2 g356 t365 t366 t367 (IntKind.u64.wrap ((rd_T61 l1 x25_2).f1)) t372 t373 t374 t375 w _ ?side1 ?side2 A26.out).mono ?_); (case side1 => repeat (first | (with_reducible first | exact HI356.out | apply IsS102.alloc | apply IsS102.drewN | apply IsS102.drew | apply IsS102.set_0 | apply IsS102.set_1 | apply IsS102.set_2 | refine IsS102.far ?_ NB356_359.out _) | exact HI356.out)); (case side2 => repeat (first | (with_reducible first | exact HB.out | apply below_alloc | apply pw_below_drewN | apply below_drew1 | refine below_set ?_ (IsS102.ge HI356.out) | refine below_set ?_ GE359.out) | exact HB.out)); rintro e w29 ⟨rfl, hi, hb, hk⟩; refine ⟨_, rfl, ?_⟩; have n0_ := Aside0.mk (KeepBut.blk hk (g' := gb359) (o := .cells #[.int .i64 ((rd_T61 l1 x25_2).f0), .int .i64 ((rd_T61 l1 x25_2).f1)] 61 (0, 0)) (by (with_reducible repeat (first | refine blk_drewN ?_ _ | refine blk_drew ?_ | refine blk_alloc ?_ _)); exact BK359.out) NB359_356.out (by simp)); have n1_ := Aside0.mk (hb); have n2_ := Aside0.mk (hi); clear BK359; clear HB; clear HI356; have BK359 := n0_; have HB := n1_; have HI356 := n2_; clear n0_ n1_ n2_; (try clear hb); (try clear hb2); (try clear hk); (try clear hi)))
                        go_meet
                        case rel => exact ⟨_, (t373), (t374), (t375), H', ⟨by have := HJ2.out; have := HK2.out; first | omega | exact Nat.le_refl _⟩, ⟨by (with_reducible repeat (first | refine blk_drewN ?_ _ | refine blk_drew ?_ | refine blk_alloc ?_ _)); exact BK359.out⟩, ⟨by repeat (first | (with_reducible first | exact HI356.out | apply IsS102.alloc | apply IsS102.drewN | apply IsS102.drew | apply IsS102.set_0 | apply IsS102.set_1 | apply IsS102.set_2 | refine IsS102.far ?_ NB356_359.out _) | exact HI356.out)⟩, ⟨by repeat (first | (with_reducible first | exact HB.out | apply below_alloc | apply pw_below_drewN | apply below_drew1 | refine below_set ?_ (IsS102.ge HI356.out) | refine below_set ?_ GE359.out) | exact HB.out)⟩⟩
                      · rw [if_neg c25] at H
                        have c25b0 : (((rd_T61 l1 x25_2).f0) == 1) = false := beq_eq_false_iff_ne.mpr c25
                        have c25b1 : (((rd_T61 l1 x25_2).f0) != 1) = true := bne_iff_ne.mpr c25
                        by_cases c30 : ((rd_T61 l1 x25_2).f0) = 2
                        · rw [if_pos c30] at H
                          have c30b0 : (((rd_T61 l1 x25_2).f0) == 2) = true := beq_iff_eq.mpr c30
                          have c30b1 : (((rd_T61 l1 x25_2).f0) != 2) = false := bne_eq_false_iff_eq.mpr c30
                          clear c30
                          replace H := Option.bind_eq_some_iff.mp H
                          obtain ⟨⟨t376, t377, t378, t379⟩, A310, H⟩ := H
                          replace H : (tachographlaw03_CursorNever.j2 k2 l0 t360 t364 l1 (l1.length : Int) x25_2 t377 t378 t379) = some r := H
                          have A31 := Aside0.mk A310
                          clear A310
                          have H' := Aside0.mk H
                          clear H
                          go_wp2_with (first | ((with_reducible refine gate_callee (f := 40) rfl ?_); refine goesL_ (some 49) rfl rfl Try.func40 (by kernel_rfl) rfl #[.pointer (some ⟨g356, 0, none⟩)] rfl (by (try simp only [List.map_toArray, List.map_cons, List.map_nil]); first | done | rfl | (simp only [List.length_drop, List.length_take]; rfl) | (refine congrArg (fun z_ => #[z_]) (congrArg (Value.int IntKind.u64) (Eq.symm (Go.Proofs.YtjfklfmfeghjnaaAid.wrap_len _ (by omega)))))) ?_; (with_reducible refine (cursor_Cursor_Signed.calls k2 g356 t365 t366 t367 t376 t377 t378 t379 w _ ?side1 ?side2 A31.out).mono ?_); (case side1 => repeat (first | (with_reducible first | exact HI356.out | apply IsS102.alloc | apply IsS102.drewN | apply IsS102.drew | apply IsS102.set_0 | apply IsS102.set_1 | apply IsS102.set_2 | refine IsS102.far ?_ NB356_359.out _) | exact HI356.out)); (case side2 => repeat (first | (with_reducible first | exact HB.out | apply below_alloc | apply pw_below_drewN | apply below_drew1 | refine below_set ?_ (IsS102.ge HI356.out) | refine below_set ?_ GE359.out) | exact HB.out)); rintro e w32 ⟨rfl, hi, hb, hk⟩; refine ⟨_, rfl, ?_⟩; have n0_ := Aside0.mk (KeepBut.blk hk (g' := gb359) (o := .cells #[.int .i64 ((rd_T61 l1 x25_2).f0), .int .i64 ((rd_T61 l1 x25_2).f1)] 61 (0, 0)) (by (with_reducible repeat (first | refine blk_drewN ?_ _ | refine blk_drew ?_ | refine blk_alloc ?_ _)); exact BK359.out) NB359_356.out (by simp)); have n1_ := Aside0.mk (hb); have n2_ := Aside0.mk (hi); clear BK359; clear HB; clear HI356; have BK359 := n0_; have HB := n1_; have HI356 := n2_; clear n0_ n1_ n2_; (try clear hb); (try clear hb2); (try clear hk); (try clear hi)))
                          go_meet
                          case rel => exact ⟨_, (t377), (t378), (t379), H', ⟨by have := HJ2.out; have := HK2.out; first | omega | exact Nat.le_refl _⟩, ⟨by (with_reducible repeat (first | refine blk_drewN ?_ _ | refine blk_drew ?_ | refine blk_alloc ?_ _)); exact BK359.out⟩, ⟨by repeat (first | (with_reducible first | exact HI356.out | apply IsS102.alloc | apply IsS102.drewN | apply IsS102.drew | apply IsS102.set_0 | apply IsS102.set_1 | apply IsS102.set_2 | refine IsS102.far ?_ NB356_359.out _) | exact HI356.out)⟩, ⟨by repeat (first | (with_reducible first | exact HB.out | apply below_alloc | apply pw_below_drewN | apply below_drew1 | refine below_set ?_ (IsS102.ge HI356.out) | refine below_set ?_ GE359.out) | exact HB.out)⟩⟩
                        · rw [if_neg c30] at H
                          have c30b0 : (((rd_T61 l1 x25_2).f0) == 2) = false := beq_eq_false_iff_ne.mpr c30
                          have c30b1 : (((rd_T61 l1 x25_2).f0) != 2) = true := bne_iff_ne.mpr c30
                          by_cases c33 : ((rd_T61 l1 x25_2).f0) = 3
                          · rw [if_pos c33] at H
                            have c33b0 : (((rd_T61 l1 x25_2).f0) == 3) = true := beq_iff_eq.mpr c33
                            have c33b1 : (((rd_T61 l1 x25_2).f0) != 3) = false := bne_eq_false_iff_eq.mpr c33
                            clear c33
                            replace H := Option.bind_eq_some_iff.mp H
                            obtain ⟨⟨t380, t381, t382, t383⟩, A340, H⟩ := H
                            replace H : (tachographlaw03_CursorNever.j2 k2 l0 t360 t364 l1 (l1.length : Int) x25_2 t381 t382 t383) = some r := H
                            have A34 := Aside0.mk A340
                            clear A340
                            have H' := Aside0.mk H
                            clear H
                            have hnb35 := NB359_356.out
                            have hnc35 := NB356_359.out
                            have hcz36_0 : w20.cell? ⟨gb359, 0, none⟩ = some (.int .i64 ((rd_T61 l1 x25_2).f0)) := (blk_cell BK359.out 0).trans rfl
                            have hcz36_1 : w20.cell? ⟨gb359, 1, none⟩ = some (.int .i64 ((rd_T61 l1 x25_2).f1)) := (blk_cell BK359.out 1).trans rfl
                            have hfz36_0 := blk_frozen BK359.out 0
                            have hfz36_1 := blk_frozen BK359.out 1
                            go_wp2_with (first | ((with_reducible refine gate_callee (f := 42) rfl ?_); refine goesL_ (some 55) rfl rfl Try.func42 (by kernel_rfl) rfl #[.pointer (some ⟨g356, 0, none⟩), .int .i64 ((rd_T61 l1 x25_2).f1)] rfl (by (try simp only [List.map_toArray, List.map_cons, List.map_nil]); first | done | rfl | (simp only [List.length_drop, List.length_take]; rfl) | (refine congrArg (fun z_ => #[z_]) (congrArg (Value.int IntKind.u64) (Eq.symm (Go.Proofs.YtjfklfmfeghjnaaAid.wrap_len _ (by omega)))))) ?_; (with_reducible refine (cursor_Cursor_Text.calls k2 g356 t365 t366 t367 ((rd_T61 l1 x25_2).f1) t380 t381 t382 t383 w _ ?side1 ?side2 A34.out).mono ?_); (case side1 => repeat (first | (with_reducible first | exact HI356.out | apply IsS102.alloc | apply IsS102.drewN | apply IsS102.drew | apply IsS102.set_0 | apply IsS102.set_1 | apply IsS102.set_2 | refine IsS102.far ?_ NB356_359.out _) | exact HI356.out)); (case side2 => repeat (first | (with_reducible first | exact HB.out | apply below_alloc | apply pw_below_drewN | apply below_drew1 | refine below_set ?_ (IsS102.ge HI356.out) | refine below_set ?_ GE359.out) | exact HB.out)); rintro e w37 ⟨rfl, hi, hb, hk⟩; refine ⟨_, rfl, ?_⟩; have n0_ := Aside0.mk (KeepBut.blk hk (g' := gb359) (o := .cells #[.int .i64 ((rd_T61 l1 x25_2).f0), .int .i64 ((rd_T61 l1 x25_2).f1)] 61 (0, 0)) (by (with_reducible repeat (first | refine blk_drewN ?_ _ | refine blk_drew ?_ | refine blk_alloc ?_ _)); exact BK359.out) NB359_356.out (by simp)); have n1_ := Aside0.mk (hb); have n2_ := Aside0.mk (hi); clear BK359; clear HB; clear HI356; have BK359 := n0_; have HB := n1_; have HI356 := n2_; clear n0_ n1_ n2_; (try clear hb); (try clear hb2); (try clear hk); (try clear hi)))
                            go_meet
                            case rel => exact ⟨_, (t381), (t382), (t383), H', ⟨by have := HJ2.out; have := HK2.out; first | omega | exact Nat.le_refl _⟩, ⟨by (with_reducible repeat (first | refine blk_drewN ?_ _ | refine blk_drew ?_ | refine blk_alloc ?_ _)); exact BK359.out⟩, ⟨by repeat (first | (with_reducible first | exact HI356.out | apply IsS102.alloc | apply IsS102.drewN | apply IsS102.drew | apply IsS102.set_0 | apply IsS102.set_1 | apply IsS102.set_2 | refine IsS102.far ?_ NB356_359.out _) | exact HI356.out)⟩, ⟨by repeat (first | (with_reducible first | exact HB.out | apply below_alloc | apply pw_below_drewN | apply below_drew1 | refine below_set ?_ (IsS102.ge HI356.out) | refine below_set ?_ GE359.out) | exact HB.out)⟩⟩
                          · rw [if_neg c33] at H
                            have c33b0 : (((rd_T61 l1 x25_2).f0) == 3) = false := beq_eq_false_iff_ne.mpr c33
                            have c33b1 : (((rd_T61 l1 x25_2).f0) != 3) = true := bne_iff_ne.mpr c33
                            by_cases c38 : ((rd_T61 l1 x25_2).f0) = 4
                            · rw [if_pos c38] at H
                              have c38b0 : (((rd_T61 l1 x25_2).f0) == 4) = true := beq_iff_eq.mpr c38
                              have c38b1 : (((rd_T61 l1 x25_2).f0) != 4) = false := bne_eq_false_iff_eq.mpr c38
                              clear c38
                              replace H := Option.bind_eq_some_iff.mp H
                              obtain ⟨⟨t384, t385, t386, t387⟩, A390, H⟩ := H
                              replace H : (tachographlaw03_CursorNever.j2 k2 l0 t360 t364 l1 (l1.length : Int) x25_2 t385 t386 t387) = some r := H
                              have A39 := Aside0.mk A390
                              clear A390
                              have H' := Aside0.mk H
                              clear H
                              go_wp2_with (first | ((with_reducible refine gate_callee (f := 44) rfl ?_); refine goesL_ (some 59) rfl rfl Try.func44 (by kernel_rfl) rfl #[.pointer (some ⟨g356, 0, none⟩)] rfl (by (try simp only [List.map_toArray, List.map_cons, List.map_nil]); first | done | rfl | (simp only [List.length_drop, List.length_take]; rfl) | (refine congrArg (fun z_ => #[z_]) (congrArg (Value.int IntKind.u64) (Eq.symm (Go.Proofs.YtjfklfmfeghjnaaAid.wrap_len _ (by omega)))))) ?_; (with_reducible refine (cursor_Cursor_Done.calls g356 t365 t366 t367 t384 t385 t386 t387 w _ ?side1 ?side2 A39.out).mono ?_); (case side1 => repeat (first | (with_reducible first | exact HI356.out | apply IsS102.alloc | apply IsS102.drewN | apply IsS102.drew | apply IsS102.set_0 | apply IsS102.set_1 | apply IsS102.set_2 | refine IsS102.far ?_ NB356_359.out _) | exact HI356.out)); (case side2 => repeat (first | (with_reducible first | exact HB.out | apply below_alloc | apply pw_below_drewN | apply below_drew1 | refine below_set ?_ (IsS102.ge HI356.out) | refine below_set ?_ GE359.out) | exact HB.out)); rintro e w40 ⟨rfl, hi, hb, hk⟩; refine ⟨_, rfl, ?_⟩; have n0_ := Aside0.mk (KeepBut.blk hk (g' := gb359) (o := .cells #[.int .i64 ((rd_T61 l1 x25_2).f0), .int .i64 ((rd_T61 l1 x25_2).f1)] 61 (0, 0)) (by (with_reducible repeat (first | refine blk_drewN ?_ _ | refine blk_drew ?_ | refine blk_alloc ?_ _)); exact BK359.out) NB359_356.out (by simp)); have n1_ := Aside0.mk (hb); have n2_ := Aside0.mk (hi); clear BK359; clear HB; clear HI356; have BK359 := n0_; have HB := n1_; have HI356 := n2_; clear n0_ n1_ n2_; (try clear hb); (try clear hb2); (try clear hk); (try clear hi)))
                              go_meet
                              case rel => exact ⟨_, (t385), (t386), (t387), H', ⟨by have := HJ2.out; have := HK2.out; first | omega | exact Nat.le_refl _⟩, ⟨by (with_reducible repeat (first | refine blk_drewN ?_ _ | refine blk_drew ?_ | refine blk_alloc ?_ _)); exact BK359.out⟩, ⟨by repeat (first | (with_reducible first | exact HI356.out | apply IsS102.alloc | apply IsS102.drewN | apply IsS102.drew | apply IsS102.set_0 | apply IsS102.set_1 | apply IsS102.set_2 | refine IsS102.far ?_ NB356_359.out _) | exact HI356.out)⟩, ⟨by repeat (first | (with_reducible first | exact HB.out | apply below_alloc | apply pw_below_drewN | apply below_drew1 | refine below_set ?_ (IsS102.ge HI356.out) | refine below_set ?_ GE359.out) | exact HB.out)⟩⟩
                            · rw [if_neg c38] at H
                              have c38b0 : (((rd_T61 l1 x25_2).f0) == 4) = false := beq_eq_false_iff_ne.mpr c38
                              have c38b1 : (((rd_T61 l1 x25_2).f0) != 4) = true := bne_iff_ne.mpr c38
                              by_cases c41 : ((rd_T61 l1 x25_2).f0) = 5
                              · rw [if_pos c41] at H
                                have c41b0 : (((rd_T61 l1 x25_2).f0) == 5) = true := beq_iff_eq.mpr c41
                                have c41b1 : (((rd_T61 l1 x25_2).f0) != 5) = false := bne_eq_false_iff_eq.mpr c41
                                clear c41
                                replace H := Option.bind_eq_some_iff.mp H
                                obtain ⟨⟨t388, t389, t390⟩, A420, H⟩ := H
                                replace H : (tachographlaw03_CursorNever.j2 k2 l0 t360 t364 l1 (l1.length : Int) x25_2 t388 t389 t390) = some r := H
                                have A42 := Aside0.mk A420
                                clear A420
                                have H' := Aside0.mk H
                                clear H
                                have hnb43 := NB359_356.out
                                have hnc43 := NB356_359.out
                                have hcz44_0 : w20.cell? ⟨gb359, 0, none⟩ = some (.int .i64 ((rd_T61 l1 x25_2).f0)) := (blk_cell BK359.out 0).trans rfl
                                have hcz44_1 : w20.cell? ⟨gb359, 1, none⟩ = some (.int .i64 ((rd_T61 l1 x25_2).f1)) := (blk_cell BK359.out 1).trans rfl
                                have hfz44_0 := blk_frozen BK359.out 0
                                have hfz44_1 := blk_frozen BK359.out 1
                                go_wp2_with (first | ((with_reducible refine gate_callee (f := 45) rfl ?_); refine goesL_ (some 65) rfl rfl Try.func45 (by kernel_rfl) rfl #[.pointer (some ⟨g356, 0, none⟩), .int .i64 ((rd_T61 l1 x25_2).f1)] rfl (by (try simp only [List.map_toArray, List.map_cons, List.map_nil]); first | done | rfl | (simp only [List.length_drop, List.length_take]; rfl) | (refine congrArg (fun z_ => #[z_]) (congrArg (Value.int IntKind.u64) (Eq.symm (Go.Proofs.YtjfklfmfeghjnaaAid.wrap_len _ (by omega)))))) ?_; (with_reducible refine (cursor_Cursor_Stop.calls g356 t365 t366 t367 ((rd_T61 l1 x25_2).f1) t388 t389 t390 w _ ?side1 ?side2 A42.out).mono ?_); (case side1 => repeat (first | (with_reducible first | exact HI356.out | apply IsS102.alloc | apply IsS102.drewN | apply IsS102.drew | apply IsS102.set_0 | apply IsS102.set_1 | apply IsS102.set_2 | refine IsS102.far ?_ NB356_359.out _) | exact HI356.out)); (case side2 => repeat (first | (with_reducible first | exact HB.out | apply below_alloc | apply pw_below_drewN | apply below_drew1 | refine below_set ?_ (IsS102.ge HI356.out) | refine below_set ?_ GE359.out) | exact HB.out)); rintro e w45 ⟨rfl, hi, hb, hk⟩; refine ⟨_, rfl, ?_⟩; have n0_ := Aside0.mk (KeepBut.blk hk (g' := gb359) (o := .cells #[.int .i64 ((rd_T61 l1 x25_2).f0), .int .i64 ((rd_T61 l1 x25_2).f1)] 61 (0, 0)) (by (with_reducible repeat (first | refine blk_drewN ?_ _ | refine blk_drew ?_ | refine blk_alloc ?_ _)); exact BK359.out) NB359_356.out (by simp)); have n1_ := Aside0.mk (hb); have n2_ := Aside0.mk (hi); clear BK359; clear HB; clear HI356; have BK359 := n0_; have HB := n1_; have HI356 := n2_; clear n0_ n1_ n2_; (try clear hb); (try clear hb2); (try clear hk); (try clear hi)))
                                go_meet
                                case rel => exact ⟨_, (t388), (t389), (t390), H', ⟨by have := HJ2.out; have := HK2.out; first | omega | exact Nat.le_refl _⟩, ⟨by (with_reducible repeat (first | refine blk_drewN ?_ _ | refine blk_drew ?_ | refine blk_alloc ?_ _)); exact BK359.out⟩, ⟨by repeat (first | (with_reducible first | exact HI356.out | apply IsS102.alloc | apply IsS102.drewN | apply IsS102.drew | apply IsS102.set_0 | apply IsS102.set_1 | apply IsS102.set_2 | refine IsS102.far ?_ NB356_359.out _) | exact HI356.out)⟩, ⟨by repeat (first | (with_reducible first | exact HB.out | apply below_alloc | apply pw_below_drewN | apply below_drew1 | refine below_set ?_ (IsS102.ge HI356.out) | refine below_set ?_ GE359.out) | exact HB.out)⟩⟩
                              · rw [if_neg c41] at H
                                have c41b0 : (((rd_T61 l1 x25_2).f0) == 5) = false := beq_eq_false_iff_ne.mpr c41
                                have c41b1 : (((rd_T61 l1 x25_2).f0) != 5) = true := bne_iff_ne.mpr c41
                                have H' := Aside0.mk H
                                clear H
                                go_wp2
                                go_meet
                                case rel => exact ⟨_, (t365), (t366), (t367), H', ⟨by have := HJ2.out; have := HK2.out; first | omega | exact Nat.le_refl _⟩, ⟨by (with_reducible repeat (first | refine blk_drewN ?_ _ | refine blk_drew ?_ | refine blk_alloc ?_ _)); exact BK359.out⟩, ⟨by repeat (first | (with_reducible first | exact HI356.out | apply IsS102.alloc | apply IsS102.drewN | apply IsS102.drew | apply IsS102.set_0 | apply IsS102.set_1 | apply IsS102.set_2 | refine IsS102.far ?_ NB356_359.out _) | exact HI356.out)⟩, ⟨by repeat (first | (with_reducible first | exact HB.out | apply below_alloc | apply pw_below_drewN | apply below_drew1 | refine below_set ?_ (IsS102.ge HI356.out) | refine below_set ?_ GE359.out) | exact HB.out)⟩⟩
                  case rest =>
                    clear HC15
                    try clear c1
                    try clear c2
                    try clear p2
                    try clear c3
                    try clear p3
                    try clear q3
                    try clear hx3
                    try clear c4
                    try clear c4b0
                    try clear c4b1
                    try clear c5
                    try clear c10
                    try clear c10b0
                    try clear c11
                    try clear c11b0
                    try clear c12
                    try clear c12b0
                    try clear c17
                    try clear c22
                    try clear c22b0
                    try clear c22b1
                    try clear c25
                    try clear c25b0
                    try clear c25b1
                    try clear c27
                    try clear c30
                    try clear c30b0
                    try clear c30b1
                    try clear c33
                    try clear c33b0
                    try clear c33b1
                    try clear c34
                    try clear c35
                    try clear p35
                    try clear q35
                    try clear hx35
                    try clear c36
                    try clear c38
                    try clear c38b0
                    try clear c38b1
                    try clear c40
                    try clear c41
                    try clear c41b0
                    try clear c41b1
                    try clear c42
                    try clear c43
                    try clear c44
                    try clear c45
                    try clear hcz18_0
                    try clear hcz18_1
                    try clear hcz21_0
                    try clear hcz21_1
                    try clear hcz28_0
                    try clear hcz28_1
                    try clear hcz36_0
                    try clear hcz36_1
                    try clear hcz44_0
                    try clear hcz44_1
                    try clear hfz18_0
                    try clear hfz18_1
                    try clear hfz21_0
                    try clear hfz21_1
                    try clear hfz28_0
                    try clear hfz28_1
                    try clear hfz36_0
                    try clear hfz36_1
                    try clear hfz44_0
                    try clear hfz44_1
                    try clear hx358_0
                    try clear hx358_1
                    try clear p2
                    try clear p358
                    try clear q358
                    obtain ⟨kq, x357000_14, x357001_14, x357002_14, HA, HJ14, BK359, HI356, HB⟩ := hcut
                    cases kq with
                    | zero => exact absurd HA.out (by simp [tachographlaw03_CursorNever.j2])
                    | succ kj14 =>
                      have H := HA.out
                      clear HA
                      simp only [tachographlaw03_CursorNever.j2] at H
                      replace H := Option.bind_eq_some_iff.mp H
                      obtain ⟨⟨t391, t392, t393, t394⟩, A460, H⟩ := H
                      replace H : (if t391 < t360 then (some false) else ((cursor_Cursor_At.f t392 t393 t394).bind fun bt395 => (if bt395.1 > (l0.length : Int) then (some false) else ((cursor_Cursor_Left.f bt395.2.1 bt395.2.2.1 bt395.2.2.2).bind fun bt399 => ((cursor_Cursor_At.f bt399.2.1 bt399.2.2.1 bt399.2.2.2).bind fun bt403 => (if bt399.1 = (wrap64 ((l0.length : Int) - bt403.1)) then (if t364 = 0 then (tachographlaw03_CursorNever.l0 kj14 l0 l1 (l1.length : Int) (wrap64 (x25_2 + 1)) bt403.2.1 bt403.2.2.1 bt403.2.2.2) else ((cursor_Cursor_At.f bt403.2.1 bt403.2.2.1 bt403.2.2.2).bind fun bt407 => (if bt407.1 = t360 then ((cursor_Cursor_Err.f bt407.2.1 bt407.2.2.1 bt407.2.2.2).bind fun bt411 => (if bt411.1 = t364 then (tachographlaw03_CursorNever.l0 kj14 l0 l1 (l1.length : Int) (wrap64 (x25_2 + 1)) bt411.2.1 bt411.2.2.1 bt411.2.2.2) else (some false))) else (some false)))) else (some false))))))) = some r := H
                      have A46 := Aside0.mk A460
                      clear A460
                      by_cases c47 : t391 < t360
                      · rw [if_pos c47] at H
                        have c47b0 : decide (t391 < t360) = true := decide_eq_true c47
                        clear c47
                        obtain rfl := Option.some.inj H
                        go_wp2_with (first | ((with_reducible refine gate_callee (f := 47) rfl ?_); refine goesL_ (some 67) rfl rfl Try.func47 (by kernel_rfl) rfl #[.pointer (some ⟨g356, 0, none⟩)] rfl (by (try simp only [List.map_toArray, List.map_cons, List.map_nil]); first | done | rfl | (simp only [List.length_drop, List.length_take]; rfl) | (refine congrArg (fun z_ => #[z_]) (congrArg (Value.int IntKind.u64) (Eq.symm (Go.Proofs.YtjfklfmfeghjnaaAid.wrap_len _ (by omega)))))) ?_; (with_reducible refine (cursor_Cursor_At.calls g356 x357000_14 x357001_14 x357002_14 t391 t392 t393 t394 w _ ?side1 ?side2 A46.out).mono ?_); (case side1 => repeat (first | (with_reducible first | exact HI356.out | apply IsS102.alloc | apply IsS102.drewN | apply IsS102.drew | apply IsS102.set_0 | apply IsS102.set_1 | apply IsS102.set_2 | refine IsS102.far ?_ NB356_359.out _) | exact HI356.out)); (case side2 => repeat (first | (with_reducible first | exact HB.out | apply below_alloc | apply pw_below_drewN | apply below_drew1 | refine below_set ?_ (IsS102.ge HI356.out) | refine below_set ?_ GE359.out) | exact HB.out)); rintro e w48 ⟨rfl, hi, hb, hk⟩; refine ⟨_, rfl, ?_⟩; have n0_ := Aside0.mk (KeepBut.blk hk (g' := gb359) (o := .cells #[.int .i64 ((rd_T61 l1 x25_2).f0), .int .i64 ((rd_T61 l1 x25_2).f1)] 61 (0, 0)) (by (with_reducible repeat (first | refine blk_drewN ?_ _ | refine blk_drew ?_ | refine blk_alloc ?_ _)); exact BK359.out) NB359_356.out (by simp)); have n1_ := Aside0.mk (hb); have n2_ := Aside0.mk (hi); clear BK359; clear HB; clear HI356; have BK359 := n0_; have HB := n1_; have HI356 := n2_; clear n0_ n1_ n2_; (try clear hb); (try clear hb2); (try clear hk); (try clear hi)))
                        go_ret
                        exact ⟨by first | rfl | (simp [errW_none, errW_some] <;> rfl) | (simp [*, errW_none, errW_some] <;> rfl), by repeat (first | (with_reducible first | exact HB.out | apply below_alloc | apply pw_below_drewN | apply below_drew1 | refine below_set ?_ (IsS102.ge HI356.out) | refine below_set ?_ GE359.out) | exact HB.out)⟩
                      · rw [if_neg c47] at H
                        have c47b0 : decide (t391 < t360) = false := decide_eq_false c47
                        clear c47
                        replace H := Option.bind_eq_some_iff.mp H
                        obtain ⟨⟨t395, t396, t397, t398⟩, A490, H⟩ := H
                        replace H : (if t395 > (l0.length : Int) then (some false) else ((cursor_Cursor_Left.f t396 t397 t398).bind fun bt399 => ((cursor_Cursor_At.f bt399.2.1 bt399.2.2.1 bt399.2.2.2).bind fun bt403 => (if bt399.1 = (wrap64 ((l0.length : Int) - bt403.1)) then (if t364 = 0 then (tachographlaw03_CursorNever.l0 kj14 l0 l1 (l1.length : Int) (wrap64 (x25_2 + 1)) bt403.2.1 bt403.2.2.1 bt403.2.2.2) else ((cursor_Cursor_At.f bt403.2.1 bt403.2.2.1 bt403.2.2.2).bind fun bt407 => (if bt407.1 = t360 then ((cursor_Cursor_Err.f bt407.2.1 bt407.2.2.1 bt407.2.2.2).bind fun bt411 => (if bt411.1 = t364 then (tachographlaw03_CursorNever.l0 kj14 l0 l1 (l1.length : Int) (wrap64 (x25_2 + 1)) bt411.2.1 bt411.2.2.1 bt411.2.2.2) else (some false))) else (some false)))) else (some false))))) = some r := H
                        have A49 := Aside0.mk A490
                        clear A490
                        by_cases c50 : t395 > (l0.length : Int)
                        · rw [if_pos c50] at H
                          have c50b0 : decide ((l0.length : Int) < t395) = true := decide_eq_true c50
                          clear c50
                          obtain rfl := Option.some.inj H
                          go_wp2_with (first | ((with_reducible refine gate_callee (f := 47) rfl ?_); refine goesL_ (some 67) rfl rfl Try.func47 (by kernel_rfl) rfl #[.pointer (some ⟨g356, 0, none⟩)] rfl (by (try simp only [List.map_toArray, List.map_cons, List.map_nil]); first | done | rfl | (simp only [List.length_drop, List.length_take]; rfl) | (refine congrArg (fun z_ => #[z_]) (congrArg (Value.int IntKind.u64) (Eq.symm (Go.Proofs.YtjfklfmfeghjnaaAid.wrap_len _ (by omega)))))) ?_; (with_reducible refine (cursor_Cursor_At.calls g356 x357000_14 x357001_14 x357002_14 t391 t392 t393 t394 w _ ?side1 ?side2 A46.out).mono ?_); (case side1 => repeat (first | (with_reducible first | exact HI356.out | apply IsS102.alloc | apply IsS102.drewN | apply IsS102.drew | apply IsS102.set_0 | apply IsS102.set_1 | apply IsS102.set_2 | refine IsS102.far ?_ NB356_359.out _) | exact HI356.out)); (case side2 => repeat (first | (with_reducible first | exact HB.out | apply below_alloc | apply pw_below_drewN | apply below_drew1 | refine below_set ?_ (IsS102.ge HI356.out) | refine below_set ?_ GE359.out) | exact HB.out)); rintro e w51 ⟨rfl, hi, hb, hk⟩; refine ⟨_, rfl, ?_⟩; have n0_ := Aside0.mk (KeepBut.blk hk (g' := gb359) (o := .cells #[.int .i64 ((rd_T61 l1 x25_2).f0), .int .i64 ((rd_T61 l1 x25_2).f1)] 61 (0, 0)) (by (with_reducible repeat (first | refine blk_drewN ?_ _ | refine blk_drew ?_ | refine blk_alloc ?_ _)); exact BK359.out) NB359_356.out (by simp)); have n1_ := Aside0.mk (hb); have n2_ := Aside0.mk (hi); clear BK359; clear HB; clear HI356; have BK359 := n0_; have HB := n1_; have HI356 := n2_; clear n0_ n1_ n2_; (try clear hb); (try clear hb2); (try clear hk); (try clear hi)) | (go_at_call 47; (with_reducible refine (cursor_Cursor_At.calls g356 t392 t393 t394 t395 t396 t397 t398 w _ ?side1 ?side2 A49.out).mono ?_); (case side1 => repeat (first | (with_reducible first | exact HI356.out | apply IsS102.alloc | apply IsS102.drewN | apply IsS102.drew | apply IsS102.set_0 | apply IsS102.set_1 | apply IsS102.set_2 | refine IsS102.far ?_ NB356_359.out _) | exact HI356.out)); (case side2 => repeat (first | (with_reducible first | exact HB.out | apply below_alloc | apply pw_below_drewN | apply below_drew1 | refine below_set ?_ (IsS102.ge HI356.out) | refine below_set ?_ GE359.out) | exact HB.out)); rintro e w52 ⟨rfl, hi, hb, hk⟩; have n0_ := Aside0.mk (KeepBut.blk hk (g' := gb359) (o := .cells #[.int .i64 ((rd_T61 l1 x25_2).f0), .int .i64 ((rd_T61 l1 x25_2).f1)] 61 (0, 0)) (by (with_reducible repeat (first | refine blk_drewN ?_ _ | refine blk_drew ?_ | refine blk_alloc ?_ _)); exact BK359.out) NB359_356.out (by simp)); have n1_ := Aside0.mk (hb); have n2_ := Aside0.mk (hi); clear BK359; clear HB; clear HI356; have BK359 := n0_; have HB := n1_; have HI356 := n2_; clear n0_ n1_ n2_; (try clear hb); (try clear hb2); (try clear hk); (try clear hi)))
                          go_ret
                          exact ⟨by first | rfl | (simp [errW_none, errW_some] <;> rfl) | (simp [*, errW_none, errW_some] <;> rfl), by repeat (first | (with_reducible first | exact HB.out | apply below_alloc | apply pw_below_drewN | apply below_drew1 | refine below_set ?_ (IsS102.ge HI356.out) | refine below_set ?_ GE359.out) | exact HB.out)⟩
                        · rw [if_neg c50] at H
                          have c50b0 : decide ((l0.length : Int) < t395) = false := decide_eq_false c50
                          clear c50
                          replace H := Option.bind_eq_some_iff.mp H
                          obtain ⟨⟨t399, t400, t401, t402⟩, A530, H⟩ := H
                          replace H : ((cursor_Cursor_At.f t400 t401 t402).bind fun bt403 => (if t399 = (wrap64 ((l0.length : Int) - bt403.1)) then (if t364 = 0 then (tachographlaw03_CursorNever.l0 kj14 l0 l1 (l1.length : Int) (wrap64 (x25_2 + 1)) bt403.2.1 bt403.2.2.1 bt403.2.2.2) else ((cursor_Cursor_At.f bt403.2.1 bt403.2.2.1 bt403.2.2.2).bind fun bt407 => (if bt407.1 = t360 then ((cursor_Cursor_Err.f bt407.2.1 bt407.2.2.1 bt407.2.2.2).bind fun bt411 => (if bt411.1 = t364 then (tachographlaw03_CursorNever.l0 kj14 l0 l1 (l1.length : Int) (wrap64 (x25_2 + 1)) bt411.2.1 bt411.2.2.1 bt411.2.2.2) else (some false))) else (some false)))) else (some false))) = some r := H
                          have A53 := Aside0.mk A530
                          clear A530
                          replace H := Option.bind_eq_some_iff.mp H
                          obtain ⟨⟨t403, t404, t405, t406⟩, A540, H⟩ := H
                          replace H : (if t399 = (wrap64 ((l0.length : Int) - t403)) then (if t364 = 0 then (tachographlaw03_CursorNever.l0 kj14 l0 l1 (l1.length : Int) (wrap64 (x25_2 + 1)) t404 t405 t406) else ((cursor_Cursor_At.f t404 t405 t406).bind fun bt407 => (if bt407.1 = t360 then ((cursor_Cursor_Err.f bt407.2.1 bt407.2.2.1 bt407.2.2.2).bind fun bt411 => (if bt411.1 = t364 then (tachographlaw03_CursorNever.l0 kj14 l0 l1 (l1.length : Int) (wrap64 (x25_2 + 1)) bt411.2.1 bt411.2.2.1 bt411.2.2.2) else (some false))) else (some false)))) else (some false)) = some r := H
                          have A54 := Aside0.mk A540
                          clear A540
                          by_cases c55 : t399 = (wrap64 ((l0.length : Int) - t403))
                          · rw [if_pos c55] at H
                            have c55b0 : (t399 == (wrap64 ((l0.length : Int) - t403))) = true := beq_iff_eq.mpr c55
                            have c55b1 : (t399 != (wrap64 ((l0.length : Int) - t403))) = false := bne_eq_false_iff_eq.mpr c55
                            clear c55
                            by_cases c56 : t364 = 0
                            · rw [if_pos c56] at H
                              have c56b0 : (t364 == 0) = true := beq_iff_eq.mpr c56
                              have c56b1 : (t364 != 0) = false := bne_eq_false_iff_eq.mpr c56
                              clear c56
                              have H' := Aside0.mk H
                              clear H
                              go_wp2_with (first | ((with_reducible refine gate_callee (f := 47) rfl ?_); refine goesL_ (some 67) rfl rfl Try.func47 (by kernel_rfl) rfl #[.pointer (some ⟨g356, 0, none⟩)] rfl (by (try simp only [List.map_toArray, List.map_cons, List.map_nil]); first | done | rfl | (simp only [List.length_drop, List.length_take]; rfl) | (refine congrArg (fun z_ => #[z_]) (congrArg (Value.int IntKind.u64) (Eq.symm (Go.Proofs.YtjfklfmfeghjnaaAid.wrap_len _ (by omega)))))) ?_; (with_reducible refine (cursor_Cursor_At.calls g356 x357000_14 x357001_14 x357002_14 t391 t392 t393 t394 w _ ?side1 ?side2 A46.out).mono ?_); (case side1 => repeat (first | (with_reducible first | exact HI356.out | apply IsS102.alloc | apply IsS102.drewN | apply IsS102.drew | apply IsS102.set_0 | apply IsS102.set_1 | apply IsS102.set_2 | refine IsS102.far ?_ NB356_359.out _) | exact HI356.out)); (case side2 => repeat (first | (with_reducible first | exact HB.out | apply below_alloc | apply pw_below_drewN | apply below_drew1 | refine below_set ?_ (IsS102.ge HI356.out) | refine below_set ?_ GE359.out) | exact HB.out)); rintro e w57 ⟨rfl, hi, hb, hk⟩; refine ⟨_, rfl, ?_⟩; have n0_ := Aside0.mk (KeepBut.blk hk (g' := gb359) (o := .cells #[.int .i64 ((rd_T61 l1 x25_2).f0), .int .i64 ((rd_T61 l1 x25_2).f1)] 61 (0, 0)) (by (with_reducible repeat (first | refine blk_drewN ?_ _ | refine blk_drew ?_ | refine blk_alloc ?_ _)); exact BK359.out) NB359_356.out (by simp)); have n1_ := Aside0.mk (hb); have n2_ := Aside0.mk (hi); clear BK359; clear HB; clear HI356; have BK359 := n0_; have HB := n1_; have HI356 := n2_; clear n0_ n1_ n2_; (try clear hb); (try clear hb2); (try clear hk); (try clear hi)) | (go_at_call 47; (with_reducible refine (cursor_Cursor_At.calls g356 t392 t393 t394 t395 t396 t397 t398 w _ ?side1 ?side2 A49.out).mono ?_); (case side1 => repeat (first | (with_reducible first | exact HI356.out | apply IsS102.alloc | apply IsS102.drewN | apply IsS102.drew | apply IsS102.set_0 | apply IsS102.set_1 | apply IsS102.set_2 | refine IsS102.far ?_ NB356_359.out _) | exact HI356.out)); (case side2 => repeat (first | (with_reducible first | exact HB.out | apply below_alloc | apply pw_below_drewN | apply below_drew1 | refine below_set ?_ (IsS102.ge HI356.out) | refine below_set ?_ GE359.out) | exact HB.out)); rintro e w58 ⟨rfl, hi, hb, hk⟩; have n0_ := Aside0.mk (KeepBut.blk hk (g' := gb359) (o := .cells #[.int .i64 ((rd_T61 l1 x25_2).f0), .int .i64 ((rd_T61 l1 x25_2).f1)] 61 (0, 0)) (by (with_reducible repeat (first | refine blk_drewN ?_ _ | refine blk_drew ?_ | refine blk_alloc ?_ _)); exact BK359.out) NB359_356.out (by simp)); have n1_ := Aside0.mk (hb); have n2_ := Aside0.mk (hi); clear BK359; clear HB; clear HI356; have BK359 := n0_; have HB := n1_; have HI356 := n2_; clear n0_ n1_ n2_; (try clear hb); (try clear hb2); (try clear hk); (try clear hi)) | (go_at_call 48; (with_reducible refine (cursor_Cursor_Left.calls g356 t396 t397 t398 t399 t400 t401 t402 w _ ?side1 ?side2 A53.out).mono ?_); (case side1 => repeat (first | (with_reducible first | exact HI356.out | apply IsS102.alloc | apply IsS102.drewN | apply IsS102.drew | apply IsS102.set_0 | apply IsS102.set_1 | apply IsS102.set_2 | refine IsS102.far ?_ NB356_359.out _) | exact HI356.out)); (case side2 => repeat (first | (with_reducible first | exact HB.out | apply below_alloc | apply pw_below_drewN | apply below_drew1 | refine below_set ?_ (IsS102.ge HI356.out) | refine below_set ?_ GE359.out) | exact HB.out)); rintro e w59 ⟨rfl, hi, hb, hk⟩; have n0_ := Aside0.mk (KeepBut.blk hk (g' := gb359) (o := .cells #[.int .i64 ((rd_T61 l1 x25_2).f0), .int .i64 ((rd_T61 l1 x25_2).f1)] 61 (0, 0)) (by (with_reducible repeat (first | refine blk_drewN ?_ _ | refine blk_drew ?_ | refine blk_alloc ?_ _)); exact BK359.out) NB359_356.out (by simp)); have n1_ := Aside0.mk (hb); have n2_ := Aside0.mk (hi); clear BK359; clear HB; clear HI356; have BK359 := n0_; have HB := n1_; have HI356 := n2_; clear n0_ n1_ n2_; (try clear hb); (try clear hb2); (try clear hk); (try clear hi)) | (go_at_call 47; (with_reducible refine (cursor_Cursor_At.calls g356 t400 t401 t402 t403 t404 t405 t406 w _ ?side1 ?side2 A54.out).mono ?_); (case side1 => repeat (first | (with_reducible first | exact HI356.out | apply IsS102.alloc | apply IsS102.drewN | apply IsS102.drew | apply IsS102.set_0 | apply IsS102.set_1 | apply IsS102.set_2 | refine IsS102.far ?_ NB356_359.out _) | exact HI356.out)); (case side2 => repeat (first | (with_reducible first | exact HB.out | apply below_alloc | apply pw_below_drewN | apply below_drew1 | refine below_set ?_ (IsS102.ge HI356.out) | refine below_set ?_ GE359.out) | exact HB.out)); rintro e w60 ⟨rfl, hi, hb, hk⟩; have n0_ := Aside0.mk (KeepBut.blk hk (g' := gb359) (o := .cells #[.int .i64 ((rd_T61 l1 x25_2).f0), .int .i64 ((rd_T61 l1 x25_2).f1)] 61 (0, 0)) (by (with_reducible repeat (first | refine blk_drewN ?_ _ | refine blk_drew ?_ | refine blk_alloc ?_ _)); exact BK359.out) NB359_356.out (by simp)); have n1_ := Aside0.mk (hb); have n2_ := Aside0.mk (hi); clear BK359; clear HB; clear HI356; have BK359 := n0_; have HB := n1_; have HI356 := n2_; clear n0_ n1_ n2_; (try clear hb); (try clear hb2); (try clear hk); (try clear hi)))
                              go_roundg kj14
                              case measure => have := HJ2.out; have := HK2.out; have := HJ14.out; omega
                              case rel => exact ⟨(wrap64 (x25_2 + 1)), (t404), (t405), (t406), (by first | rfl | (simp; done) | (simp [*]; done)), H', ⟨by have := HJ2.out; have := HK2.out; have := HJ14.out; omega⟩, ⟨by repeat (first | (with_reducible first | exact HI356.out | apply IsS102.alloc | apply IsS102.drewN | apply IsS102.drew | apply IsS102.set_0 | apply IsS102.set_1 | apply IsS102.set_2 | refine IsS102.far ?_ NB356_359.out _) | exact HI356.out)⟩, ⟨by repeat (first | (with_reducible first | exact HB.out | apply below_alloc | apply pw_below_drewN | apply below_drew1 | refine below_set ?_ (IsS102.ge HI356.out) | refine below_set ?_ GE359.out) | exact HB.out)⟩⟩
                            · rw [if_neg c56] at H
                              have c56b0 : (t364 == 0) = false := beq_eq_false_iff_ne.mpr c56
                              have c56b1 : (t364 != 0) = true := bne_iff_ne.mpr c56
                              replace H := Option.bind_eq_some_iff.mp H
                              obtain ⟨⟨t407, t408, t409, t410⟩, A610, H⟩ := H
                              replace H : (if t407 = t360 then ((cursor_Cursor_Err.f t408 t409 t410).bind fun bt411 => (if bt411.1 = t364 then (tachographlaw03_CursorNever.l0 kj14 l0 l1 (l1.length : Int) (wrap64 (x25_2 + 1)) bt411.2.1 bt411.2.2.1 bt411.2.2.2) else (some false))) else (some false)) = some r := H
                              have A61 := Aside0.mk A610
                              clear A610
                              by_cases c62 : t407 = t360
                              · rw [if_pos c62] at H
                                have c62b0 : (t407 == t360) = true := beq_iff_eq.mpr c62
                                have c62b1 : (t407 != t360) = false := bne_eq_false_iff_eq.mpr c62
                                clear c62
                                replace H := Option.bind_eq_some_iff.mp H
                                obtain ⟨⟨t411, t412, t413, t414⟩, A630, H⟩ := H
                                replace H : (if t411 = t364 then (tachographlaw03_CursorNever.l0 kj14 l0 l1 (l1.length : Int) (wrap64 (x25_2 + 1)) t412 t413 t414) else (some false)) = some r := H
                                have A63 := Aside0.mk A630
                                clear A630
                                by_cases c64 : t411 = t364
                                · rw [if_pos c64] at H
                                  have c64b0 : (t411 == t364) = true := beq_iff_eq.mpr c64
                                  have c64b1 : (t411 != t364) = false := bne_eq_false_iff_eq.mpr c64
                                  clear c64
                                  have H' := Aside0.mk H
                                  clear H
                                  go_wp2_with (first | ((with_reducible refine gate_callee (f := 47) rfl ?_); refine goesL_ (some 67) rfl rfl Try.func47 (by kernel_rfl) rfl #[.pointer (some ⟨g356, 0, none⟩)] rfl (by (try simp only [List.map_toArray, List.map_cons, List.map_nil]); first | done | rfl | (simp only [List.length_drop, List.length_take]; rfl) | (refine congrArg (fun z_ => #[z_]) (congrArg (Value.int IntKind.u64) (Eq.symm (Go.Proofs.YtjfklfmfeghjnaaAid.wrap_len _ (by omega)))))) ?_; (with_reducible refine (cursor_Cursor_At.calls g356 x357000_14 x357001_14 x357002_14 t391 t392 t393 t394 w _ ?side1 ?side2 A46.out).mono ?_); (case side1 => repeat (first | (with_reducible first | exact HI356.out | apply IsS102.alloc | apply IsS102.drewN | apply IsS102.drew | apply IsS102.set_0 | apply IsS102.set_1 | apply IsS102.set_2 | refine IsS102.far ?_ NB356_359.out _) | exact HI356.out)); (case side2 => repeat (first | (with_reducible first | exact HB.out | apply below_alloc | apply pw_below_drewN | apply below_drew1 | refine below_set ?_ (IsS102.ge HI356.out) | refine below_set ?_ GE359.out) | exact HB.out)); rintro e w65 ⟨rfl, hi, hb, hk⟩; refine ⟨_, rfl, ?_⟩; have n0_ := Aside0.mk (KeepBut.blk hk (g' := gb359) (o := .cells #[.int .i64 ((rd_T61 l1 x25_2).f0), .int .i64 ((rd_T61 l1 x25_2).f1)] 61 (0, 0)) (by (with_reducible repeat (first | refine blk_drewN ?_ _ | refine blk_drew ?_ | refine blk_alloc ?_ _)); exact BK359.out) NB359_356.out (by simp)); have n1_ := Aside0.mk (hb); have n2_ := Aside0.mk (hi); clear BK359; clear HB; clear HI356; have BK359 := n0_; have HB := n1_; have HI356 := n2_; clear n0_ n1_ n2_; (try clear hb); (try clear hb2); (try clear hk); (try clear hi)) | (go_at_call 47; (with_reducible refine (cursor_Cursor_At.calls g356 t392 t393 t394 t395 t396 t397 t398 w _ ?side1 ?side2 A49.out).mono ?_); (case side1 => repeat (first | (with_reducible first | exact HI356.out | apply IsS102.alloc | apply IsS102.drewN | apply IsS102.drew | apply IsS102.set_0 | apply IsS102.set_1 | apply IsS102.set_2 | refine IsS102.far ?_ NB356_359.out _) | exact HI356.out)); (case side2 => repeat (first | (with_reducible first | exact HB.out | apply below_alloc | apply pw_below_drewN | apply below_drew1 | refine below_set ?_ (IsS102.ge HI356.out) | refine below_set ?_ GE359.out) | exact HB.out)); rintro e w66 ⟨rfl, hi, hb, hk⟩; have n0_ := Aside0.mk (KeepBut.blk hk (g' := gb359) (o := .cells #[.int .i64 ((rd_T61 l1 x25_2).f0), .int .i64 ((rd_T61 l1 x25_2).f1)] 61 (0, 0)) (by (with_reducible repeat (first | refine blk_drewN ?_ _ | refine blk_drew ?_ | refine blk_alloc ?_ _)); exact BK359.out) NB359_356.out (by simp)); have n1_ := Aside0.mk (hb); have n2_ := Aside0.mk (hi); clear BK359; clear HB; clear HI356; have BK359 := n0_; have HB := n1_; have HI356 := n2_; clear n0_ n1_ n2_; (try clear hb); (try clear hb2); (try clear hk); (try clear hi)) | (go_at_call 48; (with_reducible refine (cursor_Cursor_Left.calls g356 t396 t397 t398 t399 t400 t401 t402 w _ ?side1 ?side2 A53.out).mono ?_); (case side1 => repeat (first | (with_reducible first | exact HI356.out | apply IsS102.alloc | apply IsS102.drewN | apply IsS102.drew | apply IsS102.set_0 | apply IsS102.set_1 | apply IsS102.set_2 | refine IsS102.far ?_ NB356_359.out _) | exact HI356.out)); (case side2 => repeat (first | (with_reducible first | exact HB.out | apply below_alloc | apply pw_below_drewN | apply below_drew1 | refine below_set ?_ (IsS102.ge HI356.out) | refine below_set ?_ GE359.out) | exact HB.out)); rintro e w67 ⟨rfl, hi, hb, hk⟩; have n0_ := Aside0.mk (KeepBut.blk hk (g' := gb359) (o := .cells #[.int .i64 ((rd_T61 l1 x25_2).f0), .int .i64 ((rd_T61 l1 x25_2).f1)] 61 (0, 0)) (by (with_reducible repeat (first | refine blk_drewN ?_ _ | refine blk_drew ?_ | refine blk_alloc ?_ _)); exact BK359.out) NB359_356.out (by simp)); have n1_ := Aside0.mk (hb); have n2_ := Aside0.mk (hi); clear BK359; clear HB; clear HI356; have BK359 := n0_; have HB := n1_; have HI356 := n2_; clear n0_ n1_ n2_; (try clear hb); (try clear hb2); (try clear hk); (try clear hi)) | (go_at_call 47; (with_reducible refine (cursor_Cursor_At.calls g356 t400 t401 t402 t403 t404 t405 t406 w _ ?side1 ?side2 A54.out).mono ?_); (case side1 => repeat (first | (with_reducible first | exact HI356.out | apply IsS102.alloc | apply IsS102.drewN | apply IsS102.drew | apply IsS102.set_0 | apply IsS102.set_1 | apply IsS102.set_2 | refine IsS102.far ?_ NB356_359.out _) | exact HI356.out)); (case side2 => repeat (first | (with_reducible first | exact HB.out | apply below_alloc | apply pw_below_drewN | apply below_drew1 | refine below_set ?_ (IsS102.ge HI356.out) | refine below_set ?_ GE359.out) | exact HB.out)); rintro e w68 ⟨rfl, hi, hb, hk⟩; have n0_ := Aside0.mk (KeepBut.blk hk (g' := gb359) (o := .cells #[.int .i64 ((rd_T61 l1 x25_2).f0), .int .i64 ((rd_T61 l1 x25_2).f1)] 61 (0, 0)) (by (with_reducible repeat (first | refine blk_drewN ?_ _ | refine blk_drew ?_ | refine blk_alloc ?_ _)); exact BK359.out) NB359_356.out (by simp)); have n1_ := Aside0.mk (hb); have n2_ := Aside0.mk (hi); clear BK359; clear HB; clear HI356; have BK359 := n0_; have HB := n1_; have HI356 := n2_; clear n0_ n1_ n2_; (try clear hb); (try clear hb2); (try clear hk); (try clear hi)) | (go_at_call 47; (with_reducible refine (cursor_Cursor_At.calls g356 t404 t405 t406 t407 t408 t409 t410 w _ ?side1 ?side2 A61.out).mono ?_); (case side1 => repeat (first | (with_reducible first | exact HI356.out | apply IsS102.alloc | apply IsS102.drewN | apply IsS102.drew | apply IsS102.set_0 | apply IsS102.set_1 | apply IsS102.set_2 | refine IsS102.far ?_ NB356_359.out _) | exact HI356.out)); (case side2 => repeat (first | (with_reducible first | exact HB.out | apply below_alloc | apply pw_below_drewN | apply below_drew1 | refine below_set ?_ (IsS102.ge HI356.out) | refine below_set ?_ GE359.out) | exact HB.out)); rintro e w69 ⟨rfl, hi, hb, hk⟩; have n0_ := Aside0.mk (KeepBut.blk hk (g' := gb359) (o := .cells #[.int .i64 ((rd_T61 l1 x25_2).f0), .int .i64 ((rd_T61 l1 x25_2).f1)] 61 (0, 0)) (by (with_reducible repeat (first | refine blk_drewN ?_ _ | refine blk_drew ?_ | refine blk_alloc ?_ _)); exact BK359.out) NB359_356.out (by simp)); have n1_ := Aside0.mk (hb); have n2_ := Aside0.mk (hi); clear BK359; clear HB; clear HI356; have BK359 := n0_; have HB := n1_; have HI356 := n2_; clear n0_ n1_ n2_; (try clear hb); (try clear hb2); (try clear hk); (try clear hi)) | (go_at_call 49; (with_reducible refine (cursor_Cursor_Err.calls g356 t408 t409 t410 t411 t412 t413 t414 w _ ?side1 ?side2 A63.out).mono ?_); (case side1 => repeat (first | (with_reducible first | exact HI356.out | apply IsS102.alloc | apply IsS102.drewN | apply IsS102.drew | apply IsS102.set_0 | apply IsS102.set_1 | apply IsS102.set_2 | refine IsS102.far ?_ NB356_359.out _) | exact HI356.out)); (case side2 => repeat (first | (with_reducible first | exact HB.out | apply below_alloc | apply pw_below_drewN | apply below_drew1 | refine below_set ?_ (IsS102.ge HI356.out) | refine below_set ?_ GE359.out) | exact HB.out)); rintro e w70 ⟨rfl, hi, hb, hk⟩; have n0_ := Aside0.mk (KeepBut.blk hk (g' := gb359) (o := .cells #[.int .i64 ((rd_T61 l1 x25_2).f0), .int .i64 ((rd_T61 l1 x25_2).f1)] 61 (0, 0)) (by (with_reducible repeat (first | refine blk_drewN ?_ _ | refine blk_drew ?_ | refine blk_alloc ?_ _)); exact BK359.out) NB359_356.out (by simp)); have n1_ := Aside0.mk (hb); have n2_ := Aside0.mk (hi); clear BK359; clear HB; clear HI356; have BK359 := n0_; have HB := n1_; have HI356 := n2_; clear n0_ n1_ n2_; (try clear hb); (try clear hb2); (try clear hk); (try clear hi)))
                                  go_roundg kj14
                                  case measure => have := HJ2.out; have := HK2.out; have := HJ14.out; omega
                                  case rel => exact ⟨(wrap64 (x25_2 + 1)), (t412), (t413), (t414), (by first | rfl | (simp; done) | (simp [*]; done)), H', ⟨by have := HJ2.out; have := HK2.out; have := HJ14.out; omega⟩, ⟨by repeat (first | (with_reducible first | exact HI356.out | apply IsS102.alloc | apply IsS102.drewN | apply IsS102.drew | apply IsS102.set_0 | apply IsS102.set_1 | apply IsS102.set_2 | refine IsS102.far ?_ NB356_359.out _) | exact HI356.out)⟩, ⟨by repeat (first | (with_reducible first | exact HB.out | apply below_alloc | apply pw_below_drewN | apply below_drew1 | refine below_set ?_ (IsS102.ge HI356.out) | refine below_set ?_ GE359.out) | exact HB.out)⟩⟩
                                · rw [if_neg c64] at H
                                  have c64b0 : (t411 == t364) = false := beq_eq_false_iff_ne.mpr c64
                                  have c64b1 : (t411 != t364) = true := bne_iff_ne.mpr c64
                                  obtain rfl := Option.some.inj H
                                  go_wp2_with (first | ((with_reducible refine gate_callee (f := 47) rfl ?_); refine goesL_ (some 67) rfl rfl Try.func47 (by kernel_rfl) rfl #[.pointer (some ⟨g356, 0, none⟩)] rfl (by (try simp only [List.map_toArray, List.map_cons, List.map_nil]); first | done | rfl | (simp only [List.length_drop, List.length_take]; rfl) | (refine congrArg (fun z_ => #[z_]) (congrArg (Value.int IntKind.u64) (Eq.symm (Go.Proofs.YtjfklfmfeghjnaaAid.wrap_len _ (by omega)))))) ?_; (with_reducible refine (cursor_Cursor_At.calls g356 x357000_14 x357001_14 x357002_14 t391 t392 t393 t394 w _ ?side1 ?side2 A46.out).mono ?_); (case side1 => repeat (first | (with_reducible first | exact HI356.out | apply IsS102.alloc | apply IsS102.drewN | apply IsS102.drew | apply IsS102.set_0 | apply IsS102.set_1 | apply IsS102.set_2 | refine IsS102.far ?_ NB356_359.out _) | exact HI356.out)); (case side2 => repeat (first | (with_reducible first | exact HB.out | apply below_alloc | apply pw_below_drewN | apply below_drew1 | refine below_set ?_ (IsS102.ge HI356.out) | refine below_set ?_ GE359.out) | exact HB.out)); rintro e w71 ⟨rfl, hi, hb, hk⟩; refine ⟨_, rfl, ?_⟩; have n0_ := Aside0.mk (KeepBut.blk hk (g' := gb359) (o := .cells #[.int .i64 ((rd_T61 l1 x25_2).f0), .int .i64 ((rd_T61 l1 x25_2).f1)] 61 (0, 0)) (by (with_reducible repeat (first | refine blk_drewN ?_ _ | refine blk_drew ?_ | refine blk_alloc ?_ _)); exact BK359.out) NB359_356.out (by simp)); have n1_ := Aside0.mk (hb); have n2_ := Aside0.mk (hi); clear BK359; clear HB; clear HI356; have BK359 := n0_; have HB := n1_; have HI356 := n2_; clear n0_ n1_ n2_; (try clear hb); (try clear hb2); (try clear hk); (try clear hi)) | (go_at_call 47; (with_reducible refine (cursor_Cursor_At.calls g356 t392 t393 t394 t395 t396 t397 t398 w _ ?side1 ?side2 A49.out).mono ?_); (case side1 => repeat (first | (with_reducible first | exact HI356.out | apply IsS102.alloc | apply IsS102.drewN | apply IsS102.drew | apply IsS102.set_0 | apply IsS102.set_1 | apply IsS102.set_2 | refine IsS102.far ?_ NB356_359.out _) | exact HI356.out)); (case side2 => repeat (first | (with_reducible first | exact HB.out | apply below_alloc | apply pw_below_drewN | apply below_drew1 | refine below_set ?_ (IsS102.ge HI356.out) | refine below_set ?_ GE359.out) | exact HB.out)); rintro e w72 ⟨rfl, hi, hb, hk⟩; have n0_ := Aside0.mk (KeepBut.blk hk (g' := gb359) (o := .cells #[.int .i64 ((rd_T61 l1 x25_2).f0), .int .i64 ((rd_T61 l1 x25_2).f1)] 61 (0, 0)) (by (with_reducible repeat (first | refine blk_drewN ?_ _ | refine blk_drew ?_ | refine blk_alloc ?_ _)); exact BK359.out) NB359_356.out (by simp)); have n1_ := Aside0.mk (hb); have n2_ := Aside0.mk (hi); clear BK359; clear HB; clear HI356; have BK359 := n0_; have HB := n1_; have HI356 := n2_; clear n0_ n1_ n2_; (try clear hb); (try clear hb2); (try clear hk); (try clear hi)) | (go_at_call 48; (with_reducible refine (cursor_Cursor_Left.calls g356 t396 t397 t398 t399 t400 t401 t402 w _ ?side1 ?side2 A53.out).mono ?_); (case side1 => repeat (first | (with_reducible first | exact HI356.out | apply IsS102.alloc | apply IsS102.drewN | apply IsS102.drew | apply IsS102.set_0 | apply IsS102.set_1 | apply IsS102.set_2 | refine IsS102.far ?_ NB356_359.out _) | exact HI356.out)); (case side2 => repeat (first | (with_reducible first | exact HB.out | apply below_alloc | apply pw_below_drewN | apply below_drew1 | refine below_set ?_ (IsS102.ge HI356.out) | refine below_set ?_ GE359.out) | exact HB.out)); rintro e w73 ⟨rfl, hi, hb, hk⟩; have n0_ := Aside0.mk (KeepBut.blk hk (g' := gb359) (o := .cells #[.int .i64 ((rd_T61 l1 x25_2).f0), .int .i64 ((rd_T61 l1 x25_2).f1)] 61 (0, 0)) (by (with_reducible repeat (first | refine blk_drewN ?_ _ | refine blk_drew ?_ | refine blk_alloc ?_ _)); exact BK359.out) NB359_356.out (by simp)); have n1_ := Aside0.mk (hb); have n2_ := Aside0.mk (hi); clear BK359; clear HB; clear HI356; have BK359 := n0_; have HB := n1_; have HI356 := n2_; clear n0_ n1_ n2_; (try clear hb); (try clear hb2); (try clear hk); (try clear hi)) | (go_at_call 47; (with_reducible refine (cursor_Cursor_At.calls g356 t400 t401 t402 t403 t404 t405 t406 w _ ?side1 ?side2 A54.out).mono ?_); (case side1 => repeat (first | (with_reducible first | exact HI356.out | apply IsS102.alloc | apply IsS102.drewN | apply IsS102.drew | apply IsS102.set_0 | apply IsS102.set_1 | apply IsS102.set_2 | refine IsS102.far ?_ NB356_359.out _) | exact HI356.out)); (case side2 => repeat (first | (with_reducible first | exact HB.out | apply below_alloc | apply pw_below_drewN | apply below_drew1 | refine below_set ?_ (IsS102.ge HI356.out) | refine below_set ?_ GE359.out) | exact HB.out)); rintro e w74 ⟨rfl, hi, hb, hk⟩; have n0_ := Aside0.mk (KeepBut.blk hk (g' := gb359) (o := .cells #[.int .i64 ((rd_T61 l1 x25_2).f0), .int .i64 ((rd_T61 l1 x25_2).f1)] 61 (0, 0)) (by (with_reducible repeat (first | refine blk_drewN ?_ _ | refine blk_drew ?_ | refine blk_alloc ?_ _)); exact BK359.out) NB359_356.out (by simp)); have n1_ := Aside0.mk (hb); have n2_ := Aside0.mk (hi); clear BK359; clear HB; clear HI356; have BK359 := n0_; have HB := n1_; have HI356 := n2_; clear n0_ n1_ n2_; (try clear hb); (try clear hb2); (try clear hk); (try clear hi)) | (go_at_call 47; (with_reducible refine (cursor_Cursor_At.calls g356 t404 t405 t406 t407 t408 t409 t410 w _ ?side1 ?side2 A61.out).mono ?_); (case side1 => repeat (first | (with_reducible first | exact HI356.out | apply IsS102.alloc | apply IsS102.drewN | apply IsS102.drew | apply IsS102.set_0 | apply IsS102.set_1 | apply IsS102.set_2 | refine IsS102.far ?_ NB356_359.out _) | exact HI356.out)); (case side2 => repeat (first | (with_reducible first | exact HB.out | apply below_alloc | apply pw_below_drewN | apply below_drew1 | refine below_set ?_ (IsS102.ge HI356.out) | refine below_set ?_ GE359.out) | exact HB.out)); rintro e w75 ⟨rfl, hi, hb, hk⟩; have n0_ := Aside0.mk (KeepBut.blk hk (g' := gb359) (o := .cells #[.int .i64 ((rd_T61 l1 x25_2).f0), .int .i64 ((rd_T61 l1 x25_2).f1)] 61 (0, 0)) (by (with_reducible repeat (first | refine blk_drewN ?_ _ | refine blk_drew ?_ | refine blk_alloc ?_ _)); exact BK359.out) NB359_356.out (by simp)); have n1_ := Aside0.mk (hb); have n2_ := Aside0.mk (hi); clear BK359; clear HB; clear HI356; have BK359 := n0_; have HB := n1_; have HI356 := n2_; clear n0_ n1_ n2_; (try clear hb); (try clear hb2); (try clear hk); (try clear hi)) | (go_at_call 49; (with_reducible refine (cursor_Cursor_Err.calls g356 t408 t409 t410 t411 t412 t413 t414 w _ ?side1 ?side2 A63.out).mono ?_); (case side1 => repeat (first | (with_reducible first | exact HI356.out | apply IsS102.alloc | apply IsS102.drewN | apply IsS102.drew | apply IsS102.set_0 | apply IsS102.set_1 | apply IsS102.set_2 | refine IsS102.far ?_ NB356_359.out _) | exact HI356.out)); (case side2 => repeat (first | (with_reducible first | exact HB.out | apply below_alloc | apply pw_below_drewN | apply below_drew1 | refine below_set ?_ (IsS102.ge HI356.out) | refine below_set ?_ GE359.out) | exact HB.out)); rintro e w76 ⟨rfl, hi, hb, hk⟩; have n0_ := Aside0.mk (KeepBut.blk hk (g' := gb359) (o := .cells #[.int .i64 ((rd_T61 l1 x25_2).f0), .int .i64 ((rd_T61 l1 x25_2).f1)] 61 (0, 0)) (by (with_reducible repeat (first | refine blk_drewN ?_ _ | refine blk_drew ?_ | refine blk_alloc ?_ _)); exact BK359.out) NB359_356.out (by simp)); have n1_ := Aside0.mk (hb); have n2_ := Aside0.mk (hi); clear BK359; clear HB; clear HI356; have BK359 := n0_; have HB := n1_; have HI356 := n2_; clear n0_ n1_ n2_; (try clear hb); (try clear hb2); (try clear hk); (try clear hi)))
                                  go_ret
                                  exact ⟨by first | rfl | (simp [errW_none, errW_some] <;> rfl) | (simp [*, errW_none, errW_some] <;> rfl), by repeat (first | (with_reducible first | exact HB.out | apply below_alloc | apply pw_below_drewN | apply below_drew1 | refine below_set ?_ (IsS102.ge HI356.out) | refine below_set ?_ GE359.out) | exact HB.out)⟩
                              · rw [if_neg c62] at H
                                have c62b0 : (t407 == t360) = false := beq_eq_false_iff_ne.mpr c62
                                have c62b1 : (t407 != t360) = true := bne_iff_ne.mpr c62
                                obtain rfl := Option.some.inj H
                                go_wp2_with (first | ((with_reducible refine gate_callee (f := 47) rfl ?_); refine goesL_ (some 67) rfl rfl Try.func47 (by kernel_rfl) rfl #[.pointer (some ⟨g356, 0, none⟩)] rfl (by (try simp only [List.map_toArray, List.map_cons, List.map_nil]); first | done | rfl | (simp only [List.length_drop, List.length_take]; rfl) | (refine congrArg (fun z_ => #[z_]) (congrArg (Value.int IntKind.u64) (Eq.symm (Go.Proofs.YtjfklfmfeghjnaaAid.wrap_len _ (by omega)))))) ?_; (with_reducible refine (cursor_Cursor_At.calls g356 x357000_14 x357001_14 x357002_14 t391 t392 t393 t394 w _ ?side1 ?side2 A46.out).mono ?_); (case side1 => repeat (first | (with_reducible first | exact HI356.out | apply IsS102.alloc | apply IsS102.drewN | apply IsS102.drew | apply IsS102.set_0 | apply IsS102.set_1 | apply IsS102.set_2 | refine IsS102.far ?_ NB356_359.out _) | exact HI356.out)); (case side2 => repeat (first | (with_reducible first | exact HB.out | apply below_alloc | apply pw_below_drewN | apply below_drew1 | refine below_set ?_ (IsS102.ge HI356.out) | refine below_set ?_ GE359.out) | exact HB.out)); rintro e w77 ⟨rfl, hi, hb, hk⟩; refine ⟨_, rfl, ?_⟩; have n0_ := Aside0.mk (KeepBut.blk hk (g' := gb359) (o := .cells #[.int .i64 ((rd_T61 l1 x25_2).f0), .int .i64 ((rd_T61 l1 x25_2).f1)] 61 (0, 0)) (by (with_reducible repeat (first | refine blk_drewN ?_ _ | refine blk_drew ?_ | refine blk_alloc ?_ _)); exact BK359.out) NB359_356.out (by simp)); have n1_ := Aside0.mk (hb); have n2_ := Aside0.mk (hi); clear BK359; clear HB; clear HI356; have BK359 := n0_; have HB := n1_; have HI356 := n2_; clear n0_ n1_ n2_; (try clear hb); (try clear hb2); (try clear hk); (try clear hi)) | (go_at_call 47; (with_reducible refine (cursor_Cursor_At.calls g356 t392 t393 t394 t395 t396 t397 t398 w _ ?side1 ?side2 A49.out).mono ?_); (case side1 => repeat (first | (with_reducible first | exact HI356.out | apply IsS102.alloc | apply IsS102.drewN | apply IsS102.drew | apply IsS102.set_0 | apply IsS102.set_1 | apply IsS102.set_2 | refine IsS102.far ?_ NB356_359.out _) | exact HI356.out)); (case side2 => repeat (first | (with_reducible first | exact HB.out | apply below_alloc | apply pw_below_drewN | apply below_drew1 | refine below_set ?_ (IsS102.ge HI356.out) | refine below_set ?_ GE359.out) | exact HB.out)); rintro e w78 ⟨rfl, hi, hb, hk⟩; have n0_ := Aside0.mk (KeepBut.blk hk (g' := gb359) (o := .cells #[.int .i64 ((rd_T61 l1 x25_2).f0), .int .i64 ((rd_T61 l1 x25_2).f1)] 61 (0, 0)) (by (with_reducible repeat (first | refine blk_drewN ?_ _ | refine blk_drew ?_ | refine blk_alloc ?_ _)); exact BK359.out) NB359_356.out (by simp)); have n1_ := Aside0.mk (hb); have n2_ := Aside0.mk (hi); clear BK359; clear HB; clear HI356; have BK359 := n0_; have HB := n1_; have HI356 := n2_; clear n0_ n1_ n2_; (try clear hb); (try clear hb2); (try clear hk); (try clear hi)) | (go_at_call 48; (with_reducible refine (cursor_Cursor_Left.calls g356 t396 t397 t398 t399 t400 t401 t402 w _ ?side1 ?side2 A53.out).mono ?_); (case side1 => repeat (first | (with_reducible first | exact HI356.out | apply IsS102.alloc | apply IsS102.drewN | apply IsS102.drew | apply IsS102.set_0 | apply IsS102.set_1 | apply IsS102.set_2 | refine IsS102.far ?_ NB356_359.out _) | exact HI356.out)); (case side2 => repeat (first | (with_reducible first | exact HB.out | apply below_alloc | apply pw_below_drewN | apply below_drew1 | refine below_set ?_ (IsS102.ge HI356.out) | refine below_set ?_ GE359.out) | exact HB.out)); rintro e w79 ⟨rfl, hi, hb, hk⟩; have n0_ := Aside0.mk (KeepBut.blk hk (g' := gb359) (o := .cells #[.int .i64 ((rd_T61 l1 x25_2).f0), .int .i64 ((rd_T61 l1 x25_2).f1)] 61 (0, 0)) (by (with_reducible repeat (first | refine blk_drewN ?_ _ | refine blk_drew ?_ | refine blk_alloc ?_ _)); exact BK359.out) NB359_356.out (by simp)); have n1_ := Aside0.mk (hb); have n2_ := Aside0.mk (hi); clear BK359; clear HB; clear HI356; have BK359 := n0_; have HB := n1_; have HI356 := n2_; clear n0_ n1_ n2_; (try clear hb); (try clear hb2); (try clear hk); (try clear hi)) | (go_at_call 47; (with_reducible refine (cursor_Cursor_At.calls g356 t400 t401 t402 t403 t404 t405 t406 w _ ?side1 ?side2 A54.out).mono ?_); (case side1 => repeat (first | (with_reducible first | exact HI356.out | apply IsS102.alloc | apply IsS102.drewN | apply IsS102.drew | apply IsS102.set_0 | apply IsS102.set_1 | apply IsS102.set_2 | refine IsS102.far ?_ NB356_359.out _) | exact HI356.out)); (case side2 => repeat (first | (with_reducible first | exact HB.out | apply below_alloc | apply pw_below_drewN | apply below_drew1 | refine below_set ?_ (IsS102.ge HI356.out) | refine below_set ?_ GE359.out) | exact HB.out)); rintro e w80 ⟨rfl, hi, hb, hk⟩; have n0_ := Aside0.mk (KeepBut.blk hk (g' := gb359) (o := .cells #[.int .i64 ((rd_T61 l1 x25_2).f0), .int .i64 ((rd_T61 l1 x25_2).f1)] 61 (0, 0)) (by (with_reducible repeat (first | refine blk_drewN ?_ _ | refine blk_drew ?_ | refine blk_alloc ?_ _)); exact BK359.out) NB359_356.out (by simp)); have n1_ := Aside0.mk (hb); have n2_ := Aside0.mk (hi); clear BK359; clear HB; clear HI356; have BK359 := n0_; have HB := n1_; have HI356 := n2_; clear n0_ n1_ n2_; (try clear hb); (try clear hb2); (try clear hk); (try clear hi)) | (go_at_call 47; (with_reducible refine (cursor_Cursor_At.calls g356 t404 t405 t406 t407 t408 t409 t410 w _ ?side1 ?side2 A61.out).mono ?_); (case side1 => repeat (first | (with_reducible first | exact HI356.out | apply IsS102.alloc | apply IsS102.drewN | apply IsS102.drew | apply IsS102.set_0 | apply IsS102.set_1 | apply IsS102.set_2 | refine IsS102.far ?_ NB356_359.out _) | exact HI356.out)); (case side2 => repeat (first | (with_reducible first | exact HB.out | apply below_alloc | apply pw_below_drewN | apply below_drew1 | refine below_set ?_ (IsS102.ge HI356.out) | refine below_set ?_ GE359.out) | exact HB.out)); rintro e w81 ⟨rfl, hi, hb, hk⟩; have n0_ := Aside0.mk (KeepBut.blk hk (g' := gb359) (o := .cells #[.int .i64 ((rd_T61 l1 x25_2).f0), .int .i64 ((rd_T61 l1 x25_2).f1)] 61 (0, 0)) (by (with_reducible repeat (first | refine blk_drewN ?_ _ | refine blk_drew ?_ | refine blk_alloc ?_ _)); exact BK359.out) NB359_356.out (by simp)); have n1_ := Aside0.mk (hb); have n2_ := Aside0.mk (hi); clear BK359; clear HB; clear HI356; have BK359 := n0_; have HB := n1_; have HI356 := n2_; clear n0_ n1_ n2_; (try clear hb); (try clear hb2); (try clear hk); (try clear hi)))
                                go_ret
                                exact ⟨by first | rfl | (simp [errW_none, errW_some] <;> rfl) | (simp [*, errW_none, errW_some] <;> rfl), by repeat (first | (with_reducible first | exact HB.out | apply below_alloc | apply pw_below_drewN | apply below_drew1 | refine below_set ?_ (IsS102.ge HI356.out) | refine below_set ?_ GE359.out) | exact HB.out)⟩
                          · rw [if_neg c55] at H
                            have c55b0 : (t399 == (wrap64 ((l0.length : Int) - t403))) = false := beq_eq_false_iff_ne.mpr c55
                            have c55b1 : (t399 != (wrap64 ((l0.length : Int) - t403))) = true := bne_iff_ne.mpr c55
                            obtain rfl := Option.some.inj H
                            go_wp2_with (first | ((with_reducible refine gate_callee (f := 47) rfl ?_); refine goesL_ (some 67) rfl rfl Try.func47 (by kernel_rfl) rfl #[.pointer (some ⟨g356, 0, none⟩)] rfl (by (try simp only [List.map_toArray, List.map_cons, List.map_nil]); first | done | rfl | (simp only [List.length_drop, List.length_take]; rfl) | (refine congrArg (fun z_ => #[z_]) (congrArg (Value.int IntKind.u64) (Eq.symm (Go.Proofs.YtjfklfmfeghjnaaAid.wrap_len _ (by omega)))))) ?_; (with_reducible refine (cursor_Cursor_At.calls g356 x357000_14 x357001_14 x357002_14 t391 t392 t393 t394 w _ ?side1 ?side2 A46.out).mono ?_); (case side1 => repeat (first | (with_reducible first | exact HI356.out | apply IsS102.alloc | apply IsS102.drewN | apply IsS102.drew | apply IsS102.set_0 | apply IsS102.set_1 | apply IsS102.set_2 | refine IsS102.far ?_ NB356_359.out _) | exact HI356.out)); (case side2 => repeat (first | (with_reducible first | exact HB.out | apply below_alloc | apply pw_below_drewN | apply below_drew1 | refine below_set ?_ (IsS102.ge HI356.out) | refine below_set ?_ GE359.out) | exact HB.out)); rintro e w82 ⟨rfl, hi, hb, hk⟩; refine ⟨_, rfl, ?_⟩; have n0_ := Aside0.mk (KeepBut.blk hk (g' := gb359) (o := .cells #[.int .i64 ((rd_T61 l1 x25_2).f0), .int .i64 ((rd_T61 l1 x25_2).f1)] 61 (0, 0)) (by (with_reducible repeat (first | refine blk_drewN ?_ _ | refine blk_drew ?_ | refine blk_alloc ?_ _)); exact BK359.out) NB359_356.out (by simp)); have n1_ := Aside0.mk (hb); have n2_ := Aside0.mk (hi); clear BK359; clear HB; clear HI356; have BK359 := n0_; have HB := n1_; have HI356 := n2_; clear n0_ n1_ n2_; (try clear hb); (try clear hb2); (try clear hk); (try clear hi)) | (go_at_call 47; (with_reducible refine (cursor_Cursor_At.calls g356 t392 t393 t394 t395 t396 t397 t398 w _ ?side1 ?side2 A49.out).mono ?_); (case side1 => repeat (first | (with_reducible first | exact HI356.out | apply IsS102.alloc | apply IsS102.drewN | apply IsS102.drew | apply IsS102.set_0 | apply IsS102.set_1 | apply IsS102.set_2 | refine IsS102.far ?_ NB356_359.out _) | exact HI356.out)); (case side2 => repeat (first | (with_reducible first | exact HB.out | apply below_alloc | apply pw_below_drewN | apply below_drew1 | refine below_set ?_ (IsS102.ge HI356.out) | refine below_set ?_ GE359.out) | exact HB.out)); rintro e w83 ⟨rfl, hi, hb, hk⟩; have n0_ := Aside0.mk (KeepBut.blk hk (g' := gb359) (o := .cells #[.int .i64 ((rd_T61 l1 x25_2).f0), .int .i64 ((rd_T61 l1 x25_2).f1)] 61 (0, 0)) (by (with_reducible repeat (first | refine blk_drewN ?_ _ | refine blk_drew ?_ | refine blk_alloc ?_ _)); exact BK359.out) NB359_356.out (by simp)); have n1_ := Aside0.mk (hb); have n2_ := Aside0.mk (hi); clear BK359; clear HB; clear HI356; have BK359 := n0_; have HB := n1_; have HI356 := n2_; clear n0_ n1_ n2_; (try clear hb); (try clear hb2); (try clear hk); (try clear hi)) | (go_at_call 48; (with_reducible refine (cursor_Cursor_Left.calls g356 t396 t397 t398 t399 t400 t401 t402 w _ ?side1 ?side2 A53.out).mono ?_); (case side1 => repeat (first | (with_reducible first | exact HI356.out | apply IsS102.alloc | apply IsS102.drewN | apply IsS102.drew | apply IsS102.set_0 | apply IsS102.set_1 | apply IsS102.set_2 | refine IsS102.far ?_ NB356_359.out _) | exact HI356.out)); (case side2 => repeat (first | (with_reducible first | exact HB.out | apply below_alloc | apply pw_below_drewN | apply below_drew1 | refine below_set ?_ (IsS102.ge HI356.out) | refine below_set ?_ GE359.out) | exact HB.out)); rintro e w84 ⟨rfl, hi, hb, hk⟩; have n0_ := Aside0.mk (KeepBut.blk hk (g' := gb359) (o := .cells #[.int .i64 ((rd_T61 l1 x25_2).f0), .int .i64 ((rd_T61 l1 x25_2).f1)] 61 (0, 0)) (by (with_reducible repeat (first | refine blk_drewN ?_ _ | refine blk_drew ?_ | refine blk_alloc ?_ _)); exact BK359.out) NB359_356.out (by simp)); have n1_ := Aside0.mk (hb); have n2_ := Aside0.mk (hi); clear BK359; clear HB; clear HI356; have BK359 := n0_; have HB := n1_; have HI356 := n2_; clear n0_ n1_ n2_; (try clear hb); (try clear hb2); (try clear hk); (try clear hi)) | (go_at_call 47; (with_reducible refine (cursor_Cursor_At.calls g356 t400 t401 t402 t403 t404 t405 t406 w _ ?side1 ?side2 A54.out).mono ?_); (case side1 => repeat (first | (with_reducible first | exact HI356.out | apply IsS102.alloc | apply IsS102.drewN | apply IsS102.drew | apply IsS102.set_0 | apply IsS102.set_1 | apply IsS102.set_2 | refine IsS102.far ?_ NB356_359.out _) | exact HI356.out)); (case side2 => repeat (first | (with_reducible first | exact HB.out | apply below_alloc | apply pw_below_drewN | apply below_drew1 | refine below_set ?_ (IsS102.ge HI356.out) | refine below_set ?_ GE359.out) | exact HB.out)); rintro e w85 ⟨rfl, hi, hb, hk⟩; have n0_ := Aside0.mk (KeepBut.blk hk (g' := gb359) (o := .cells #[.int .i64 ((rd_T61 l1 x25_2).f0), .int .i64 ((rd_T61 l1 x25_2).f1)] 61 (0, 0)) (by (with_reducible repeat (first | refine blk_drewN ?_ _ | refine blk_drew ?_ | refine blk_alloc ?_ _)); exact BK359.out) NB359_356.out (by simp)); have n1_ := Aside0.mk (hb); have n2_ := Aside0.mk (hi); clear BK359; clear HB; clear HI356; have BK359 := n0_; have HB := n1_; have HI356 := n2_; clear n0_ n1_ n2_; (try clear hb); (try clear hb2); (try clear hk); (try clear hi)))
                            go_ret
                            exact ⟨by first | rfl | (simp [errW_none, errW_some] <;> rfl) | (simp [*, errW_none, errW_some] <;> rfl), by repeat (first | (with_reducible first | exact HB.out | apply below_alloc | apply pw_below_drewN | apply below_drew1 | refine below_set ?_ (IsS102.ge HI356.out) | refine below_set ?_ GE359.out) | exact HB.out)⟩
                · rw [if_neg c12] at H
                  exact absurd H (by simp)
              · rw [if_neg c11] at H
                exact absurd H (by simp)
            · rw [if_neg c10] at H
              have c10b0 : decide (x25_2 < (l1.length : Int)) = false := decide_eq_false c10
              clear c10
              replace H := Option.bind_eq_some_iff.mp H
              obtain ⟨t357, A860, H⟩ := H
              replace H : (some t357) = some r := H
              have A86 := Aside0.mk A860
              clear A860
              obtain rfl := Option.some.inj H
              go_wp2_with (first | ((with_reducible refine gate_callee (f := 33) rfl ?_); refine goesL_ (some 104) rfl rfl Try.func33 (by kernel_rfl) rfl #[] rfl (by (try simp only [List.map_toArray, List.map_cons, List.map_nil]); first | done | rfl | (simp only [List.length_drop, List.length_take]; rfl) | (refine congrArg (fun z_ => #[z_]) (congrArg (Value.int IntKind.u64) (Eq.symm (Go.Proofs.YtjfklfmfeghjnaaAid.wrap_len _ (by omega)))))) ?_; (with_reducible refine (tachographlaw03_fixed.calls k2  t357 _ A86.out).mono ?_); rintro e w87 ⟨rfl, hb⟩; refine ⟨_, rfl, ?_⟩; have n0_ := Aside0.mk (IsS102.below (by repeat (first | (with_reducible first | exact HI356.out | apply IsS102.alloc | apply IsS102.drewN | apply IsS102.drew | apply IsS102.set_0 | apply IsS102.set_1 | apply IsS102.set_2) | exact HI356.out)) hb); have n1_ := Aside0.mk (below_step (by repeat (first | (with_reducible first | exact HB.out | apply below_alloc | apply pw_below_drewN | apply below_drew1 | refine below_set ?_ (IsS102.ge HI356.out)) | exact HB.out)) hb); clear HI356; clear HB; have HI356 := n0_; have HB := n1_; clear n0_ n1_; (try clear hb); (try clear hb2); (try clear hk); (try clear hi)))
              go_ret
              exact ⟨by first | rfl | (simp [errW_none, errW_some] <;> rfl) | (simp [*, errW_none, errW_some] <;> rfl), by repeat (first | (with_reducible first | exact HB.out | apply below_alloc | apply pw_below_drewN | apply below_drew1 | refine below_set ?_ (IsS102.ge HI356.out)) | exact HB.out)⟩

set_option maxRecDepth 100000 in
theorem tachographlaw03_CursorNever.laid1 : Go.Proofs.YtjfklfmfeghjnaaOpen.Laid Try.prog 61 k61 (fun b_ : S61 => (Go.Proofs.YtjfklfmfeghjnaaOpen.pairOk (Go.Proofs.YtjfklfmfeghjnaaOpen.intOk .i64) (Go.Proofs.YtjfklfmfeghjnaaOpen.intOk .i64)) (b_.f0, b_.f1)) := (Go.Proofs.YtjfklfmfeghjnaaOpen.laid_iso (fun b_ : S61 => (b_.f0, b_.f1)) (fun p_ => ⟨p_.1, p_.2⟩) (fun _ => rfl) (Go.Proofs.YtjfklfmfeghjnaaOpen.laid_struct Try.underlying61 (by kernel_rfl) (Go.Proofs.YtjfklfmfeghjnaaOpen.laidF_cons (by rfl) (Go.Proofs.YtjfklfmfeghjnaaOpen.laid_int Try.underlying3 (by kernel_rfl)) (Go.Proofs.YtjfklfmfeghjnaaOpen.laidF_one (by rfl) (Go.Proofs.YtjfklfmfeghjnaaOpen.laid_int Try.underlying3 (by kernel_rfl))))))
/-- THE ONE PURE STATEMENT of tachographlaw03_CursorNever: yours. -/
def tachographlaw03_CursorNever.Pure : Prop := ∀ (l0 : List Int) (l1 : List (S61)), l0.length ≤ maxLen → l0.length * 1 ≤ 140737488351232 → (∀ x ∈ l0, (Lit.int .u8 x).wf = true) → (Go.Proofs.YtjfklfmfeghjnaaOpen.sliceOk 16 (fun b_ : S61 => (Go.Proofs.YtjfklfmfeghjnaaOpen.pairOk (Go.Proofs.YtjfklfmfeghjnaaOpen.intOk .i64) (Go.Proofs.YtjfklfmfeghjnaaOpen.intOk .i64)) (b_.f0, b_.f1))) l1 → ∃ k, tachographlaw03_CursorNever.f k l0 l1 = some true
theorem tachographlaw03_CursorNever.walk (P : tachographlaw03_CursorNever.Pure) (a0 : Option Addr) (len0 cap0 : Nat) (z0 : List Int) (a1 : Option Addr) (cap1 : Nat) (l1 : List (S61)) (w : World) (w0 : (a0 = none ∧ len0 = 0 ∧ cap0 = 0 ∧ z0 = []) ∨ ∃ x, a0 = some x ∧ len0 ≤ cap0 ∧ cap0 ≤ maxLen ∧ z0.length = cap0 ∧ (∀ i, i < z0.length → w.cell? (x.add i) = some (.int .u8 (z0.getD i 0))) ∧ ∀ n ∈ z0, (Lit.int .u8 n).wf = true) (y0 : len0 * 1 ≤ 140737488351232) (w1 : (Go.Proofs.YtjfklfmfeghjnaaOpen.sliceOk 16 (fun b_ : S61 => (Go.Proofs.YtjfklfmfeghjnaaOpen.pairOk (Go.Proofs.YtjfklfmfeghjnaaOpen.intOk .i64) (Go.Proofs.YtjfklfmfeghjnaaOpen.intOk .i64)) (b_.f0, b_.f1))) l1) (e1 : l1.length ≤ cap1) (C1 : Kd.C k61 w a1 l1.length l1) :
    Calls Try.prog 11 #[.slice a0 len0 cap0, .slice a1 l1.length cap1] w fun e w' => e = .returned (.bool true) ∧ Below w.heap.size w w' := by
  obtain ⟨l0, rfl, hr0, hm0, hw0, hc0⟩ := ReadsInt.ofRowC w0
  obtain ⟨k, h⟩ := P l0 l1 hm0 y0 hw0 w1
  refine (tachographlaw03_CursorNever.calls k _ _ l0 _ _ l1 true w (Kd.C_of_reads (d := (0 : Int)) (h1 := fun _ => rfl) hr0) hc0 C1 e1 h).mono ?_
  rintro e w' ⟨rfl, hd⟩
  exact ⟨rfl, hd⟩

/-! ### tachographlaw09_Great: function 50 -/
def tachographlaw09_Great.l0 : Nat → List (S92) → List (S92) → Int → Int → Option (Bool)
  | 0, _, _, _, _ => none
  | k + 1, x0, x5, x6, x7 => if x7 < x6 then (if 0 ≤ x7 then (if x7 < (x5.length : Int) then (if (((rd_T92 x5 x7).f1).length : Int) > 30 then (some true) else (if (((rd_T92 x5 x7).f0).size : Int) > 100 then (some true) else (tachographlaw09_Great.l0 k x0 x5 x6 (wrap64 (x7 + 1))))) else (none)) else (none)) else (some (decide ((x0.length : Int) > 100)))
def tachographlaw09_Great.f (k : Nat) (l0 : List (S92)) : Option (Bool) := tachographlaw09_Great.l0 k l0 l0 (l0.length : Int) 0
theorem tachographlaw09_Great.mono_l : ∀ k, (∀ y0 y1 y2 y3, LeO (tachographlaw09_Great.l0 k y0 y1 y2 y3) (tachographlaw09_Great.l0 (k + 1) y0 y1 y2 y3))
  | 0 => fun _ _ _ _ r h => by simp [tachographlaw09_Great.l0] at h
  | k + 1 => by
    have ih0 := tachographlaw09_Great.mono_l k
    · intro y0 y1 y2 y3
      unfold tachographlaw09_Great.l0
      repeat' first
      | (with_reducible exact ih0 _ _ _ _)
      | (with_reducible exact LeO.refl _)
      | (with_reducible exact LeO.none _)
      | (with_reducible refine LeO.ite ?_ ?_)
      | (with_reducible refine LeO.bind ?_ (fun _ => ?_))
      | exact ih0 _ _ _ _
      | exact LeO.none _
      | refine LeO.ite ?_ ?_
      | refine LeO.bind ?_ (fun _ => ?_)
theorem tachographlaw09_Great.mono : ∀ a0 k, LeO (tachographlaw09_Great.f k a0) (tachographlaw09_Great.f (k + 1) a0) := by
  intro a0 k
  have ih0 := tachographlaw09_Great.mono_l k
  unfold tachographlaw09_Great.f
  repeat' first
      | (with_reducible exact ih0 _ _ _ _)
      | (with_reducible exact LeO.refl _)
      | (with_reducible exact LeO.none _)
      | (with_reducible refine LeO.ite ?_ ?_)
      | (with_reducible refine LeO.bind ?_ (fun _ => ?_))
      | exact ih0 _ _ _ _
      | exact LeO.none _
      | refine LeO.ite ?_ ?_
      | refine LeO.bind ?_ (fun _ => ?_)
set_option maxHeartbeats 8000000 in
set_option maxRecDepth 100000 in
theorem tachographlaw09_Great.calls (k : Nat) (A0 : Option Addr) (c0 : Nat) (l0 : List (S92)) (r : Bool) (w : World) (hr0 : Kd.C k92 w A0 l0.length l0) (hc0 : l0.length ≤ c0) (h : tachographlaw09_Great.f k l0 = some r) :
    Calls Try.prog 50 #[.slice A0 l0.length c0] w fun e w' => e = .returned (.bool r) ∧ Below w.heap.size w w' := by
  have hu92 := Try.underlying92
  have HR0 := Aside0.mk hr0
  have HC0 := Aside0.mk hc0
  clear hr0 hc0
  have HB := Aside0.mk (Below.refl w.heap.size w)
  have H : (tachographlaw09_Great.l0 k l0 l0 (l0.length : Int) 0) = some r := h
  clear h
  have H' := Aside0.mk H
  clear H
  go_enter Try.func50, Try.ntmps50
  go_wp2
  go_loopg [7] k (fun kq v7 w' => ∃ (x7_1 : Int), v7 = .int .i64 x7_1 ∧ Aside0 (tachographlaw09_Great.l0 kq l0 l0 (l0.length : Int) x7_1 = some r) ∧ Aside0 (kq ≤ k) ∧ Aside0 (Below w.heap.size w w'))
  case atStart => exact ⟨(0), (by first | rfl | (simp; done) | (simp [*]; done)), H', ⟨Nat.le_refl _⟩, ⟨by repeat (first | (with_reducible first | exact HB.out | apply below_alloc | apply pw_below_drewN | apply below_drew1) | exact HB.out)⟩⟩
  case round =>
    clear H'
    obtain ⟨x7_1, rfl, HA, HK1, HB⟩ := hrel
    cases gk with
    | zero => exact absurd HA.out (by simp [tachographlaw09_Great.l0])
    | succ k1 =>
      have H := HA.out
      clear HA
      simp only [tachographlaw09_Great.l0] at H
      by_cases c2 : x7_1 < (l0.length : Int)
      · rw [if_pos c2] at H
        have c2b0 : decide (x7_1 < (l0.length : Int)) = true := decide_eq_true c2
        clear c2
        by_cases c3 : 0 ≤ x7_1
        · rw [if_pos c3] at H
          have c3b0 : decide (0 ≤ x7_1) = true := decide_eq_true c3
          clear c3
          by_cases c4 : x7_1 < (l0.length : Int)
          · rw [if_pos c4] at H
            have c4b0 : decide (x7_1 < (l0.length : Int)) = true := decide_eq_true c4
            clear c4
            by_cases c5 : (((rd_T92 l0 x7_1).f1).length : Int) > 30
            · rw [if_pos c5] at H
              have c5b0 : decide (30 < (((rd_T92 l0 x7_1).f1).length : Int)) = true := decide_eq_true c5
              have c5b1 : decide (30 < ((rd_T92 l0 x7_1).f1).length) = true := decide_eq_true (by omega)
              clear c5
              obtain rfl := Option.some.inj H
              have p415 : 0 ≤ (x7_1 : Int) := of_decide_eq_true (by first | (with_reducible assumption) | assumption)
              have q415 : x7_1 < (l0.length : Int) := of_decide_eq_true (by first | (with_reducible assumption) | assumption)
              obtain ⟨ad415, A415_1, c415_1, e415, hx415_0, hx415_1, hl415_1, hi415_1⟩ := at_T92 HR0.out x7_1 p415 q415
              cases e415
              replace hx415_0 := (HB.out.cell (World.block_lt_of_cell? w _ hx415_0)).trans hx415_0
              replace hx415_1 := (HB.out.cell (World.block_lt_of_cell? w _ hx415_1)).trans hx415_1
              have HR415_1 := Aside0.mk hi415_1
              have HC415_1 := Aside0.mk hl415_1
              clear hi415_1 hl415_1
              replace p415 := eq_true p415
              replace q415 := eq_true q415
              go_wp2_with (first | ((with_reducible refine gate_dst (N := 4) rfl ?_); (try (refine gate_guard (by rfl) ?_; dsimp only)); refine box_event ?hg (N := 4) ?hd (cs := #[.string (⟨#[]⟩ : ByteArray), .slice none 0 0]) (t := 92) ?hr ?_; (case hd => rfl); (case hg => rfl); (case hr => first | (go_simp; done) | (go_simp; rfl)); intro gb416 hg w6 hbox hb; have n0_ := Aside0.mk (below_step (by repeat (first | (with_reducible first | exact HB.out | apply below_alloc | apply pw_below_drewN | apply below_drew1) | exact HB.out)) hb); have n1_ := Aside0.mk (hbox); have n2_ := Aside0.mk ((by rw [hg]; exact (below_size (by repeat (first | (with_reducible first | exact HB.out | apply below_alloc | apply pw_below_drewN | apply below_drew1) | exact HB.out))) : w.heap.size ≤ gb416)); have n3_ := Aside0.mk ((by rw [hg]; exact (below_size (by repeat (first | (with_reducible first | exact HB.out | apply below_alloc | apply pw_below_drewN | apply below_drew1) | exact HB.out))) : w.heap.size ≤ gb416)); clear HB; have HB := n0_; have BK416 := n1_; have GW416 := n2_; have GE416 := n3_; clear n0_ n1_ n2_ n3_; clear hb hbox hg; have hcz7_0 : w6.cell? ⟨gb416, 0, none⟩ = some (.string (⟨#[]⟩ : ByteArray)) := (blk_cell BK416.out 0).trans rfl; have hcz7_1 : w6.cell? ⟨gb416, 1, none⟩ = some (.slice none 0 0) := (blk_cell BK416.out 1).trans rfl; have hfz7_0 := blk_frozen BK416.out 0; have hfz7_1 := blk_frozen BK416.out 1))
              go_ret
              exact ⟨by first | rfl | (simp [errW_none, errW_some] <;> rfl) | (simp [*, errW_none, errW_some] <;> rfl), by repeat (first | (with_reducible first | exact HB.out | apply below_alloc | apply pw_below_drewN | apply below_drew1 | refine below_set ?_ GE416.out) | exact HB.out)⟩
            · rw [if_neg c5] at H
              have c5b0 : decide (30 < (((rd_T92 l0 x7_1).f1).length : Int)) = false := decide_eq_false c5
              have c5b1 : decide (30 < ((rd_T92 l0 x7_1).f1).length) = false := decide_eq_false (by omega)
              clear c5
              by_cases c8 : (((rd_T92 l0 x7_1).f0).size : Int) > 100
              · rw [if_pos c8] at H
                have c8b0 : decide (100 < (((rd_T92 l0 x7_1).f0).size : Int)) = true := decide_eq_true c8
                have c8b1 : decide (100 < ((rd_T92 l0 x7_1).f0).size) = true := decide_eq_true (by omega)
                clear c8
                obtain rfl := Option.some.inj H
                have p415 : 0 ≤ (x7_1 : Int) := of_decide_eq_true (by first | (with_reducible assumption) | assumption)
                have q415 : x7_1 < (l0.length : Int) := of_decide_eq_true (by first | (with_reducible assumption) | assumption)
                obtain ⟨ad415, A415_1, c415_1, e415, hx415_0, hx415_1, hl415_1, hi415_1⟩ := at_T92 HR0.out x7_1 p415 q415
                cases e415
                replace hx415_0 := (HB.out.cell (World.block_lt_of_cell? w _ hx415_0)).trans hx415_0
                replace hx415_1 := (HB.out.cell (World.block_lt_of_cell? w _ hx415_1)).trans hx415_1
                have HR415_1 := Aside0.mk hi415_1
                have HC415_1 := Aside0.mk hl415_1
                clear hi415_1 hl415_1
                replace p415 := eq_true p415
                replace q415 := eq_true q415
                go_wp2_with (first | ((with_reducible refine gate_dst (N := 4) rfl ?_); (try (refine gate_guard (by rfl) ?_; dsimp only)); refine box_event ?hg (N := 4) ?hd (cs := #[.string (⟨#[]⟩ : ByteArray), .slice none 0 0]) (t := 92) ?hr ?_; (case hd => rfl); (case hg => rfl); (case hr => first | (go_simp; done) | (go_simp; rfl)); intro gb416 hg w9 hbox hb; have n0_ := Aside0.mk (below_step (by repeat (first | (with_reducible first | exact HB.out | apply below_alloc | apply pw_below_drewN | apply below_drew1) | exact HB.out)) hb); have n1_ := Aside0.mk (hbox); have n2_ := Aside0.mk ((by rw [hg]; exact (below_size (by repeat (first | (with_reducible first | exact HB.out | apply below_alloc | apply pw_below_drewN | apply below_drew1) | exact HB.out))) : w.heap.size ≤ gb416)); have n3_ := Aside0.mk ((by rw [hg]; exact (below_size (by repeat (first | (with_reducible first | exact HB.out | apply below_alloc | apply pw_below_drewN | apply below_drew1) | exact HB.out))) : w.heap.size ≤ gb416)); clear HB; have HB := n0_; have BK416 := n1_; have GW416 := n2_; have GE416 := n3_; clear n0_ n1_ n2_ n3_; clear hb hbox hg; have hcz10_0 : w9.cell? ⟨gb416, 0, none⟩ = some (.string (⟨#[]⟩ : ByteArray)) := (blk_cell BK416.out 0).trans rfl; have hcz10_1 : w9.cell? ⟨gb416, 1, none⟩ = some (.slice none 0 0) := (blk_cell BK416.out 1).trans rfl; have hfz10_0 := blk_frozen BK416.out 0; have hfz10_1 := blk_frozen BK416.out 1))
                go_ret
                exact ⟨by first | rfl | (simp [errW_none, errW_some] <;> rfl) | (simp [*, errW_none, errW_some] <;> rfl), by repeat (first | (with_reducible first | exact HB.out | apply below_alloc | apply pw_below_drewN | apply below_drew1 | refine below_set ?_ GE416.out) | exact HB.out)⟩
              · rw [if_neg c8] at H
                have c8b0 : decide (100 < (((rd_T92 l0 x7_1).f0).size : Int)) = false := decide_eq_false c8
                have c8b1 : decide (100 < ((rd_T92 l0 x7_1).f0).size) = false := decide_eq_false (by omega)
                clear c8
                have H' := Aside0.mk H
                clear H
                have p415 : 0 ≤ (x7_1 : Int) := of_decide_eq_true (by first | (with_reducible assumption) | assumption)
                have q415 : x7_1 < (l0.length : Int) := of_decide_eq_true (by first | (with_reducible assumption) | assumption)
                obtain ⟨ad415, A415_1, c415_1, e415, hx415_0, hx415_1, hl415_1, hi415_1⟩ := at_T92 HR0.out x7_1 p415 q415
                cases e415
                replace hx415_0 := (HB.out.cell (World.block_lt_of_cell? w _ hx415_0)).trans hx415_0
                replace hx415_1 := (HB.out.cell (World.block_lt_of_cell? w _ hx415_1)).trans hx415_1
                have HR415_1 := Aside0.mk hi415_1
                have HC415_1 := Aside0.mk hl415_1
                clear hi415_1 hl415_1
                replace p415 := eq_true p415
                replace q415 := eq_true q415
                go_wp2_with (first | ((with_reducible refine gate_dst (N := 4) rfl ?_); (try (refine gate_guard (by rfl) ?_; dsimp only)); refine box_event ?hg (N := 4) ?hd (cs := #[.string (⟨#[]⟩ : ByteArray), .slice none 0 0]) (t := 92) ?hr ?_; (case hd => rfl); (case hg => rfl); (case hr => first | (go_simp; done) | (go_simp; rfl)); intro gb416 hg w11 hbox hb; have n0_ := Aside0.mk (below_step (by repeat (first | (with_reducible first | exact HB.out | apply below_alloc | apply pw_below_drewN | apply below_drew1) | exact HB.out)) hb); have n1_ := Aside0.mk (hbox); have n2_ := Aside0.mk ((by rw [hg]; exact (below_size (by repeat (first | (with_reducible first | exact HB.out | apply below_alloc | apply pw_below_drewN | apply below_drew1) | exact HB.out))) : w.heap.size ≤ gb416)); have n3_ := Aside0.mk ((by rw [hg]; exact (below_size (by repeat (first | (with_reducible first | exact HB.out | apply below_alloc | apply pw_below_drewN | apply below_drew1) | exact HB.out))) : w.heap.size ≤ gb416)); clear HB; have HB := n0_; have BK416 := n1_; have GW416 := n2_; have GE416 := n3_; clear n0_ n1_ n2_ n3_; clear hb hbox hg; have hcz12_0 : w11.cell? ⟨gb416, 0, none⟩ = some (.string (⟨#[]⟩ : ByteArray)) := (blk_cell BK416.out 0).trans rfl; have hcz12_1 : w11.cell? ⟨gb416, 1, none⟩ = some (.slice none 0 0) := (blk_cell BK416.out 1).trans rfl; have hfz12_0 := blk_frozen BK416.out 0; have hfz12_1 := blk_frozen BK416.out 1))
                go_roundg k1
                case measure => have := HK1.out; omega
                case rel => exact ⟨(wrap64 (x7_1 + 1)), (by first | rfl | (simp; done) | (simp [*]; done)), H', ⟨by have := HK1.out; omega⟩, ⟨by repeat (first | (with_reducible first | exact HB.out | apply below_alloc | apply pw_below_drewN | apply below_drew1 | refine below_set ?_ GE416.out) | exact HB.out)⟩⟩
          · rw [if_neg c4] at H
            exact absurd H (by simp)
        · rw [if_neg c3] at H
          exact absurd H (by simp)
      · rw [if_neg c2] at H
        have c2b0 : decide (x7_1 < (l0.length : Int)) = false := decide_eq_false c2
        clear c2
        obtain rfl := Option.some.inj H
        go_wp2
        go_ret
        exact ⟨by first | rfl | (simp [errW_none, errW_some] <;> rfl) | (simp [*, errW_none, errW_some] <;> rfl), by repeat (first | (with_reducible first | exact HB.out | apply below_alloc | apply pw_below_drewN | apply below_drew1) | exact HB.out)⟩

end Go.Proofs.Ytjfklfmfeghjnaa.PA
