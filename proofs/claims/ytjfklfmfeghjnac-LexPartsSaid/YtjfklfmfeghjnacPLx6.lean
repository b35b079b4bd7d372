-- Contracts of Go functions, each with its plain Lean function: written by wip/tools/myprint.py of this work (the kit's print, with contracts proved by hand spliced in).
import Derived.Test.YtjfklfmfeghjnacPLx0
import Derived.Test.YtjfklfmfeghjnacPLx5
namespace Go.Proofs.Ytjfklfmfeghjnac.PL
open Go.RowKit Go.Proofs.YtjfklfmfeghjnacW.PrintWords Go.Proofs.YtjfklfmfeghjnacW.PrintLast Go.Proofs.YtjfklfmfeghjnacW.PrintMore
attribute [local go_sem] max2_int min2_int max_two min_two max_three min_three max_four min_four   -- for this text's walks alone
set_option linter.unusedVariables false
set_option linter.unusedSimpArgs false

/-! ### quote_Get: function 12 -/
mutual
def quote_Get.j0 : Nat → ByteArray → Bool → Option (ByteArray × Int × Int)
 | 0, _, _ => none
 | k + 1, x0, x16 => if x16 = true then (some ((⟨#[]⟩ : ByteArray), 0, 4)) else (quote_Get.l0 k x0 ([] : List Int) 1)
def quote_Get.l0 : Nat → ByteArray → List Int → Int → Option (ByteArray × Int × Int)
 | 0, _, _, _ => none
 | k + 1, x0, x5, x6 => if x6 < (x0.size : Int) then (if 0 ≤ x6 then (if (bt x0 x6) = 34 then (quote_Get.j2 k x0 x5 x6 (bt x0 x6) 1 (decide ((x5.length : Int) > 200))) else (quote_Get.j2 k x0 x5 x6 (bt x0 x6) 1 false)) else (none)) else (some ((⟨#[]⟩ : ByteArray), 0, 2))
def quote_Get.j2 : Nat → ByteArray → List Int → Int → Int → Int → Bool → Option (ByteArray × Int × Int)
 | 0, _, _, _, _, _, _ => none
 | k + 1, x0, x5, x6, x7, x8, x24 => if x24 = true then (some ((⟨#[]⟩ : ByteArray), 0, 6)) else (if x7 = 34 then (some (strOfNums x5, wrap64 (x6 + 1), 0)) else (if x7 < 32 then (some ((⟨#[]⟩ : ByteArray), 0, 4)) else (if x7 = 92 then (if 0 ≤ x6 then (if x6 ≤ (x0.size : Int) then ((quote_escape.f k (x0.extract (x6 : Int).toNat x0.size)).bind fun bt122 => (if bt122.2.2 = 0 then (if x5.length < 140737488355328 then (quote_Get.l0 k x0 (x5 ++ [bt122.1]) (wrap64 (x6 + bt122.2.1))) else (none)) else (some ((⟨#[]⟩ : ByteArray), 0, bt122.2.2)))) else (none)) else (none)) else (if x5.length < 140737488355328 then (quote_Get.l0 k x0 (x5 ++ [x7]) (wrap64 (x6 + x8))) else (none)))))
end
def quote_Get.f (k : Nat) (a0 : ByteArray) : Option (ByteArray × Int × Int) := if a0.toList = ([] : List UInt8) then (quote_Get.j0 k a0 false) else (if 0 < (a0.size : Int) then (quote_Get.j0 k a0 ((bt a0 0) != 34)) else (none))
theorem quote_Get.mono_l : ∀ k, (∀ y0 y1, LeO (quote_Get.j0 k y0 y1) (quote_Get.j0 (k + 1) y0 y1)) ∧ (∀ y0 y1 y2, LeO (quote_Get.l0 k y0 y1 y2) (quote_Get.l0 (k + 1) y0 y1 y2)) ∧ (∀ y0 y1 y2 y3 y4 y5, LeO (quote_Get.j2 k y0 y1 y2 y3 y4 y5) (quote_Get.j2 (k + 1) y0 y1 y2 y3 y4 y5))
 | 0 => ⟨fun _ _ r h => by simp [quote_Get.j0] at h, fun _ _ _ r h => by simp [quote_Get.l0] at h, fun _ _ _ _ _ _ r h => by simp [quote_Get.j2] at h⟩
 | k + 1 => by
  obtain ⟨ih0, ih1, ih2⟩ := quote_Get.mono_l k
  refine ⟨?_, ?_, ?_⟩
  ·intro y0 y1
   unfold quote_Get.j0
   repeat' first
   | (with_reducible exact ih0 _ _)
   | (with_reducible exact ih1 _ _ _)
   | (with_reducible exact ih2 _ _ _ _ _ _)
   | (with_reducible exact quote_escape.mono _ _)
   | (with_reducible exact LeO.refl _)
   | (with_reducible exact LeO.none _)
   | (with_reducible refine LeO.ite ?_ ?_)
   | (with_reducible refine LeO.bind ?_ (fun _ => ?_))
   | exact ih0 _ _
   | exact ih1 _ _ _
   | exact ih2 _ _ _ _ _ _
   | exact quote_escape.mono _ _
   | exact LeO.none _
   | refine LeO.ite ?_ ?_
   | refine LeO.bind ?_ (fun _ => ?_)
  ·intro y0 y1 y2
   unfold quote_Get.l0
   repeat' first
   | (with_reducible exact ih0 _ _)
   | (with_reducible exact ih1 _ _ _)
   | (with_reducible exact ih2 _ _ _ _ _ _)
   | (with_reducible exact quote_escape.mono _ _)
   | (with_reducible exact LeO.refl _)
   | (with_reducible exact LeO.none _)
   | (with_reducible refine LeO.ite ?_ ?_)
   | (with_reducible refine LeO.bind ?_ (fun _ => ?_))
   | exact ih0 _ _
   | exact ih1 _ _ _
   | exact ih2 _ _ _ _ _ _
   | exact quote_escape.mono _ _
   | exact LeO.none _
   | refine LeO.ite ?_ ?_
   | refine LeO.bind ?_ (fun _ => ?_)
  ·intro y0 y1 y2 y3 y4 y5
   unfold quote_Get.j2
   repeat' first
   | (with_reducible exact ih0 _ _)
   | (with_reducible exact ih1 _ _ _)
   | (with_reducible exact ih2 _ _ _ _ _ _)
   | (with_reducible exact quote_escape.mono _ _)
   | (with_reducible exact LeO.refl _)
   | (with_reducible exact LeO.none _)
   | (with_reducible refine LeO.ite ?_ ?_)
   | (with_reducible refine LeO.bind ?_ (fun _ => ?_))
   | exact ih0 _ _
   | exact ih1 _ _ _
   | exact ih2 _ _ _ _ _ _
   | exact quote_escape.mono _ _
   | exact LeO.none _
   | refine LeO.ite ?_ ?_
   | refine LeO.bind ?_ (fun _ => ?_)
theorem quote_Get.mono : ∀ a0 k, LeO (quote_Get.f k a0) (quote_Get.f (k + 1) a0) := by
 intro a0 k
 obtain ⟨ih0, ih1, ih2⟩ := quote_Get.mono_l k
 unfold quote_Get.f
 repeat' first
   | (with_reducible exact ih0 _ _)
   | (with_reducible exact ih1 _ _ _)
   | (with_reducible exact ih2 _ _ _ _ _ _)
   | (with_reducible exact quote_escape.mono _ _)
   | (with_reducible exact LeO.refl _)
   | (with_reducible exact LeO.none _)
   | (with_reducible refine LeO.ite ?_ ?_)
   | (with_reducible refine LeO.bind ?_ (fun _ => ?_))
   | exact ih0 _ _
   | exact ih1 _ _ _
   | exact ih2 _ _ _ _ _ _
   | exact quote_escape.mono _ _
   | exact LeO.none _
   | refine LeO.ite ?_ ?_
   | refine LeO.bind ?_ (fun _ => ?_)
set_option maxHeartbeats 8000000 in
set_option maxRecDepth 100000 in
theorem quote_Get.calls (k : Nat) (a0 : ByteArray) (r1 : ByteArray) (r2 : Int) (r3 : Int) (w : World) (h : quote_Get.f k a0 = some (r1,r2,r3)) :
  Calls Try.prog 12 #[.string a0] w fun e w' => e = .returned (.tuple #[.string r1,.int .i64 r2,.int .i64 r3]) ∧ Below w.heap.size w w':=by
 have HB:=Aside0.mk (Below.refl w.heap.size w)
 have H : (if a0.toList = ([] : List UInt8) then (quote_Get.j0 k a0 false) else (if 0 < (a0.size : Int) then (quote_Get.j0 k a0 ((bt a0 0) != 34)) else (none))) = some (r1,r2,r3):=h
 clear h
 have HC2:=Aside0.mk H
 clear H
 go_enter Try.func12,Try.ntmps12
 go_upto_region 1 with (fail)
 go_cut [16] (fun v16 wc => ∃ (kq : Nat) (x16_1 : Bool),v16 = .bool x16_1 ∧ Aside0 (quote_Get.j0 kq a0 x16_1 = some (r1,r2,r3)) ∧ Aside0 (kq ≤ k) ∧ Aside0 (Below w.heap.size w wc))
 case first =>
  have H:=HC2.out
  clear HC2
  by_cases c3 : a0.toList = ([] : List UInt8)
  ·rw [if_pos c3] at H
   have c3b0 : (a0.toList == ([] : List UInt8)) = true:=beq_iff_eq.mpr c3
   have c3b1 : (a0.toList != ([] : List UInt8)) = false:=bne_eq_false_iff_eq.mpr c3
   clear c3
   (first | rw [c3b0] | (simp only [i64_w,i32_w];rw [c3b0]) | skip)
   have H':=Aside0.mk H
   clear H
   go_wp2
   go_meet
   case rel => exact ⟨_,(false),(by first | rfl | (simp;done) | (simp [*];done)),H',⟨by first | omega | exact Nat.le_refl _⟩,⟨by repeat (first | (with_reducible first | exact HB.out | apply below_alloc | apply pw_below_drewN | apply below_drew1) | exact HB.out)⟩⟩
  ·rw [if_neg c3] at H
   have c3b0 : (a0.toList == ([] : List UInt8)) = false:=beq_eq_false_iff_ne.mpr c3
   have c3b1 : (a0.toList != ([] : List UInt8)) = true:=bne_iff_ne.mpr c3
   (first | rw [c3b0] | (simp only [i64_w,i32_w];rw [c3b0]) | skip)
   by_cases c4 : 0 < (a0.size : Int)
   ·rw [if_pos c4] at H
    have c4b0 : decide (0 < (a0.size : Int)) = true:=decide_eq_true c4
    have c4b1 : decide (0 < a0.size) = true:=decide_eq_true (by omega)
    clear c4
    have H':=Aside0.mk H
    clear H
    have p5 : 0 ≤ (0 : Int):=(by omega)
    have q5 : 0 < a0.size:=(by have : (0 : Int) < (a0.size : Int):=of_decide_eq_true (by first | (with_reducible assumption) | assumption);omega)
    have hx5 : ∀ h : 0 < a0.size,((a0[0]'h).toNat : Int) = bt a0 0:=bt_at a0 0
    clear p5
    have qi5 : (0 < (a0.size : Int)) = True:=eq_true (of_decide_eq_true (by first | (with_reducible assumption) | assumption))
    replace q5:=eq_true q5
    go_wp2
    go_meet
    case rel => exact ⟨_,(((bt a0 0) != 34)),(by first | rfl | (simp;done) | (simp [*];done)),H',⟨by first | omega | exact Nat.le_refl _⟩,⟨by repeat (first | (with_reducible first | exact HB.out | apply below_alloc | apply pw_below_drewN | apply below_drew1) | exact HB.out)⟩⟩
   ·rw [if_neg c4] at H
    exact absurd H (by simp)
 case rest =>
  clear HC2
  try clear c1
  try clear p2
  try clear c3
  try clear c3b0
  try clear c3b1
  try clear c4
  try clear c4b0
  try clear c4b1
  try clear p5
  try clear q5
  try clear hx5
  try clear qi5
  try clear p5
  try clear q5
  obtain ⟨kq,x16_1,rfl,HA,HJ1,HB⟩:=hcut
  cases kq with
  | zero => exact absurd HA.out (by simp [quote_Get.j0])
  | succ kj1 =>
   have H:=HA.out
   clear HA
   simp only [quote_Get.j0] at H
   by_cases c6 : x16_1 = true
   ·subst c6
    have H1 : (some ((⟨#[]⟩ : ByteArray),0,4)) = some (r1,r2,r3):=by rw [if_pos rfl] at H;exact H
    clear H
    have H:=H1
    clear H1
    simp only [Option.some.injEq,Prod.mk.injEq] at H
    obtain ⟨rfl,rfl,rfl⟩:=H
    go_wp2
    go_ret3
    exact ⟨by first | rfl | (simp [errW_none,errW_some] <;> rfl) | (simp [*,errW_none,errW_some] <;> rfl),by repeat (first | (with_reducible first | exact HB.out | apply below_alloc | apply pw_below_drewN | apply below_drew1) | exact HB.out)⟩
   ·replace c6:=Bool.eq_false_iff.mpr c6
    subst c6
    have H1 : (quote_Get.l0 kj1 a0 ([] : List Int) 1) = some (r1,r2,r3):=by rw [if_neg (show ¬ (false = true) by decide)] at H;exact H
    clear H
    have H:=H1
    clear H1
    have H':=Aside0.mk H
    clear H
    go_wp2
    go_loopg [5,6] kj1 (fun kq v5 v6 w' => ∃ (x5_2 : List Int) (x6_2 : Int),v6 = .int .i64 x6_2 ∧ Aside0 (quote_Get.l0 kq a0 x5_2 x6_2 = some (r1,r2,r3)) ∧ Aside0 (kq ≤ kj1) ∧ Aside0 (Kd.R (Kd.int .u8) 5 w' w.heap.size (fun _ => True) v5 x5_2) ∧ Aside0 (Below w.heap.size w w'))
    case atStart => exact ⟨(([] : List Int)),(1),(by first | rfl | (simp;done) | (simp [*];done)),H',⟨Nat.le_refl _⟩,⟨by first | exact Kd.R_nil _ _ _ _ _ | exact Kd.N_nil _ _ _ _ _ | exact Kd.V_nil _ _ _ _ _ | exact Kd.Q_nil _ _ _ _ _ | exact Kd.S_nil _ _ _ _ _⟩,⟨by repeat (first | (with_reducible first | exact HB.out | apply below_alloc | apply pw_below_drewN | apply below_drew1) | exact HB.out)⟩⟩
    case round =>
     clear H'
     try clear c1
     try clear p2
     try clear c3
     try clear c3b0
     try clear c3b1
     try clear c4
     try clear c4b0
     try clear c4b1
     try clear p5
     try clear q5
     try clear hx5
     try clear qi5
     try clear c6
     try clear p2
     try clear p5
     try clear q5
     obtain ⟨x5_2,x6_2,rfl,HA,HK2,HO_5,HB⟩:=hrel
     cases gk with
     | zero => exact absurd HA.out (by simp [quote_Get.l0])
     | succ k2 =>
      have H:=HA.out
      clear HA
      simp only [quote_Get.l0] at H
      by_cases c7 : x6_2 < (a0.size : Int)
      ·rw [if_pos c7] at H
       have c7b0 : decide (x6_2 < (a0.size : Int)) = true:=decide_eq_true c7
       clear c7
       by_cases c8 : 0 ≤ x6_2
       ·rw [if_pos c8] at H
        have c8b0 : decide (0 ≤ x6_2) = true:=decide_eq_true c8
        clear c8
        have HC10:=Aside0.mk H
        clear H
        have p9 : 0 ≤ (x6_2 : Int):=of_decide_eq_true (by first | (with_reducible assumption) | assumption)
        have q9 : x6_2 < (a0.size : Int):=of_decide_eq_true (by first | (with_reducible assumption) | assumption)
        have hx9:=bt_at a0 x6_2
        replace p9:=eq_true p9
        replace q9:=eq_true q9
        go_upto_region 7 with (fail)
        go_cut [24] (fun v24 wc => ∃ (kq : Nat) (x24_9 : Bool),v24 = .bool x24_9 ∧ Aside0 (quote_Get.j2 kq a0 x5_2 x6_2 (bt a0 x6_2) 1 x24_9 = some (r1,r2,r3)) ∧ Aside0 (kq ≤ k2) ∧ Aside0 (Kd.R (Kd.int .u8) 5 wc w.heap.size (fun _ => True) u5 x5_2) ∧ Aside0 (Below w.heap.size w wc))
        case first =>
         have H:=HC10.out
         clear HC10
         by_cases c11 : (bt a0 x6_2) = 34
         ·rw [if_pos c11] at H
          have c11b0 : ((bt a0 x6_2) == 34) = true:=beq_iff_eq.mpr c11
          have c11b1 : ((bt a0 x6_2) != 34) = false:=bne_eq_false_iff_eq.mpr c11
          clear c11
          (first | rw [c11b0] | (simp only [i64_w,i32_w];rw [c11b0]) | skip)
          have H':=Aside0.mk H
          clear H
          obtain ⟨Ao12,co12,eo12⟩:=Kd.R_slice HO_5.out
          subst eo12
          go_wp2
          go_meet
          case rel => exact ⟨_,(decide ((x5_2.length : Int) > 200)),(by first | rfl | (simp;done) | (simp [*];done)),H',⟨by have:=HJ1.out;have:=HK2.out;first | omega | exact Nat.le_refl _⟩,⟨by (with_reducible repeat (first | apply Kd.R_alloc | apply Kd.R_drewN | apply Kd.R_drew));exact HO_5.out⟩,⟨by repeat (first | (with_reducible first | exact HB.out | apply below_alloc | apply pw_below_drewN | apply below_drew1) | exact HB.out)⟩⟩
         ·rw [if_neg c11] at H
          have c11b0 : ((bt a0 x6_2) == 34) = false:=beq_eq_false_iff_ne.mpr c11
          have c11b1 : ((bt a0 x6_2) != 34) = true:=bne_iff_ne.mpr c11
          (first | rw [c11b0] | (simp only [i64_w,i32_w];rw [c11b0]) | skip)
          have H':=Aside0.mk H
          clear H
          go_wp2
          go_meet
          case rel => exact ⟨_,(false),(by first | rfl | (simp;done) | (simp [*];done)),H',⟨by have:=HJ1.out;have:=HK2.out;first | omega | exact Nat.le_refl _⟩,⟨by (with_reducible repeat (first | apply Kd.R_alloc | apply Kd.R_drewN | apply Kd.R_drew));exact HO_5.out⟩,⟨by repeat (first | (with_reducible first | exact HB.out | apply below_alloc | apply pw_below_drewN | apply below_drew1) | exact HB.out)⟩⟩
        case rest =>
         clear HC10
         try clear c1
         try clear p2
         try clear c3
         try clear c3b0
         try clear c3b1
         try clear c4
         try clear c4b0
         try clear c4b1
         try clear p5
         try clear q5
         try clear hx5
         try clear qi5
         try clear c6
         try clear c7
         try clear c7b0
         try clear c8
         try clear c8b0
         try clear p9
         try clear q9
         try clear hx9
         try clear c11
         try clear c11b0
         try clear c11b1
         try clear c12
         try clear p2
         try clear p5
         try clear p9
         try clear q5
         try clear q9
         obtain ⟨kq,x24_9,rfl,HA,HJ9,HO_5,HB⟩:=hcut
         cases kq with
         | zero => exact absurd HA.out (by simp [quote_Get.j2])
         | succ kj9 =>
          have H:=HA.out
          clear HA
          simp only [quote_Get.j2] at H
          by_cases c13 : x24_9 = true
          ·subst c13
           have H1 : (some ((⟨#[]⟩ : ByteArray),0,6)) = some (r1,r2,r3):=by rw [if_pos rfl] at H;exact H
           clear H
           have H:=H1
           clear H1
           simp only [Option.some.injEq,Prod.mk.injEq] at H
           obtain ⟨rfl,rfl,rfl⟩:=H
           go_wp2
           go_ret3
           exact ⟨by first | rfl | (simp [errW_none,errW_some] <;> rfl) | (simp [*,errW_none,errW_some] <;> rfl),by repeat (first | (with_reducible first | exact HB.out | apply below_alloc | apply pw_below_drewN | apply below_drew1) | exact HB.out)⟩
          ·replace c13:=Bool.eq_false_iff.mpr c13
           subst c13
           have H1 : (if (bt a0 x6_2) = 34 then (some (strOfNums x5_2,wrap64 (x6_2 + 1),0)) else (if (bt a0 x6_2) < 32 then (some ((⟨#[]⟩ : ByteArray),0,4)) else (if (bt a0 x6_2) = 92 then (if 0 ≤ x6_2 then (if x6_2 ≤ (a0.size : Int) then ((quote_escape.f kj9 (a0.extract (x6_2 : Int).toNat a0.size)).bind fun bt122 => (if bt122.2.2 = 0 then (if x5_2.length < 140737488355328 then (quote_Get.l0 kj9 a0 (x5_2 ++ [bt122.1]) (wrap64 (x6_2 + bt122.2.1))) else (none)) else (some ((⟨#[]⟩ : ByteArray),0,bt122.2.2)))) else (none)) else (none)) else (if x5_2.length < 140737488355328 then (quote_Get.l0 kj9 a0 (x5_2 ++ [(bt a0 x6_2)]) (wrap64 (x6_2 + 1))) else (none))))) = some (r1,r2,r3):=by rw [if_neg (show ¬ (false = true) by decide)] at H;exact H
           clear H
           have H:=H1
           clear H1
           by_cases c14 : (bt a0 x6_2) = 34
           ·rw [if_pos c14] at H
            have c14b0 : ((bt a0 x6_2) == 34) = true:=beq_iff_eq.mpr c14
            have c14b1 : ((bt a0 x6_2) != 34) = false:=bne_eq_false_iff_eq.mpr c14
            clear c14
            simp only [Option.some.injEq,Prod.mk.injEq] at H
            obtain ⟨rfl,rfl,rfl⟩:=H
            have hcv15:=own_string (P:=Try.prog) Try.underlying49 Try.underlying5 Try.underlying9 (Kd.own_of_R HO_5.out)
            go_wp2
            go_ret3
            exact ⟨by first | rfl | (simp [errW_none,errW_some] <;> rfl) | (simp [*,errW_none,errW_some] <;> rfl),by repeat (first | (with_reducible first | exact HB.out | apply below_alloc | apply pw_below_drewN | apply below_drew1) | exact HB.out)⟩
           ·rw [if_neg c14] at H
            have c14b0 : ((bt a0 x6_2) == 34) = false:=beq_eq_false_iff_ne.mpr c14
            have c14b1 : ((bt a0 x6_2) != 34) = true:=bne_iff_ne.mpr c14
            by_cases c16 : (bt a0 x6_2) < 32
            ·rw [if_pos c16] at H
             have c16b0 : decide ((bt a0 x6_2) < 32) = true:=decide_eq_true c16
             clear c16
             simp only [Option.some.injEq,Prod.mk.injEq] at H
             obtain ⟨rfl,rfl,rfl⟩:=H
             go_wp2
             go_ret3
             exact ⟨by first | rfl | (simp [errW_none,errW_some] <;> rfl) | (simp [*,errW_none,errW_some] <;> rfl),by repeat (first | (with_reducible first | exact HB.out | apply below_alloc | apply pw_below_drewN | apply below_drew1) | exact HB.out)⟩
            ·rw [if_neg c16] at H
             have c16b0 : decide ((bt a0 x6_2) < 32) = false:=decide_eq_false c16
             clear c16
             by_cases c17 : (bt a0 x6_2) = 92
             ·rw [if_pos c17] at H
              have c17b0 : ((bt a0 x6_2) == 92) = true:=beq_iff_eq.mpr c17
              have c17b1 : ((bt a0 x6_2) != 92) = false:=bne_eq_false_iff_eq.mpr c17
              clear c17
              by_cases c18 : 0 ≤ x6_2
              ·rw [if_pos c18] at H
               have c18b0:=eq_true c18
               have c18b1 : decide (0 ≤ x6_2) = true:=decide_eq_true c18
               clear c18
               by_cases c19 : x6_2 ≤ (a0.size : Int)
               ·rw [if_pos c19] at H
                have c19b0:=eq_true c19
                have c19b1 : decide (x6_2 ≤ (a0.size : Int)) = true:=decide_eq_true c19
                clear c19
                replace H:=Option.bind_eq_some_iff.mp H
                obtain ⟨⟨t122,t123,t124⟩,A200,H⟩:=H
                replace H : (if t124 = 0 then (if x5_2.length < 140737488355328 then (quote_Get.l0 kj9 a0 (x5_2 ++ [t122]) (wrap64 (x6_2 + t123))) else (none)) else (some ((⟨#[]⟩ : ByteArray),0,t124))) = some (r1,r2,r3):=H
                have A20:=Aside0.mk A200
                clear A200
                by_cases c21 : t124 = 0
                ·rw [if_pos c21] at H
                 have c21b0 : (t124 == 0) = true:=beq_iff_eq.mpr c21
                 have c21b1 : (t124 != 0) = false:=bne_eq_false_iff_eq.mpr c21
                 clear c21
                 by_cases c22 : x5_2.length < 140737488355328
                 ·rw [if_pos c22] at H
                  have LMc22:=Aside0.mk c22
                  clear c22
                  obtain ⟨y125,hy125⟩ : ∃ y_ : List Int,y_ = (x5_2 ++ [t122]):=⟨_,rfl⟩
                  replace H : (quote_Get.l0 kj9 a0 y125 (wrap64 (x6_2 + t123))) = some (r1,r2,r3):=by first | (rw [hy125];with_reducible exact H) | (have H2_:=(Option.bind_some _ _).symm.trans H;rw [hy125];with_reducible exact H2_) | (have H2_:=(Option.bind_some _ _).symm.trans H;with_reducible exact H2_) | with_reducible exact H | (rw [hy125];exact H) | exact H
                  have Ny125:=Aside0.mk hy125
                  clear hy125
                  have H':=Aside0.mk H
                  clear H
                  go_wp2_with (first | ((with_reducible refine gate_callee (f:=31) rfl ?_);refine goesL_ (some 49) rfl rfl Try.func31 (by kernel_rfl) rfl #[.string (a0.extract (x6_2 : Int).toNat a0.size)] rfl (by (try simp only [List.map_toArray,List.map_cons,List.map_nil]);first | done | rfl | (simp only [List.length_drop,List.length_take];rfl)) ?_;(with_reducible refine (quote_escape.calls kj9 (a0.extract (x6_2 : Int).toNat a0.size) t122 t123 t124 _ A20.out).mono ?_);rintro e w23 ⟨rfl,hb⟩;refine ⟨_,rfl,?_⟩;have n0_:=Aside0.mk (Kd.R_below (by (with_reducible repeat (first | apply Kd.R_alloc | apply Kd.R_drewN | apply Kd.R_drew));exact HO_5.out) hb);have n1_:=Aside0.mk (below_step (by repeat (first | (with_reducible first | exact HB.out | apply below_alloc | apply pw_below_drewN | apply below_drew1) | exact HB.out)) hb);clear HO_5;clear HB;have HO_5:=n0_;have HB:=n1_;clear n0_ n1_;(try clear hb);(try clear hb2);(try clear hk);(try clear hi)) | ((with_reducible refine gate_builtin (b:=.append) (xs:=#[.tmp 56,.tmp 58]) rfl ?_);(try (refine gate_guard (by rfl) ?_;dsimp only));at_builtin;refine Kd.R_append (Kd.int .u8) (w0:=w) w.heap.size rfl (.tmp 56) (.tmp 58) 49 5 (.int .u8 0) 1 rfl Try.underlying49 info5 rfl (by decide) (by omega) u5 x5_2 t122 [.int .u8 t122] (fun _ => True) (fun _ => False) rfl rfl ?aP (fun _ hk => hk.elim) ?aF ?aO ?aB ?aS ?aL ?_;(case aP => exact rfl);(case aB => exact (by repeat (first | (with_reducible first | exact HB.out | apply below_alloc | apply pw_below_drewN | apply below_drew1) | exact HB.out)));(case aF => exact (fun _ _ => trivial));(case aO => exact (by (with_reducible repeat (first | apply Kd.R_alloc | apply Kd.R_drewN | apply Kd.R_drew));exact HO_5.out));(case aS => exact (below_size (by repeat (first | (with_reducible first | exact HB.out | apply below_alloc | apply pw_below_drewN | apply below_drew1) | exact HB.out))));(case aL => have:=LMc22.out;omega);intro v126 w24 ho hb hg hat;rw [← Ny125.out] at ho;have n0_:=Aside0.mk (hb);have n1_:=Aside0.mk (ho);clear HB;clear HO_5;have HB:=n0_;have HO127:=n1_;clear n0_ n1_;clear ho hb hg hat))
                  go_roundg kj9
                  case measure => have:=HJ1.out;have:=HK2.out;have:=HJ9.out;omega
                  case rel => exact ⟨(y125),(wrap64 (x6_2 + t123)),(by first | rfl | (simp;done) | (simp [*];done)),H',⟨by have:=HJ1.out;have:=HK2.out;have:=HJ9.out;omega⟩,⟨by (with_reducible repeat (first | apply Kd.R_alloc | apply Kd.R_drewN | apply Kd.R_drew));exact HO127.out⟩,⟨by repeat (first | (with_reducible first | exact HB.out | apply below_alloc | apply pw_below_drewN | apply below_drew1) | exact HB.out)⟩⟩
                 ·rw [if_neg c22] at H
                  exact absurd H (by simp)
                ·rw [if_neg c21] at H
                 have c21b0 : (t124 == 0) = false:=beq_eq_false_iff_ne.mpr c21
                 have c21b1 : (t124 != 0) = true:=bne_iff_ne.mpr c21
                 simp only [Option.some.injEq,Prod.mk.injEq] at H
                 obtain ⟨rfl,rfl,rfl⟩:=H
                 go_wp2_with (first | ((with_reducible refine gate_callee (f:=31) rfl ?_);refine goesL_ (some 49) rfl rfl Try.func31 (by kernel_rfl) rfl #[.string (a0.extract (x6_2 : Int).toNat a0.size)] rfl (by (try simp only [List.map_toArray,List.map_cons,List.map_nil]);first | done | rfl | (simp only [List.length_drop,List.length_take];rfl)) ?_;(with_reducible refine (quote_escape.calls kj9 (a0.extract (x6_2 : Int).toNat a0.size) t122 t123 t124 _ A20.out).mono ?_);rintro e w25 ⟨rfl,hb⟩;refine ⟨_,rfl,?_⟩;have n0_:=Aside0.mk (Kd.R_below (by (with_reducible repeat (first | apply Kd.R_alloc | apply Kd.R_drewN | apply Kd.R_drew));exact HO_5.out) hb);have n1_:=Aside0.mk (below_step (by repeat (first | (with_reducible first | exact HB.out | apply below_alloc | apply pw_below_drewN | apply below_drew1) | exact HB.out)) hb);clear HO_5;clear HB;have HO_5:=n0_;have HB:=n1_;clear n0_ n1_;(try clear hb);(try clear hb2);(try clear hk);(try clear hi)))
                 go_ret3
                 exact ⟨by first | rfl | (simp [errW_none,errW_some] <;> rfl) | (simp [*,errW_none,errW_some] <;> rfl),by repeat (first | (with_reducible first | exact HB.out | apply below_alloc | apply pw_below_drewN | apply below_drew1) | exact HB.out)⟩
               ·rw [if_neg c19] at H
                exact absurd H (by simp)
              ·rw [if_neg c18] at H
               exact absurd H (by simp)
             ·rw [if_neg c17] at H
              have c17b0 : ((bt a0 x6_2) == 92) = false:=beq_eq_false_iff_ne.mpr c17
              have c17b1 : ((bt a0 x6_2) != 92) = true:=bne_iff_ne.mpr c17
              by_cases c26 : x5_2.length < 140737488355328
              ·rw [if_pos c26] at H
               have LMc26:=Aside0.mk c26
               clear c26
               obtain ⟨y128,hy128⟩ : ∃ y_ : List Int,y_ = (x5_2 ++ [(bt a0 x6_2)]):=⟨_,rfl⟩
               replace H : (quote_Get.l0 kj9 a0 y128 (wrap64 (x6_2 + 1))) = some (r1,r2,r3):=by first | (rw [hy128];with_reducible exact H) | (have H2_:=(Option.bind_some _ _).symm.trans H;rw [hy128];with_reducible exact H2_) | (have H2_:=(Option.bind_some _ _).symm.trans H;with_reducible exact H2_) | with_reducible exact H | (rw [hy128];exact H) | exact H
               have Ny128:=Aside0.mk hy128
               clear hy128
               have H':=Aside0.mk H
               clear H
               go_wp2_with (first | ((with_reducible refine gate_builtin (b:=.append) (xs:=#[.tmp 56,.tmp 58]) rfl ?_);(try (refine gate_guard (by rfl) ?_;dsimp only));at_builtin;refine Kd.R_append (Kd.int .u8) (w0:=w) w.heap.size rfl (.tmp 56) (.tmp 58) 49 5 (.int .u8 0) 1 rfl Try.underlying49 info5 rfl (by decide) (by omega) u5 x5_2 (bt a0 x6_2) [.int .u8 (bt a0 x6_2)] (fun _ => True) (fun _ => False) rfl rfl ?aP (fun _ hk => hk.elim) ?aF ?aO ?aB ?aS ?aL ?_;(case aP => exact rfl);(case aB => exact (by repeat (first | (with_reducible first | exact HB.out | apply below_alloc | apply pw_below_drewN | apply below_drew1) | exact HB.out)));(case aF => exact (fun _ _ => trivial));(case aO => exact (by (with_reducible repeat (first | apply Kd.R_alloc | apply Kd.R_drewN | apply Kd.R_drew));exact HO_5.out));(case aS => exact (below_size (by repeat (first | (with_reducible first | exact HB.out | apply below_alloc | apply pw_below_drewN | apply below_drew1) | exact HB.out))));(case aL => have:=LMc26.out;omega);intro v129 w27 ho hb hg hat;rw [← Ny128.out] at ho;have n0_:=Aside0.mk (hb);have n1_:=Aside0.mk (ho);clear HB;clear HO_5;have HB:=n0_;have HO130:=n1_;clear n0_ n1_;clear ho hb hg hat))
               go_roundg kj9
               case measure => have:=HJ1.out;have:=HK2.out;have:=HJ9.out;omega
               case rel => exact ⟨(y128),(wrap64 (x6_2 + 1)),(by first | rfl | (simp;done) | (simp [*];done)),H',⟨by have:=HJ1.out;have:=HK2.out;have:=HJ9.out;omega⟩,⟨by (with_reducible repeat (first | apply Kd.R_alloc | apply Kd.R_drewN | apply Kd.R_drew));exact HO130.out⟩,⟨by repeat (first | (with_reducible first | exact HB.out | apply below_alloc | apply pw_below_drewN | apply below_drew1) | exact HB.out)⟩⟩
              ·rw [if_neg c26] at H
               exact absurd H (by simp)
       ·rw [if_neg c8] at H
        exact absurd H (by simp)
      ·rw [if_neg c7] at H
       have c7b0 : decide (x6_2 < (a0.size : Int)) = false:=decide_eq_false c7
       clear c7
       simp only [Option.some.injEq,Prod.mk.injEq] at H
       obtain ⟨rfl,rfl,rfl⟩:=H
       go_wp2
       go_ret3
       exact ⟨by first | rfl | (simp [errW_none,errW_some] <;> rfl) | (simp [*,errW_none,errW_some] <;> rfl),by repeat (first | (with_reducible first | exact HB.out | apply below_alloc | apply pw_below_drewN | apply below_drew1) | exact HB.out)⟩

end Go.Proofs.Ytjfklfmfeghjnac.PL
