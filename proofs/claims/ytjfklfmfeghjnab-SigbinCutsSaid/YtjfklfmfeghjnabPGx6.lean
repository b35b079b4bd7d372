-- Contracts of Go functions, each with its plain Lean function: written by wip/tools/myprint.py of this work (the kit's print, with contracts proved by hand spliced in).
import Derived.Test.YtjfklfmfeghjnabPGx0
namespace Go.Proofs.Ytjfklfmfeghjnab.PG
open Go.RowKit Go.Proofs.YtjfklfmfeghjnabW.PrintWords Go.Proofs.YtjfklfmfeghjnabW.PrintLast Go.Proofs.YtjfklfmfeghjnabW.PrintMore
attribute [local go_sem] max2_int min2_int max_two min_two max_three min_three max_four min_four   -- for this text's walks alone
set_option linter.unusedVariables false
set_option linter.unusedSimpArgs false

/-! ### tachographref01_Get: function 52 -/
mutual
def tachographref01_Get.l0 : Nat → ByteArray → Int → Int → Option (Int × Int × Int)
 | 0, _, _, _ => none
 | k + 1, x0, x5, x6 => if x6 < (x0.size : Int) then (if x6 < 10 then (tachographref01_Get.j1 k x0 x5 x6 (decide (x5 < 0))) else (tachographref01_Get.j1 k x0 x5 x6 false)) else (tachographref01_Get.j1 k x0 x5 x6 false)
def tachographref01_Get.j1 : Nat → ByteArray → Int → Int → Bool → Option (Int × Int × Int)
 | 0, _, _, _, _ => none
 | k + 1, x0, x5, x6, x20 => if x20 = true then (if 0 ≤ x6 then (if x6 < (x0.size : Int) then (if (bt x0 x6) < 128 then (tachographref01_Get.l0 k x0 x6 (wrap64 (x6 + 1))) else (tachographref01_Get.l0 k x0 x5 (wrap64 (x6 + 1)))) else (none)) else (none)) else (if x5 < 0 then (tachographref01_Get.j2 k x0 x5 (decide ((x0.size : Int) < 10))) else (tachographref01_Get.j2 k x0 x5 false))
def tachographref01_Get.j2 : Nat → ByteArray → Int → Bool → Option (Int × Int × Int)
 | 0, _, _, _ => none
 | k + 1, x0, x5, x34 => if x34 = true then (some (0, 0, 2)) else (if x5 < 0 then (tachographref01_Get.j3 k x0 x5 true) else (if x5 = 9 then (if 9 < (x0.size : Int) then (tachographref01_Get.j3 k x0 x5 (decide ((bt x0 9) > 1))) else (none)) else (tachographref01_Get.j3 k x0 x5 false)))
def tachographref01_Get.j3 : Nat → ByteArray → Int → Bool → Option (Int × Int × Int)
 | 0, _, _, _ => none
 | k + 1, x0, x5, x45 => if x45 = true then (some (0, 0, 3)) else (if x5 > 0 then (if 0 ≤ x5 then (if x5 < (x0.size : Int) then (tachographref01_Get.j4 k x0 x5 ((bt x0 x5) == 0)) else (none)) else (none)) else (tachographref01_Get.j4 k x0 x5 false))
def tachographref01_Get.j4 : Nat → ByteArray → Int → Bool → Option (Int × Int × Int)
 | 0, _, _, _ => none
 | k + 1, x0, x5, x53 => if x53 = true then (some (0, 0, 4)) else (tachographref01_Get.l1 k x0 x5 0 x5)
def tachographref01_Get.l1 : Nat → ByteArray → Int → Int → Int → Option (Int × Int × Int)
 | 0, _, _, _, _ => none
 | k + 1, x0, x5, x7, x8 => if x8 ≥ 0 then (if 0 ≤ x8 then (if x8 < (x0.size : Int) then (tachographref01_Get.l1 k x0 x5 (IntKind.u64.wrap ((IntKind.u64.wrap (128 * x7)) + (IntKind.u64.wrap (Int.tmod (bt x0 x8) 128)))) (wrap64 (x8 - 1))) else (none)) else (none)) else (some (x7, wrap64 (x5 + 1), 0))
end
def tachographref01_Get.f (k : Nat) (a0 : ByteArray) : Option (Int × Int × Int) := tachographref01_Get.l0 k a0 (-1) 0
theorem tachographref01_Get.mono_l : ∀ k, (∀ y0 y1 y2, LeO (tachographref01_Get.l0 k y0 y1 y2) (tachographref01_Get.l0 (k + 1) y0 y1 y2)) ∧ (∀ y0 y1 y2 y3, LeO (tachographref01_Get.j1 k y0 y1 y2 y3) (tachographref01_Get.j1 (k + 1) y0 y1 y2 y3)) ∧ (∀ y0 y1 y2, LeO (tachographref01_Get.j2 k y0 y1 y2) (tachographref01_Get.j2 (k + 1) y0 y1 y2)) ∧ (∀ y0 y1 y2, LeO (tachographref01_Get.j3 k y0 y1 y2) (tachographref01_Get.j3 (k + 1) y0 y1 y2)) ∧ (∀ y0 y1 y2, LeO (tachographref01_Get.j4 k y0 y1 y2) (tachographref01_Get.j4 (k + 1) y0 y1 y2)) ∧ (∀ y0 y1 y2 y3, LeO (tachographref01_Get.l1 k y0 y1 y2 y3) (tachographref01_Get.l1 (k + 1) y0 y1 y2 y3))
 | 0 => ⟨fun _ _ _ r h => by simp [tachographref01_Get.l0] at h, fun _ _ _ _ r h => by simp [tachographref01_Get.j1] at h, fun _ _ _ r h => by simp [tachographref01_Get.j2] at h, fun _ _ _ r h => by simp [tachographref01_Get.j3] at h, fun _ _ _ r h => by simp [tachographref01_Get.j4] at h, fun _ _ _ _ r h => by simp [tachographref01_Get.l1] at h⟩
 | k + 1 => by
  obtain ⟨ih0, ih1, ih2, ih3, ih4, ih5⟩ := tachographref01_Get.mono_l k
  refine ⟨?_, ?_, ?_, ?_, ?_, ?_⟩
  ·intro y0 y1 y2
   unfold tachographref01_Get.l0
   repeat' first
   | (with_reducible exact ih0 _ _ _)
   | (with_reducible exact ih1 _ _ _ _)
   | (with_reducible exact ih2 _ _ _)
   | (with_reducible exact ih3 _ _ _)
   | (with_reducible exact ih4 _ _ _)
   | (with_reducible exact ih5 _ _ _ _)
   | (with_reducible exact LeO.refl _)
   | (with_reducible exact LeO.none _)
   | (with_reducible refine LeO.ite ?_ ?_)
   | (with_reducible refine LeO.bind ?_ (fun _ => ?_))
   | exact ih0 _ _ _
   | exact ih1 _ _ _ _
   | exact ih2 _ _ _
   | exact ih3 _ _ _
   | exact ih4 _ _ _
   | exact ih5 _ _ _ _
   | exact LeO.none _
   | refine LeO.ite ?_ ?_
   | refine LeO.bind ?_ (fun _ => ?_)
  ·intro y0 y1 y2 y3
   unfold tachographref01_Get.j1
   repeat' first
   | (with_reducible exact ih0 _ _ _)
   | (with_reducible exact ih1 _ _ _ _)
   | (with_reducible exact ih2 _ _ _)
   | (with_reducible exact ih3 _ _ _)
   | (with_reducible exact ih4 _ _ _)
   | (with_reducible exact ih5 _ _ _ _)
   | (with_reducible exact LeO.refl _)
   | (with_reducible exact LeO.none _)
   | (with_reducible refine LeO.ite ?_ ?_)
   | (with_reducible refine LeO.bind ?_ (fun _ => ?_))
   | exact ih0 _ _ _
   | exact ih1 _ _ _ _
   | exact ih2 _ _ _
   | exact ih3 _ _ _
   | exact ih4 _ _ _
   | exact ih5 _ _ _ _
   | exact LeO.none _
   | refine LeO.ite ?_ ?_
   | refine LeO.bind ?_ (fun _ => ?_)
  ·intro y0 y1 y2
   unfold tachographref01_Get.j2
   repeat' first
   | (with_reducible exact ih0 _ _ _)
   | (with_reducible exact ih1 _ _ _ _)
   | (with_reducible exact ih2 _ _ _)
   | (with_reducible exact ih3 _ _ _)
   | (with_reducible exact ih4 _ _ _)
   | (with_reducible exact ih5 _ _ _ _)
   | (with_reducible exact LeO.refl _)
   | (with_reducible exact LeO.none _)
   | (with_reducible refine LeO.ite ?_ ?_)
   | (with_reducible refine LeO.bind ?_ (fun _ => ?_))
   | exact ih0 _ _ _
   | exact ih1 _ _ _ _
   | exact ih2 _ _ _
   | exact ih3 _ _ _
   | exact ih4 _ _ _
   | exact ih5 _ _ _ _
   | exact LeO.none _
   | refine LeO.ite ?_ ?_
   | refine LeO.bind ?_ (fun _ => ?_)
  ·intro y0 y1 y2
   unfold tachographref01_Get.j3
   repeat' first
   | (with_reducible exact ih0 _ _ _)
   | (with_reducible exact ih1 _ _ _ _)
   | (with_reducible exact ih2 _ _ _)
   | (with_reducible exact ih3 _ _ _)
   | (with_reducible exact ih4 _ _ _)
   | (with_reducible exact ih5 _ _ _ _)
   | (with_reducible exact LeO.refl _)
   | (with_reducible exact LeO.none _)
   | (with_reducible refine LeO.ite ?_ ?_)
   | (with_reducible refine LeO.bind ?_ (fun _ => ?_))
   | exact ih0 _ _ _
   | exact ih1 _ _ _ _
   | exact ih2 _ _ _
   | exact ih3 _ _ _
   | exact ih4 _ _ _
   | exact ih5 _ _ _ _
   | exact LeO.none _
   | refine LeO.ite ?_ ?_
   | refine LeO.bind ?_ (fun _ => ?_)
  ·intro y0 y1 y2
   unfold tachographref01_Get.j4
   repeat' first
   | (with_reducible exact ih0 _ _ _)
   | (with_reducible exact ih1 _ _ _ _)
   | (with_reducible exact ih2 _ _ _)
   | (with_reducible exact ih3 _ _ _)
   | (with_reducible exact ih4 _ _ _)
   | (with_reducible exact ih5 _ _ _ _)
   | (with_reducible exact LeO.refl _)
   | (with_reducible exact LeO.none _)
   | (with_reducible refine LeO.ite ?_ ?_)
   | (with_reducible refine LeO.bind ?_ (fun _ => ?_))
   | exact ih0 _ _ _
   | exact ih1 _ _ _ _
   | exact ih2 _ _ _
   | exact ih3 _ _ _
   | exact ih4 _ _ _
   | exact ih5 _ _ _ _
   | exact LeO.none _
   | refine LeO.ite ?_ ?_
   | refine LeO.bind ?_ (fun _ => ?_)
  ·intro y0 y1 y2 y3
   unfold tachographref01_Get.l1
   repeat' first
   | (with_reducible exact ih0 _ _ _)
   | (with_reducible exact ih1 _ _ _ _)
   | (with_reducible exact ih2 _ _ _)
   | (with_reducible exact ih3 _ _ _)
   | (with_reducible exact ih4 _ _ _)
   | (with_reducible exact ih5 _ _ _ _)
   | (with_reducible exact LeO.refl _)
   | (with_reducible exact LeO.none _)
   | (with_reducible refine LeO.ite ?_ ?_)
   | (with_reducible refine LeO.bind ?_ (fun _ => ?_))
   | exact ih0 _ _ _
   | exact ih1 _ _ _ _
   | exact ih2 _ _ _
   | exact ih3 _ _ _
   | exact ih4 _ _ _
   | exact ih5 _ _ _ _
   | exact LeO.none _
   | refine LeO.ite ?_ ?_
   | refine LeO.bind ?_ (fun _ => ?_)
theorem tachographref01_Get.mono : ∀ a0 k, LeO (tachographref01_Get.f k a0) (tachographref01_Get.f (k + 1) a0) := by
 intro a0 k
 obtain ⟨ih0, ih1, ih2, ih3, ih4, ih5⟩ := tachographref01_Get.mono_l k
 unfold tachographref01_Get.f
 repeat' first
   | (with_reducible exact ih0 _ _ _)
   | (with_reducible exact ih1 _ _ _ _)
   | (with_reducible exact ih2 _ _ _)
   | (with_reducible exact ih3 _ _ _)
   | (with_reducible exact ih4 _ _ _)
   | (with_reducible exact ih5 _ _ _ _)
   | (with_reducible exact LeO.refl _)
   | (with_reducible exact LeO.none _)
   | (with_reducible refine LeO.ite ?_ ?_)
   | (with_reducible refine LeO.bind ?_ (fun _ => ?_))
   | exact ih0 _ _ _
   | exact ih1 _ _ _ _
   | exact ih2 _ _ _
   | exact ih3 _ _ _
   | exact ih4 _ _ _
   | exact ih5 _ _ _ _
   | exact LeO.none _
   | refine LeO.ite ?_ ?_
   | refine LeO.bind ?_ (fun _ => ?_)
set_option maxHeartbeats 8000000 in
set_option maxRecDepth 100000 in
theorem tachographref01_Get.calls (k : Nat) (a0 : ByteArray) (r1 : Int) (r2 : Int) (r3 : Int) (w : World) (h : tachographref01_Get.f k a0 = some (r1,r2,r3)) :
  Calls Try.prog 52 #[.string a0] w fun e w' => e = .returned (.tuple #[.int .u64 r1,.int .i64 r2,.int .i64 r3]) ∧ Drawn0 w w':=by
 have H : (tachographref01_Get.l0 k a0 (-1) 0) = some (r1,r2,r3):=h
 clear h
 have H':=Aside0.mk H
 clear H
 go_enter Try.func52,Try.ntmps52
 go_wp2
 go_loopg [5,6] k (fun kq v5 v6 w' => ∃ (x5_1 : Int) (x6_1 : Int),v5 = .int .i64 x5_1 ∧ v6 = .int .i64 x6_1 ∧ Aside0 (tachographref01_Get.l0 kq a0 x5_1 x6_1 = some (r1,r2,r3)) ∧ Aside0 (kq ≤ k) ∧ Drawn0 w w')
 case atStart => exact ⟨((-1)),(0),(by first | rfl | (simp;done) | (simp [*];done)),(by first | rfl | (simp;done) | (simp [*];done)),H',⟨Nat.le_refl _⟩,by repeat (first | exact Drawn0.refl _ | apply Drawn0.step)⟩
 case round =>
  clear H'
  obtain ⟨x5_1,x6_1,rfl,rfl,HA,HK1,⟨m1,rfl⟩⟩:=hrel
  cases gk with
  | zero => exact absurd HA.out (by simp [tachographref01_Get.l0])
  | succ k1 =>
   have H:=HA.out
   clear HA
   simp only [tachographref01_Get.l0] at H
   have HC2:=Aside0.mk H
   clear H
   go_upto_region 3 with (fail)
   go_cut [20] (fun v20 wc => ∃ (kq : Nat) (x20_1 : Bool),v20 = .bool x20_1 ∧ Aside0 (tachographref01_Get.j1 kq a0 x5_1 x6_1 x20_1 = some (r1,r2,r3)) ∧ Aside0 (kq ≤ k1) ∧ Drawn0 w wc)
   case first =>
    have H:=HC2.out
    clear HC2
    by_cases c3 : x6_1 < (a0.size : Int)
    ·rw [if_pos c3] at H
     have c3b0 : decide (x6_1 < (a0.size : Int)) = true:=decide_eq_true c3
     clear c3
     (first | rw [c3b0] | (simp only [i64_w,i32_w];rw [c3b0]) | skip)
     by_cases c4 : x6_1 < 10
     ·rw [if_pos c4] at H
      have c4b0 : decide (x6_1 < 10) = true:=decide_eq_true c4
      clear c4
      have H':=Aside0.mk H
      clear H
      go_wp2
      go_meet
      case rel => exact ⟨_,(decide (x5_1 < 0)),(by first | rfl | (simp;done) | (simp [*];done)),H',⟨by have:=HK1.out;first | omega | exact Nat.le_refl _⟩,by repeat (first | exact Drawn0.refl _ | apply Drawn0.step)⟩
     ·rw [if_neg c4] at H
      have c4b0 : decide (x6_1 < 10) = false:=decide_eq_false c4
      clear c4
      have H':=Aside0.mk H
      clear H
      go_wp2
      go_meet
      case rel => exact ⟨_,(false),(by first | rfl | (simp;done) | (simp [*];done)),H',⟨by have:=HK1.out;first | omega | exact Nat.le_refl _⟩,by repeat (first | exact Drawn0.refl _ | apply Drawn0.step)⟩
    ·rw [if_neg c3] at H
     have c3b0 : decide (x6_1 < (a0.size : Int)) = false:=decide_eq_false c3
     clear c3
     (first | rw [c3b0] | (simp only [i64_w,i32_w];rw [c3b0]) | skip)
     have H':=Aside0.mk H
     clear H
     go_wp2
     go_meet
     case rel => exact ⟨_,(false),(by first | rfl | (simp;done) | (simp [*];done)),H',⟨by have:=HK1.out;first | omega | exact Nat.le_refl _⟩,by repeat (first | exact Drawn0.refl _ | apply Drawn0.step)⟩
   case rest =>
    clear HC2
    try clear p2
    try clear c3
    try clear c3b0
    try clear c4
    try clear c4b0
    obtain ⟨kq,x20_1,rfl,HA,HJ1,⟨mc1,rfl⟩⟩:=hcut
    cases kq with
    | zero => exact absurd HA.out (by simp [tachographref01_Get.j1])
    | succ kj1 =>
     have H:=HA.out
     clear HA
     simp only [tachographref01_Get.j1] at H
     by_cases c5 : x20_1 = true
     ·subst c5
      have H1 : (if 0 ≤ x6_1 then (if x6_1 < (a0.size : Int) then (if (bt a0 x6_1) < 128 then (tachographref01_Get.l0 kj1 a0 x6_1 (wrap64 (x6_1 + 1))) else (tachographref01_Get.l0 kj1 a0 x5_1 (wrap64 (x6_1 + 1)))) else (none)) else (none)) = some (r1,r2,r3):=by rw [if_pos rfl] at H;exact H
      clear H
      have H:=H1
      clear H1
      by_cases c6 : 0 ≤ x6_1
      ·rw [if_pos c6] at H
       have c6b0 : decide (0 ≤ x6_1) = true:=decide_eq_true c6
       clear c6
       by_cases c7 : x6_1 < (a0.size : Int)
       ·rw [if_pos c7] at H
        have c7b0 : decide (x6_1 < (a0.size : Int)) = true:=decide_eq_true c7
        clear c7
        by_cases c9 : (bt a0 x6_1) < 128
        ·rw [if_pos c9] at H
         have c9b0 : decide ((bt a0 x6_1) < 128) = true:=decide_eq_true c9
         clear c9
         have H':=Aside0.mk H
         clear H
         have p8 : 0 ≤ (x6_1 : Int):=of_decide_eq_true (by first | (with_reducible assumption) | assumption)
         have q8 : x6_1 < (a0.size : Int):=of_decide_eq_true (by first | (with_reducible assumption) | assumption)
         have hx8:=bt_at a0 x6_1
         replace p8:=eq_true p8
         replace q8:=eq_true q8
         go_wp2
         go_roundg kj1
         case measure => have:=HK1.out;have:=HJ1.out;omega
         case rel => exact ⟨(x6_1),(wrap64 (x6_1 + 1)),(by first | rfl | (simp;done) | (simp [*];done)),(by first | rfl | (simp;done) | (simp [*];done)),H',⟨by have:=HK1.out;have:=HJ1.out;omega⟩,by repeat (first | exact Drawn0.refl _ | apply Drawn0.step)⟩
        ·rw [if_neg c9] at H
         have c9b0 : decide ((bt a0 x6_1) < 128) = false:=decide_eq_false c9
         clear c9
         have H':=Aside0.mk H
         clear H
         have p8 : 0 ≤ (x6_1 : Int):=of_decide_eq_true (by first | (with_reducible assumption) | assumption)
         have q8 : x6_1 < (a0.size : Int):=of_decide_eq_true (by first | (with_reducible assumption) | assumption)
         have hx8:=bt_at a0 x6_1
         replace p8:=eq_true p8
         replace q8:=eq_true q8
         go_wp2
         go_roundg kj1
         case measure => have:=HK1.out;have:=HJ1.out;omega
         case rel => exact ⟨(x5_1),(wrap64 (x6_1 + 1)),(by first | rfl | (simp;done) | (simp [*];done)),(by first | rfl | (simp;done) | (simp [*];done)),H',⟨by have:=HK1.out;have:=HJ1.out;omega⟩,by repeat (first | exact Drawn0.refl _ | apply Drawn0.step)⟩
       ·rw [if_neg c7] at H
        exact absurd H (by simp)
      ·rw [if_neg c6] at H
       exact absurd H (by simp)
     ·replace c5:=Bool.eq_false_iff.mpr c5
      subst c5
      have H1 : (if x5_1 < 0 then (tachographref01_Get.j2 kj1 a0 x5_1 (decide ((a0.size : Int) < 10))) else (tachographref01_Get.j2 kj1 a0 x5_1 false)) = some (r1,r2,r3):=by rw [if_neg (show ¬ (false = true) by decide)] at H;exact H
      clear H
      have H:=H1
      clear H1
      have HC10:=Aside0.mk H
      clear H
      go_upto_region 7 with (fail)
      go_cut [34] (fun v34 wc => ∃ (kq : Nat) (x34_9 : Bool),v34 = .bool x34_9 ∧ Aside0 (tachographref01_Get.j2 kq a0 x5_1 x34_9 = some (r1,r2,r3)) ∧ Aside0 (kq ≤ kj1) ∧ Drawn0 w wc)
      case first =>
       have H:=HC10.out
       clear HC10
       by_cases c11 : x5_1 < 0
       ·rw [if_pos c11] at H
        have c11b0 : decide (x5_1 < 0) = true:=decide_eq_true c11
        clear c11
        (first | rw [c11b0] | (simp only [i64_w,i32_w];rw [c11b0]) | skip)
        have H':=Aside0.mk H
        clear H
        go_wp2
        go_meet
        case rel => exact ⟨_,(decide ((a0.size : Int) < 10)),(by first | rfl | (simp;done) | (simp [*];done)),H',⟨by have:=HK1.out;have:=HJ1.out;first | omega | exact Nat.le_refl _⟩,by repeat (first | exact Drawn0.refl _ | apply Drawn0.step)⟩
       ·rw [if_neg c11] at H
        have c11b0 : decide (x5_1 < 0) = false:=decide_eq_false c11
        clear c11
        (first | rw [c11b0] | (simp only [i64_w,i32_w];rw [c11b0]) | skip)
        have H':=Aside0.mk H
        clear H
        go_wp2
        go_meet
        case rel => exact ⟨_,(false),(by first | rfl | (simp;done) | (simp [*];done)),H',⟨by have:=HK1.out;have:=HJ1.out;first | omega | exact Nat.le_refl _⟩,by repeat (first | exact Drawn0.refl _ | apply Drawn0.step)⟩
      case rest =>
       clear HC10
       try clear c1
       try clear p2
       try clear c3
       try clear c3b0
       try clear c4
       try clear c4b0
       try clear c5
       try clear c6
       try clear c6b0
       try clear p6
       try clear c7
       try clear c7b0
       try clear p8
       try clear q8
       try clear hx8
       try clear c9
       try clear c9b0
       try clear c11
       try clear c11b0
       try clear p2
       try clear p8
       try clear q8
       obtain ⟨kq,x34_9,rfl,HA,HJ9,⟨mc9,rfl⟩⟩:=hcut
       cases kq with
       | zero => exact absurd HA.out (by simp [tachographref01_Get.j2])
       | succ kj9 =>
        have H:=HA.out
        clear HA
        simp only [tachographref01_Get.j2] at H
        by_cases c12 : x34_9 = true
        ·subst c12
         have H1 : (some (0,0,2)) = some (r1,r2,r3):=by rw [if_pos rfl] at H;exact H
         clear H
         have H:=H1
         clear H1
         simp only [Option.some.injEq,Prod.mk.injEq] at H
         obtain ⟨rfl,rfl,rfl⟩:=H
         go_wp2
         go_ret3
         exact ⟨by first | rfl | (simp;done) | (simp [*];done),by repeat (first | exact Drawn0.refl _ | apply Drawn0.step)⟩
        ·replace c12:=Bool.eq_false_iff.mpr c12
         subst c12
         have H1 : (if x5_1 < 0 then (tachographref01_Get.j3 kj9 a0 x5_1 true) else (if x5_1 = 9 then (if 9 < (a0.size : Int) then (tachographref01_Get.j3 kj9 a0 x5_1 (decide ((bt a0 9) > 1))) else (none)) else (tachographref01_Get.j3 kj9 a0 x5_1 false))) = some (r1,r2,r3):=by rw [if_neg (show ¬ (false = true) by decide)] at H;exact H
         clear H
         have H:=H1
         clear H1
         have HC13:=Aside0.mk H
         clear H
         go_upto_region 9 with (fail)
         go_cut [45] (fun v45 wc => ∃ (kq : Nat) (x45_12 : Bool),v45 = .bool x45_12 ∧ Aside0 (tachographref01_Get.j3 kq a0 x5_1 x45_12 = some (r1,r2,r3)) ∧ Aside0 (kq ≤ kj9) ∧ Drawn0 w wc)
         case first =>
          have H:=HC13.out
          clear HC13
          by_cases c14 : x5_1 < 0
          ·rw [if_pos c14] at H
           have c14b0 : decide (x5_1 < 0) = true:=decide_eq_true c14
           clear c14
           (first | rw [c14b0] | (simp only [i64_w,i32_w];rw [c14b0]) | skip)
           have H':=Aside0.mk H
           clear H
           go_wp2
           go_meet
           case rel => exact ⟨_,(true),(by first | rfl | (simp;done) | (simp [*];done)),H',⟨by have:=HK1.out;have:=HJ1.out;have:=HJ9.out;first | omega | exact Nat.le_refl _⟩,by repeat (first | exact Drawn0.refl _ | apply Drawn0.step)⟩
          ·rw [if_neg c14] at H
           have c14b0 : decide (x5_1 < 0) = false:=decide_eq_false c14
           clear c14
           (first | rw [c14b0] | (simp only [i64_w,i32_w];rw [c14b0]) | skip)
           by_cases c15 : x5_1 = 9
           ·rw [if_pos c15] at H
            have c15b0 : (x5_1 == 9) = true:=beq_iff_eq.mpr c15
            have c15b1 : (x5_1 != 9) = false:=bne_eq_false_iff_eq.mpr c15
            clear c15
            by_cases c16 : 9 < (a0.size : Int)
            ·rw [if_pos c16] at H
             have c16b0 : decide (9 < (a0.size : Int)) = true:=decide_eq_true c16
             have c16b1 : decide (9 < a0.size) = true:=decide_eq_true (by omega)
             clear c16
             have H':=Aside0.mk H
             clear H
             have p17 : 0 ≤ (9 : Int):=(by omega)
             have q17 : 9 < a0.size:=(by have : (9 : Int) < (a0.size : Int):=of_decide_eq_true (by first | (with_reducible assumption) | assumption);omega)
             have hx17 : ∀ h : 9 < a0.size,((a0[9]'h).toNat : Int) = bt a0 9:=bt_at a0 9
             clear p17
             have qi17 : (9 < (a0.size : Int)) = True:=eq_true (of_decide_eq_true (by first | (with_reducible assumption) | assumption))
             replace q17:=eq_true q17
             go_wp2
             go_meet
             case rel => exact ⟨_,(decide ((bt a0 9) > 1)),(by first | rfl | (simp;done) | (simp [*];done)),H',⟨by have:=HK1.out;have:=HJ1.out;have:=HJ9.out;first | omega | exact Nat.le_refl _⟩,by repeat (first | exact Drawn0.refl _ | apply Drawn0.step)⟩
            ·rw [if_neg c16] at H
             exact absurd H (by simp)
           ·rw [if_neg c15] at H
            have c15b0 : (x5_1 == 9) = false:=beq_eq_false_iff_ne.mpr c15
            have c15b1 : (x5_1 != 9) = true:=bne_iff_ne.mpr c15
            have H':=Aside0.mk H
            clear H
            go_wp2
            go_meet
            case rel => exact ⟨_,(false),(by first | rfl | (simp;done) | (simp [*];done)),H',⟨by have:=HK1.out;have:=HJ1.out;have:=HJ9.out;first | omega | exact Nat.le_refl _⟩,by repeat (first | exact Drawn0.refl _ | apply Drawn0.step)⟩
         case rest =>
          clear HC13
          try clear c1
          try clear p1
          try clear q1
          try clear hx1
          try clear qi1
          try clear p2
          try clear c3
          try clear c3b0
          try clear c4
          try clear c4b0
          try clear c5
          try clear c6
          try clear c6b0
          try clear p6
          try clear c7
          try clear c7b0
          try clear p8
          try clear q8
          try clear hx8
          try clear c9
          try clear c9b0
          try clear c11
          try clear c11b0
          try clear c12
          try clear c14
          try clear c14b0
          try clear c15
          try clear c15b0
          try clear c15b1
          try clear c16
          try clear c16b0
          try clear c16b1
          try clear p17
          try clear q17
          try clear hx17
          try clear qi17
          try clear p17
          try clear p2
          try clear p6
          try clear p8
          try clear q17
          try clear q8
          obtain ⟨kq,x45_12,rfl,HA,HJ12,⟨mc12,rfl⟩⟩:=hcut
          cases kq with
          | zero => exact absurd HA.out (by simp [tachographref01_Get.j3])
          | succ kj12 =>
           have H:=HA.out
           clear HA
           simp only [tachographref01_Get.j3] at H
           by_cases c18 : x45_12 = true
           ·subst c18
            have H1 : (some (0,0,3)) = some (r1,r2,r3):=by rw [if_pos rfl] at H;exact H
            clear H
            have H:=H1
            clear H1
            simp only [Option.some.injEq,Prod.mk.injEq] at H
            obtain ⟨rfl,rfl,rfl⟩:=H
            go_wp2
            go_ret3
            exact ⟨by first | rfl | (simp;done) | (simp [*];done),by repeat (first | exact Drawn0.refl _ | apply Drawn0.step)⟩
           ·replace c18:=Bool.eq_false_iff.mpr c18
            subst c18
            have H1 : (if x5_1 > 0 then (if 0 ≤ x5_1 then (if x5_1 < (a0.size : Int) then (tachographref01_Get.j4 kj12 a0 x5_1 ((bt a0 x5_1) == 0)) else (none)) else (none)) else (tachographref01_Get.j4 kj12 a0 x5_1 false)) = some (r1,r2,r3):=by rw [if_neg (show ¬ (false = true) by decide)] at H;exact H
            clear H
            have H:=H1
            clear H1
            have HC19:=Aside0.mk H
            clear H
            go_upto_region 11 with (fail)
            go_cut [53] (fun v53 wc => ∃ (kq : Nat) (x53_18 : Bool),v53 = .bool x53_18 ∧ Aside0 (tachographref01_Get.j4 kq a0 x5_1 x53_18 = some (r1,r2,r3)) ∧ Aside0 (kq ≤ kj12) ∧ Drawn0 w wc)
            case first =>
             have H:=HC19.out
             clear HC19
             by_cases c20 : x5_1 > 0
             ·rw [if_pos c20] at H
              have c20b0 : decide (0 < x5_1) = true:=decide_eq_true c20
              clear c20
              (first | rw [c20b0] | (simp only [i64_w,i32_w];rw [c20b0]) | skip)
              by_cases c21 : 0 ≤ x5_1
              ·rw [if_pos c21] at H
               have c21b0 : decide (0 ≤ x5_1) = true:=decide_eq_true c21
               clear c21
               by_cases c22 : x5_1 < (a0.size : Int)
               ·rw [if_pos c22] at H
                have c22b0 : decide (x5_1 < (a0.size : Int)) = true:=decide_eq_true c22
                clear c22
                have H':=Aside0.mk H
                clear H
                have p23 : 0 ≤ (x5_1 : Int):=of_decide_eq_true (by first | (with_reducible assumption) | assumption)
                have q23 : x5_1 < (a0.size : Int):=of_decide_eq_true (by first | (with_reducible assumption) | assumption)
                have hx23:=bt_at a0 x5_1
                replace p23:=eq_true p23
                replace q23:=eq_true q23
                go_wp2
                go_meet
                case rel => exact ⟨_,(((bt a0 x5_1) == 0)),(by first | rfl | (simp;done) | (simp [*];done)),H',⟨by have:=HK1.out;have:=HJ1.out;have:=HJ9.out;have:=HJ12.out;first | omega | exact Nat.le_refl _⟩,by repeat (first | exact Drawn0.refl _ | apply Drawn0.step)⟩
               ·rw [if_neg c22] at H
                exact absurd H (by simp)
              ·rw [if_neg c21] at H
               exact absurd H (by simp)
             ·rw [if_neg c20] at H
              have c20b0 : decide (0 < x5_1) = false:=decide_eq_false c20
              clear c20
              (first | rw [c20b0] | (simp only [i64_w,i32_w];rw [c20b0]) | skip)
              have H':=Aside0.mk H
              clear H
              go_wp2
              go_meet
              case rel => exact ⟨_,(false),(by first | rfl | (simp;done) | (simp [*];done)),H',⟨by have:=HK1.out;have:=HJ1.out;have:=HJ9.out;have:=HJ12.out;first | omega | exact Nat.le_refl _⟩,by repeat (first | exact Drawn0.refl _ | apply Drawn0.step)⟩
            case rest =>
             clear HC19
             try clear c1
             try clear p1
             try clear q1
             try clear hx1
             try clear qi1
             try clear c2
             try clear p2
             try clear q2
             try clear hx2
             try clear c3
             try clear c3b0
             try clear c4
             try clear c4b0
             try clear c5
             try clear c6
             try clear c6b0
             try clear p6
             try clear c7
             try clear c7b0
             try clear p8
             try clear q8
             try clear hx8
             try clear c9
             try clear c9b0
             try clear c11
             try clear c11b0
             try clear c12
             try clear c14
             try clear c14b0
             try clear c15
             try clear c15b0
             try clear c15b1
             try clear c16
             try clear c16b0
             try clear c16b1
             try clear p17
             try clear q17
             try clear hx17
             try clear qi17
             try clear c18
             try clear c20
             try clear c20b0
             try clear c21
             try clear c21b0
             try clear c22
             try clear c22b0
             try clear p23
             try clear q23
             try clear hx23
             try clear p1
             try clear p17
             try clear p2
             try clear p23
             try clear p6
             try clear p8
             try clear q1
             try clear q17
             try clear q23
             try clear q8
             obtain ⟨kq,x53_18,rfl,HA,HJ18,⟨mc18,rfl⟩⟩:=hcut
             cases kq with
             | zero => exact absurd HA.out (by simp [tachographref01_Get.j4])
             | succ kj18 =>
              have H:=HA.out
              clear HA
              simp only [tachographref01_Get.j4] at H
              by_cases c24 : x53_18 = true
              ·subst c24
               have H1 : (some (0,0,4)) = some (r1,r2,r3):=by rw [if_pos rfl] at H;exact H
               clear H
               have H:=H1
               clear H1
               simp only [Option.some.injEq,Prod.mk.injEq] at H
               obtain ⟨rfl,rfl,rfl⟩:=H
               go_wp2
               go_ret3
               exact ⟨by first | rfl | (simp;done) | (simp [*];done),by repeat (first | exact Drawn0.refl _ | apply Drawn0.step)⟩
              ·replace c24:=Bool.eq_false_iff.mpr c24
               subst c24
               have H1 : (tachographref01_Get.l1 kj18 a0 x5_1 0 x5_1) = some (r1,r2,r3):=by rw [if_neg (show ¬ (false = true) by decide)] at H;exact H
               clear H
               have H:=H1
               clear H1
               have H':=Aside0.mk H
               clear H
               go_wp2
               go_loopg [7,8] kj18 (fun kq v7 v8 w' => ∃ (x7_6 : Int) (x8_6 : Int),v7 = .int .u64 x7_6 ∧ v8 = .int .i64 x8_6 ∧ Aside0 (tachographref01_Get.l1 kq a0 x5_1 x7_6 x8_6 = some (r1,r2,r3)) ∧ Aside0 (kq ≤ kj18) ∧ Drawn0 w w')
               case atStart => exact ⟨(0),(x5_1),(by first | rfl | (simp;done) | (simp [*];done)),(by first | rfl | (simp;done) | (simp [*];done)),H',⟨Nat.le_refl _⟩,by repeat (first | exact Drawn0.refl _ | apply Drawn0.step)⟩
               case round =>
                clear H'
                try clear c1
                try clear p1
                try clear q1
                try clear hx1
                try clear qi1
                try clear c2
                try clear p2
                try clear q2
                try clear hx2
                try clear c3
                try clear c3b0
                try clear c4
                try clear c4b0
                try clear c5
                try clear c6
                try clear c6b0
                try clear p6
                try clear c7
                try clear c7b0
                try clear p8
                try clear q8
                try clear hx8
                try clear c9
                try clear c9b0
                try clear c11
                try clear c11b0
                try clear c12
                try clear c14
                try clear c14b0
                try clear c15
                try clear c15b0
                try clear c15b1
                try clear c16
                try clear c16b0
                try clear c16b1
                try clear p17
                try clear q17
                try clear hx17
                try clear qi17
                try clear c18
                try clear c20
                try clear c20b0
                try clear c21
                try clear c21b0
                try clear c22
                try clear c22b0
                try clear p23
                try clear q23
                try clear hx23
                try clear c24
                try clear p1
                try clear p17
                try clear p2
                try clear p23
                try clear p6
                try clear p8
                try clear q1
                try clear q17
                try clear q2
                try clear q23
                try clear q8
                obtain ⟨x7_6,x8_6,rfl,rfl,HA,HK6,⟨m6,rfl⟩⟩:=hrel
                cases gk with
                | zero => exact absurd HA.out (by simp [tachographref01_Get.l1])
                | succ k6 =>
                 have H:=HA.out
                 clear HA
                 simp only [tachographref01_Get.l1] at H
                 by_cases c25 : x8_6 ≥ 0
                 ·rw [if_pos c25] at H
                  have c25b0 : decide (0 ≤ x8_6) = true:=decide_eq_true c25
                  clear c25
                  by_cases c26 : 0 ≤ x8_6
                  ·rw [if_pos c26] at H
                   have c26b0 : decide (0 ≤ x8_6) = true:=decide_eq_true c26
                   clear c26
                   by_cases c27 : x8_6 < (a0.size : Int)
                   ·rw [if_pos c27] at H
                    have c27b0 : decide (x8_6 < (a0.size : Int)) = true:=decide_eq_true c27
                    clear c27
                    have H':=Aside0.mk H
                    clear H
                    have p28 : 0 ≤ (x8_6 : Int):=of_decide_eq_true (by first | (with_reducible assumption) | assumption)
                    have q28 : x8_6 < (a0.size : Int):=of_decide_eq_true (by first | (with_reducible assumption) | assumption)
                    have hx28:=bt_at a0 x8_6
                    replace p28:=eq_true p28
                    replace q28:=eq_true q28
                    go_wp2
                    go_roundg k6
                    case measure => have:=HK1.out;have:=HJ1.out;have:=HJ9.out;have:=HJ12.out;have:=HJ18.out;have:=HK6.out;omega
                    case rel => exact ⟨(IntKind.u64.wrap ((IntKind.u64.wrap (128 * x7_6)) + (IntKind.u64.wrap (Int.tmod (bt a0 x8_6) 128)))),(wrap64 (x8_6 - 1)),(by first | rfl | (simp;done) | (simp [*];done)),(by first | rfl | (simp;done) | (simp [*];done)),H',⟨by have:=HK1.out;have:=HJ1.out;have:=HJ9.out;have:=HJ12.out;have:=HJ18.out;have:=HK6.out;omega⟩,by repeat (first | exact Drawn0.refl _ | apply Drawn0.step)⟩
                   ·rw [if_neg c27] at H
                    exact absurd H (by simp)
                  ·rw [if_neg c26] at H
                   exact absurd H (by simp)
                 ·rw [if_neg c25] at H
                  have c25b0 : decide (0 ≤ x8_6) = false:=decide_eq_false c25
                  clear c25
                  simp only [Option.some.injEq,Prod.mk.injEq] at H
                  obtain ⟨rfl,rfl,rfl⟩:=H
                  go_wp2
                  go_ret3
                  exact ⟨by first | rfl | (simp;done) | (simp [*];done),by repeat (first | exact Drawn0.refl _ | apply Drawn0.step)⟩

/-! ### tachographref09_in: function 110 -/
def tachographref09_in.f (a0 : Int) (a1 : Int) (a2 : Int) : Option (Bool) := if a0 ≥ a1 then (some (decide (a0 ≤ a2))) else (some false)
set_option maxHeartbeats 8000000 in
set_option maxRecDepth 100000 in
theorem tachographref09_in.calls (a0 : Int) (a1 : Int) (a2 : Int) (r : Bool) (w : World) (h : tachographref09_in.f a0 a1 a2 = some r) :
    Calls Try.prog 110 #[.int .u8 a0, .int .u8 a1, .int .u8 a2] w fun e w' => e = .returned (.bool r) ∧ Drawn0 w w' := by
  have H : (if a0 ≥ a1 then (some (decide (a0 ≤ a2))) else (some false)) = some r := h
  clear h
  by_cases c4 : a0 ≥ a1
  · rw [if_pos c4] at H
    have c4b0 : decide (a1 ≤ a0) = true := decide_eq_true c4
    clear c4
    obtain rfl := Option.some.inj H
    go_enter Try.func110, Try.ntmps110
    go_wp2
    go_ret
    exact ⟨by first | rfl | (simp; done) | (simp [*]; done), by repeat (first | exact Drawn0.refl _ | apply Drawn0.step)⟩
  · rw [if_neg c4] at H
    have c4b0 : decide (a1 ≤ a0) = false := decide_eq_false c4
    clear c4
    obtain rfl := Option.some.inj H
    go_enter Try.func110, Try.ntmps110
    go_wp2
    go_ret
    exact ⟨by first | rfl | (simp; done) | (simp [*]; done), by repeat (first | exact Drawn0.refl _ | apply Drawn0.step)⟩

end Go.Proofs.Ytjfklfmfeghjnab.PG
