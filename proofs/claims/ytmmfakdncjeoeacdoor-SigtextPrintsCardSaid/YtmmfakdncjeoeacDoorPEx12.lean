-- Contracts of Go functions, each with its plain Lean function: written by wip/tools/myprint.py of this work (the kit's print, with contracts proved by hand spliced in).
import Derived.Test.YtmmfakdncjeoeacDoorPEx0
import Derived.Test.YtmmfakdncjeoeacDoorPEx6
import Derived.Test.YtmmfakdncjeoeacDoorPEx7
import Derived.Test.YtmmfakdncjeoeacDoorPEx9
import Derived.Test.YtmmfakdncjeoeacDoorPEx10
namespace Go.Proofs.YtmmfakdncjeoeacDoor.PE
open Go.RowKit Go.Proofs.YtmmfakdncjeoeacDoorW.PrintWords Go.Proofs.YtmmfakdncjeoeacDoorW.PrintLast Go.Proofs.YtmmfakdncjeoeacDoorW.PrintMore
attribute [local go_sem] max2_int min2_int max_two min_two max_three min_three max_four min_four   -- for this text's walks alone
set_option linter.unusedVariables false
set_option linter.unusedSimpArgs false

/-! ### tachographref09_Check: function 14 -/
mutual
def tachographref09_Check.l0 : Nat → List (S41) → Int → Option (Int)
 | 0, _, _ => none
 | k + 1, x0, x3 => if x3 < (x0.length : Int) then (if 0 ≤ x3 then ((tachographref09_Name.f k ((rd_T41 x0 x3).f0)).bind fun t268 => (if t268 = true then ((tachographref09_Find.f k x0 ((rd_T41 x0 x3).f0)).bind fun t270 => (tachographref09_Check.j1 k x0 x3 (decide (t270 < x3)))) else (tachographref09_Check.j1 k x0 x3 true))) else (none)) else (some 0)
def tachographref09_Check.j1 : Nat → List (S41) → Int → Bool → Option (Int)
 | 0, _, _, _ => none
 | k + 1, x0, x3, x31 => if x31 = true then (some 9) else (if 0 ≤ x3 then (if x3 < (x0.length : Int) then (if (((rd_T41 x0 x3).f1).length : Int) > 8 then (some 6) else (tachographref09_Check.l1 k x0 x3 0)) else (none)) else (none))
def tachographref09_Check.l1 : Nat → List (S41) → Int → Int → Option (Int)
 | 0, _, _, _ => none
 | k + 1, x0, x3, x4 => if 0 ≤ x3 then (if x3 < (x0.length : Int) then (if x4 < (((rd_T41 x0 x3).f1).length : Int) then (if 0 ≤ x4 then (if (rd ((rd_T41 x0 x3).f1) x4) < 1 then (some 7) else (if (rd ((rd_T41 x0 x3).f1) x4) > 2 then (some 7) else (tachographref09_Check.l1 k x0 x3 (wrap64 (x4 + 1))))) else (none)) else (tachographref09_Check.l0 k x0 (wrap64 (x3 + 1)))) else (none)) else (none)
end
def tachographref09_Check.f (k : Nat) (l0 : List (S41)) : Option (Int) := if (l0.length : Int) > 64 then (some 6) else (tachographref09_Check.l0 k l0 0)
theorem tachographref09_Check.mono_l : ∀ k, (∀ y0 y1, LeO (tachographref09_Check.l0 k y0 y1) (tachographref09_Check.l0 (k + 1) y0 y1)) ∧ (∀ y0 y1 y2, LeO (tachographref09_Check.j1 k y0 y1 y2) (tachographref09_Check.j1 (k + 1) y0 y1 y2)) ∧ (∀ y0 y1 y2, LeO (tachographref09_Check.l1 k y0 y1 y2) (tachographref09_Check.l1 (k + 1) y0 y1 y2))
 | 0 => ⟨fun _ _ r h => by simp [tachographref09_Check.l0] at h, fun _ _ _ r h => by simp [tachographref09_Check.j1] at h, fun _ _ _ r h => by simp [tachographref09_Check.l1] at h⟩
 | k + 1 => by
  obtain ⟨ih0, ih1, ih2⟩ := tachographref09_Check.mono_l k
  refine ⟨?_, ?_, ?_⟩
  ·intro y0 y1
   unfold tachographref09_Check.l0
   repeat' first
   | (with_reducible exact ih0 _ _)
   | (with_reducible exact ih1 _ _ _)
   | (with_reducible exact ih2 _ _ _)
   | (with_reducible exact tachographref09_Find.mono _ _ _)
   | (with_reducible exact tachographref09_Name.mono _ _)
   | (with_reducible exact LeO.refl _)
   | (with_reducible exact LeO.none _)
   | (with_reducible refine LeO.ite ?_ ?_)
   | (with_reducible refine LeO.bind ?_ (fun _ => ?_))
   | exact ih0 _ _
   | exact ih1 _ _ _
   | exact ih2 _ _ _
   | exact tachographref09_Find.mono _ _ _
   | exact tachographref09_Name.mono _ _
   | exact LeO.none _
   | refine LeO.ite ?_ ?_
   | refine LeO.bind ?_ (fun _ => ?_)
  ·intro y0 y1 y2
   unfold tachographref09_Check.j1
   repeat' first
   | (with_reducible exact ih0 _ _)
   | (with_reducible exact ih1 _ _ _)
   | (with_reducible exact ih2 _ _ _)
   | (with_reducible exact tachographref09_Find.mono _ _ _)
   | (with_reducible exact tachographref09_Name.mono _ _)
   | (with_reducible exact LeO.refl _)
   | (with_reducible exact LeO.none _)
   | (with_reducible refine LeO.ite ?_ ?_)
   | (with_reducible refine LeO.bind ?_ (fun _ => ?_))
   | exact ih0 _ _
   | exact ih1 _ _ _
   | exact ih2 _ _ _
   | exact tachographref09_Find.mono _ _ _
   | exact tachographref09_Name.mono _ _
   | exact LeO.none _
   | refine LeO.ite ?_ ?_
   | refine LeO.bind ?_ (fun _ => ?_)
  ·intro y0 y1 y2
   unfold tachographref09_Check.l1
   repeat' first
   | (with_reducible exact ih0 _ _)
   | (with_reducible exact ih1 _ _ _)
   | (with_reducible exact ih2 _ _ _)
   | (with_reducible exact tachographref09_Find.mono _ _ _)
   | (with_reducible exact tachographref09_Name.mono _ _)
   | (with_reducible exact LeO.refl _)
   | (with_reducible exact LeO.none _)
   | (with_reducible refine LeO.ite ?_ ?_)
   | (with_reducible refine LeO.bind ?_ (fun _ => ?_))
   | exact ih0 _ _
   | exact ih1 _ _ _
   | exact ih2 _ _ _
   | exact tachographref09_Find.mono _ _ _
   | exact tachographref09_Name.mono _ _
   | exact LeO.none _
   | refine LeO.ite ?_ ?_
   | refine LeO.bind ?_ (fun _ => ?_)
theorem tachographref09_Check.mono : ∀ a0 k, LeO (tachographref09_Check.f k a0) (tachographref09_Check.f (k + 1) a0) := by
 intro a0 k
 obtain ⟨ih0, ih1, ih2⟩ := tachographref09_Check.mono_l k
 unfold tachographref09_Check.f
 repeat' first
   | (with_reducible exact ih0 _ _)
   | (with_reducible exact ih1 _ _ _)
   | (with_reducible exact ih2 _ _ _)
   | (with_reducible exact tachographref09_Find.mono _ _ _)
   | (with_reducible exact tachographref09_Name.mono _ _)
   | (with_reducible exact LeO.refl _)
   | (with_reducible exact LeO.none _)
   | (with_reducible refine LeO.ite ?_ ?_)
   | (with_reducible refine LeO.bind ?_ (fun _ => ?_))
   | exact ih0 _ _
   | exact ih1 _ _ _
   | exact ih2 _ _ _
   | exact tachographref09_Find.mono _ _ _
   | exact tachographref09_Name.mono _ _
   | exact LeO.none _
   | refine LeO.ite ?_ ?_
   | refine LeO.bind ?_ (fun _ => ?_)
set_option maxHeartbeats 8000000 in
set_option maxRecDepth 100000 in
theorem tachographref09_Check.calls (k : Nat) (A0 : Option Addr) (c0 : Nat) (l0 : List (S41)) (r : Int) (w : World) (hr0 : Kd.C k41 w A0 l0.length l0) (hc0 : l0.length ≤ c0) (h : tachographref09_Check.f k l0 = some r) :
  Calls Tryd.prog 14 #[.slice A0 l0.length c0] w fun e w' => e = .returned (.int .i64 r) ∧ Drawn0 w w':=by
 have HR0:=Aside0.mk hr0
 have HC0:=Aside0.mk hc0
 clear hr0 hc0
 have H : (if (l0.length : Int) > 64 then (some 6) else (tachographref09_Check.l0 k l0 0)) = some r:=h
 clear h
 by_cases c2 : (l0.length : Int) > 64
 ·rw [if_pos c2] at H
  have c2b0 : decide (64 < (l0.length : Int)) = true:=decide_eq_true c2
  have c2b1 : decide (64 < l0.length) = true:=decide_eq_true (by omega)
  clear c2
  obtain rfl:=Option.some.inj H
  go_enter Tryd.func14,Tryd.ntmps14
  go_wp2
  go_ret
  exact ⟨by first | rfl | (simp;done) | (simp [*];done),by repeat (first | exact Drawn0.refl _ | apply Drawn0.step)⟩
 ·rw [if_neg c2] at H
  have c2b0 : decide (64 < (l0.length : Int)) = false:=decide_eq_false c2
  have c2b1 : decide (64 < l0.length) = false:=decide_eq_false (by omega)
  clear c2
  have H':=Aside0.mk H
  clear H
  go_enter Tryd.func14,Tryd.ntmps14
  go_wp2
  go_loopg [3] k (fun kq v3 w' => ∃ (x3_1 : Int),v3 = .int .i64 x3_1 ∧ Aside0 (tachographref09_Check.l0 kq l0 x3_1 = some r) ∧ Aside0 (kq ≤ k) ∧ Drawn0 w w')
  case atStart => exact ⟨(0),(by first | rfl | (simp;done) | (simp [*];done)),H',⟨Nat.le_refl _⟩,by repeat (first | exact Drawn0.refl _ | apply Drawn0.step)⟩
  case round =>
   clear H'
   try clear c1
   try clear c2
   try clear c2b0
   try clear c2b1
   try clear p2
   obtain ⟨x3_1,rfl,HA,HK1,⟨m1,rfl⟩⟩:=hrel
   cases gk with
   | zero => exact absurd HA.out (by simp [tachographref09_Check.l0])
   | succ k1 =>
    have H:=HA.out
    clear HA
    simp only [tachographref09_Check.l0] at H
    by_cases c3 : x3_1 < (l0.length : Int)
    ·rw [if_pos c3] at H
     have c3b0 : decide (x3_1 < (l0.length : Int)) = true:=decide_eq_true c3
     clear c3
     have HC4:=Aside0.mk H
     clear H
     go_upto_region 6 with (fail)
     go_cut [31] (fun v31 wc => ∃ (kq : Nat) (x31_3 : Bool),v31 = .bool x31_3 ∧ Aside0 (tachographref09_Check.j1 kq l0 x3_1 x31_3 = some r) ∧ Aside0 (kq ≤ k1) ∧ Drawn0 w wc)
     case first =>
      have H:=HC4.out
      clear HC4
      by_cases c5 : 0 ≤ x3_1
      ·rw [if_pos c5] at H
       have c5b0 : decide (0 ≤ x3_1) = true:=decide_eq_true c5
       clear c5
       (first | rw [c5b0] | (simp only [i64_w,i32_w];rw [c5b0]) | skip)
       replace H:=Option.bind_eq_some_iff.mp H
       obtain ⟨t268,A60,H⟩:=H
       replace H : (if t268 = true then ((tachographref09_Find.f k1 l0 ((rd_T41 l0 x3_1).f0)).bind fun t270 => (tachographref09_Check.j1 k1 l0 x3_1 (decide (t270 < x3_1)))) else (tachographref09_Check.j1 k1 l0 x3_1 true)) = some r:=H
       have A6:=Aside0.mk A60
       clear A60
       by_cases c7 : t268 = true
       ·subst c7
        have H1 : ((tachographref09_Find.f k1 l0 ((rd_T41 l0 x3_1).f0)).bind fun t270 => (tachographref09_Check.j1 k1 l0 x3_1 (decide (t270 < x3_1)))) = some r:=by rw [if_pos rfl] at H;exact H
        clear H
        have H:=H1
        clear H1
        replace H:=Option.bind_eq_some_iff.mp H
        obtain ⟨t270,A80,H⟩:=H
        replace H : (tachographref09_Check.j1 k1 l0 x3_1 (decide (t270 < x3_1))) = some r:=H
        have A8:=Aside0.mk A80
        clear A80
        have H':=Aside0.mk H
        clear H
        have p267 : 0 ≤ (x3_1 : Int):=of_decide_eq_true (by first | (with_reducible assumption) | assumption)
        have q267 : x3_1 < (l0.length : Int):=of_decide_eq_true (by first | (with_reducible assumption) | assumption)
        obtain ⟨ad267,A267_1,c267_1,e267,hx267_0,hx267_1,hl267_1,hi267_1⟩:=at_T41 HR0.out x3_1 p267 q267
        cases e267
        have HR267_1:=Aside0.mk hi267_1
        have HC267_1:=Aside0.mk hl267_1
        clear hi267_1 hl267_1
        replace p267:=eq_true p267
        replace q267:=eq_true q267
        go_wp2_with (first | ((with_reducible refine gate_callee (f:=26) rfl ?_);refine goesL_ (some 19) rfl rfl Tryd.func26 (by kernel_rfl) rfl #[.string ((rd_T41 l0 x3_1).f0)] rfl (by (try simp only [List.map_toArray,List.map_cons,List.map_nil]);first | done | rfl | (simp only [List.length_drop,List.length_take];rfl)) ?_;(with_reducible refine (tachographref09_Name.calls k1 ((rd_T41 l0 x3_1).f0) true _ A6.out).mono ?_);rintro e w' ⟨rfl,⟨nd,rfl⟩⟩;refine ⟨_,rfl,?_⟩;have p269 : 0 ≤ (x3_1 : Int):=of_decide_eq_true (by first | (with_reducible assumption) | assumption);have q269 : x3_1 < (l0.length : Int):=of_decide_eq_true (by first | (with_reducible assumption) | assumption);obtain ⟨ad269,A269_1,c269_1,e269,hx269_0,hx269_1,hl269_1,hi269_1⟩:=at_T41 HR0.out x3_1 p269 q269;obtain rfl : ad267 = ad269:=(by injection e269);have HR269_1:=Aside0.mk hi269_1;have HC269_1:=Aside0.mk hl269_1;clear hi269_1 hl269_1;replace p269:=eq_true p269;replace q269:=eq_true q269;have ea_:=Option.some.inj (hx267_1.symm.trans hx269_1);injection ea_ with ea_ en_ ec_;subst ea_;subst ec_;clear en_) | (go_at_call 21;(with_reducible refine (tachographref09_Find.calls k1 _ _ l0 ((rd_T41 l0 x3_1).f0) t270 _ ?side1 ?side2 A8.out).mono ?_);(case side1 => repeat (first | exact HR0.out | (with_reducible refine Kd.C_alloc ?_ _) | (with_reducible refine Kd.C_drewN ?_ _) | (with_reducible refine Kd.C_drew ?_)));(case side2 => exact HC0.out);rintro e w' ⟨rfl,⟨nd,rfl⟩⟩))
        go_meet
        case rel => exact ⟨_,(decide (t270 < x3_1)),(by first | rfl | (simp;done) | (simp [*];done)),H',⟨by have:=HK1.out;first | omega | exact Nat.le_refl _⟩,by repeat (first | exact Drawn0.refl _ | apply Drawn0.step)⟩
       ·replace c7:=Bool.eq_false_iff.mpr c7
        subst c7
        have H1 : (tachographref09_Check.j1 k1 l0 x3_1 true) = some r:=by rw [if_neg (show ¬ (false = true) by decide)] at H;exact H
        clear H
        have H:=H1
        clear H1
        have H':=Aside0.mk H
        clear H
        have p267 : 0 ≤ (x3_1 : Int):=of_decide_eq_true (by first | (with_reducible assumption) | assumption)
        have q267 : x3_1 < (l0.length : Int):=of_decide_eq_true (by first | (with_reducible assumption) | assumption)
        obtain ⟨ad267,A267_1,c267_1,e267,hx267_0,hx267_1,hl267_1,hi267_1⟩:=at_T41 HR0.out x3_1 p267 q267
        cases e267
        have HR267_1:=Aside0.mk hi267_1
        have HC267_1:=Aside0.mk hl267_1
        clear hi267_1 hl267_1
        replace p267:=eq_true p267
        replace q267:=eq_true q267
        go_wp2_with (first | ((with_reducible refine gate_callee (f:=26) rfl ?_);refine goesL_ (some 19) rfl rfl Tryd.func26 (by kernel_rfl) rfl #[.string ((rd_T41 l0 x3_1).f0)] rfl (by (try simp only [List.map_toArray,List.map_cons,List.map_nil]);first | done | rfl | (simp only [List.length_drop,List.length_take];rfl)) ?_;(with_reducible refine (tachographref09_Name.calls k1 ((rd_T41 l0 x3_1).f0) false _ A6.out).mono ?_);rintro e w' ⟨rfl,⟨nd,rfl⟩⟩;refine ⟨_,rfl,?_⟩))
        go_meet
        case rel => exact ⟨_,(true),(by first | rfl | (simp;done) | (simp [*];done)),H',⟨by have:=HK1.out;first | omega | exact Nat.le_refl _⟩,by repeat (first | exact Drawn0.refl _ | apply Drawn0.step)⟩
      ·rw [if_neg c5] at H
       exact absurd H (by simp)
     case rest =>
      clear HC4
      try clear c1
      try clear c2
      try clear c2b0
      try clear c2b1
      try clear p2
      try clear q2
      try clear hx2
      try clear c3
      try clear c3b0
      try clear c5
      try clear c5b0
      try clear c7
      try clear hx267_0
      try clear hx267_1
      try clear hx269_0
      try clear hx269_1
      try clear p2
      try clear p267
      try clear p269
      try clear q267
      try clear q269
      obtain ⟨kq,x31_3,rfl,HA,HJ3,⟨mc3,rfl⟩⟩:=hcut
      cases kq with
      | zero => exact absurd HA.out (by simp [tachographref09_Check.j1])
      | succ kj3 =>
       have H:=HA.out
       clear HA
       simp only [tachographref09_Check.j1] at H
       by_cases c9 : x31_3 = true
       ·subst c9
        have H1 : (some 9) = some r:=by rw [if_pos rfl] at H;exact H
        clear H
        have H:=H1
        clear H1
        obtain rfl:=Option.some.inj H
        go_wp2
        go_ret
        exact ⟨by first | rfl | (simp;done) | (simp [*];done),by repeat (first | exact Drawn0.refl _ | apply Drawn0.step)⟩
       ·replace c9:=Bool.eq_false_iff.mpr c9
        subst c9
        have H1 : (if 0 ≤ x3_1 then (if x3_1 < (l0.length : Int) then (if (((rd_T41 l0 x3_1).f1).length : Int) > 8 then (some 6) else (tachographref09_Check.l1 kj3 l0 x3_1 0)) else (none)) else (none)) = some r:=by rw [if_neg (show ¬ (false = true) by decide)] at H;exact H
        clear H
        have H:=H1
        clear H1
        by_cases c10 : 0 ≤ x3_1
        ·rw [if_pos c10] at H
         have c10b0 : decide (0 ≤ x3_1) = true:=decide_eq_true c10
         clear c10
         by_cases c11 : x3_1 < (l0.length : Int)
         ·rw [if_pos c11] at H
          have c11b0 : decide (x3_1 < (l0.length : Int)) = true:=decide_eq_true c11
          clear c11
          by_cases c12 : (((rd_T41 l0 x3_1).f1).length : Int) > 8
          ·rw [if_pos c12] at H
           have c12b0 : decide (8 < (((rd_T41 l0 x3_1).f1).length : Int)) = true:=decide_eq_true c12
           have c12b1 : decide (8 < ((rd_T41 l0 x3_1).f1).length) = true:=decide_eq_true (by omega)
           clear c12
           obtain rfl:=Option.some.inj H
           have p271 : 0 ≤ (x3_1 : Int):=of_decide_eq_true (by first | (with_reducible assumption) | assumption)
           have q271 : x3_1 < (l0.length : Int):=of_decide_eq_true (by first | (with_reducible assumption) | assumption)
           obtain ⟨ad271,A271_1,c271_1,e271,hx271_0,hx271_1,hl271_1,hi271_1⟩:=at_T41 HR0.out x3_1 p271 q271
           cases e271
           have HR271_1:=Aside0.mk hi271_1
           have HC271_1:=Aside0.mk hl271_1
           clear hi271_1 hl271_1
           replace p271:=eq_true p271
           replace q271:=eq_true q271
           go_wp2
           go_ret
           exact ⟨by first | rfl | (simp;done) | (simp [*];done),by repeat (first | exact Drawn0.refl _ | apply Drawn0.step)⟩
          ·rw [if_neg c12] at H
           have c12b0 : decide (8 < (((rd_T41 l0 x3_1).f1).length : Int)) = false:=decide_eq_false c12
           have c12b1 : decide (8 < ((rd_T41 l0 x3_1).f1).length) = false:=decide_eq_false (by omega)
           clear c12
           have H':=Aside0.mk H
           clear H
           have p271 : 0 ≤ (x3_1 : Int):=of_decide_eq_true (by first | (with_reducible assumption) | assumption)
           have q271 : x3_1 < (l0.length : Int):=of_decide_eq_true (by first | (with_reducible assumption) | assumption)
           obtain ⟨ad271,A271_1,c271_1,e271,hx271_0,hx271_1,hl271_1,hi271_1⟩:=at_T41 HR0.out x3_1 p271 q271
           cases e271
           have HR271_1:=Aside0.mk hi271_1
           have HC271_1:=Aside0.mk hl271_1
           clear hi271_1 hl271_1
           replace p271:=eq_true p271
           replace q271:=eq_true q271
           go_wp2
           go_loopg [4] kj3 (fun kq v4 w' => ∃ (x4_3 : Int),v4 = .int .i64 x4_3 ∧ Aside0 (tachographref09_Check.l1 kq l0 x3_1 x4_3 = some r) ∧ Aside0 (kq ≤ kj3) ∧ Drawn0 w w')
           case atStart => exact ⟨(0),(by first | rfl | (simp;done) | (simp [*];done)),H',⟨Nat.le_refl _⟩,by repeat (first | exact Drawn0.refl _ | apply Drawn0.step)⟩
           case round =>
            clear H'
            try clear c1
            try clear c2
            try clear c2b0
            try clear c2b1
            try clear p2
            try clear q2
            try clear hx2
            try clear c3
            try clear c3b0
            try clear c5
            try clear c5b0
            try clear c7
            try clear c9
            try clear c10
            try clear c10b0
            try clear c11
            try clear c11b0
            try clear c12
            try clear c12b0
            try clear c12b1
            try clear hx267_0
            try clear hx267_1
            try clear hx269_0
            try clear hx269_1
            try clear hx271_0
            try clear hx271_1
            try clear p2
            try clear p267
            try clear p269
            try clear p271
            try clear q2
            try clear q267
            try clear q269
            try clear q271
            obtain ⟨x4_3,rfl,HA,HK3,⟨m3,rfl⟩⟩:=hrel
            cases gk with
            | zero => exact absurd HA.out (by simp [tachographref09_Check.l1])
            | succ k3 =>
             have H:=HA.out
             clear HA
             simp only [tachographref09_Check.l1] at H
             by_cases c13 : 0 ≤ x3_1
             ·rw [if_pos c13] at H
              have c13b0 : decide (0 ≤ x3_1) = true:=decide_eq_true c13
              clear c13
              by_cases c14 : x3_1 < (l0.length : Int)
              ·rw [if_pos c14] at H
               have c14b0 : decide (x3_1 < (l0.length : Int)) = true:=decide_eq_true c14
               clear c14
               by_cases c15 : x4_3 < (((rd_T41 l0 x3_1).f1).length : Int)
               ·rw [if_pos c15] at H
                have c15b0 : decide (x4_3 < (((rd_T41 l0 x3_1).f1).length : Int)) = true:=decide_eq_true c15
                clear c15
                by_cases c16 : 0 ≤ x4_3
                ·rw [if_pos c16] at H
                 have c16b0 : decide (0 ≤ x4_3) = true:=decide_eq_true c16
                 clear c16
                 by_cases c17 : (rd ((rd_T41 l0 x3_1).f1) x4_3) < 1
                 ·rw [if_pos c17] at H
                  have c17b0 : decide ((rd ((rd_T41 l0 x3_1).f1) x4_3) < 1) = true:=decide_eq_true c17
                  clear c17
                  obtain rfl:=Option.some.inj H
                  have p272 : 0 ≤ (x3_1 : Int):=of_decide_eq_true (by first | (with_reducible assumption) | assumption)
                  have q272 : x3_1 < (l0.length : Int):=of_decide_eq_true (by first | (with_reducible assumption) | assumption)
                  obtain ⟨ad272,A272_1,c272_1,e272,hx272_0,hx272_1,hl272_1,hi272_1⟩:=at_T41 HR0.out x3_1 p272 q272
                  obtain rfl : ad271 = ad272:=(by injection e272)
                  have HR272_1:=Aside0.mk hi272_1
                  have HC272_1:=Aside0.mk hl272_1
                  clear hi272_1 hl272_1
                  replace p272:=eq_true p272
                  replace q272:=eq_true q272
                  have p273 : 0 ≤ (x3_1 : Int):=of_decide_eq_true (by first | (with_reducible assumption) | assumption)
                  have q273 : x3_1 < (l0.length : Int):=of_decide_eq_true (by first | (with_reducible assumption) | assumption)
                  obtain ⟨ad273,A273_1,c273_1,e273,hx273_0,hx273_1,hl273_1,hi273_1⟩:=at_T41 HR0.out x3_1 p273 q273
                  obtain rfl : ad271 = ad273:=(by injection e273)
                  have HR273_1:=Aside0.mk hi273_1
                  have HC273_1:=Aside0.mk hl273_1
                  clear hi273_1 hl273_1
                  replace p273:=eq_true p273
                  replace q273:=eq_true q273
                  have ea_:=Option.some.inj (hx272_1.symm.trans hx273_1)
                  injection ea_ with ea_ en_ ec_
                  subst ea_
                  subst ec_
                  clear en_
                  have p274 : 0 ≤ (x4_3 : Int):=of_decide_eq_true (by first | (with_reducible assumption) | assumption)
                  have q274 : x4_3 < (((rd_T41 l0 x3_1).f1).length : Int):=of_decide_eq_true (by first | (with_reducible assumption) | assumption)
                  obtain ⟨ad274,e274,hx274_0⟩:=Kd.at_int HR273_1.out x4_3 p274 q274
                  cases e274
                  replace p274:=eq_true p274
                  replace q274:=eq_true q274
                  go_wp2
                  go_ret
                  exact ⟨by first | rfl | (simp;done) | (simp [*];done),by repeat (first | exact Drawn0.refl _ | apply Drawn0.step)⟩
                 ·rw [if_neg c17] at H
                  have c17b0 : decide ((rd ((rd_T41 l0 x3_1).f1) x4_3) < 1) = false:=decide_eq_false c17
                  clear c17
                  by_cases c18 : (rd ((rd_T41 l0 x3_1).f1) x4_3) > 2
                  ·rw [if_pos c18] at H
                   have c18b0 : decide (2 < (rd ((rd_T41 l0 x3_1).f1) x4_3)) = true:=decide_eq_true c18
                   clear c18
                   obtain rfl:=Option.some.inj H
                   have p272 : 0 ≤ (x3_1 : Int):=of_decide_eq_true (by first | (with_reducible assumption) | assumption)
                   have q272 : x3_1 < (l0.length : Int):=of_decide_eq_true (by first | (with_reducible assumption) | assumption)
                   obtain ⟨ad272,A272_1,c272_1,e272,hx272_0,hx272_1,hl272_1,hi272_1⟩:=at_T41 HR0.out x3_1 p272 q272
                   obtain rfl : ad271 = ad272:=(by injection e272)
                   have HR272_1:=Aside0.mk hi272_1
                   have HC272_1:=Aside0.mk hl272_1
                   clear hi272_1 hl272_1
                   replace p272:=eq_true p272
                   replace q272:=eq_true q272
                   have p273 : 0 ≤ (x3_1 : Int):=of_decide_eq_true (by first | (with_reducible assumption) | assumption)
                   have q273 : x3_1 < (l0.length : Int):=of_decide_eq_true (by first | (with_reducible assumption) | assumption)
                   obtain ⟨ad273,A273_1,c273_1,e273,hx273_0,hx273_1,hl273_1,hi273_1⟩:=at_T41 HR0.out x3_1 p273 q273
                   obtain rfl : ad271 = ad273:=(by injection e273)
                   have HR273_1:=Aside0.mk hi273_1
                   have HC273_1:=Aside0.mk hl273_1
                   clear hi273_1 hl273_1
                   replace p273:=eq_true p273
                   replace q273:=eq_true q273
                   have ea_:=Option.some.inj (hx272_1.symm.trans hx273_1)
                   injection ea_ with ea_ en_ ec_
                   subst ea_
                   subst ec_
                   clear en_
                   have p274 : 0 ≤ (x4_3 : Int):=of_decide_eq_true (by first | (with_reducible assumption) | assumption)
                   have q274 : x4_3 < (((rd_T41 l0 x3_1).f1).length : Int):=of_decide_eq_true (by first | (with_reducible assumption) | assumption)
                   obtain ⟨ad274,e274,hx274_0⟩:=Kd.at_int HR273_1.out x4_3 p274 q274
                   cases e274
                   replace p274:=eq_true p274
                   replace q274:=eq_true q274
                   have p275 : 0 ≤ (x3_1 : Int):=of_decide_eq_true (by first | (with_reducible assumption) | assumption)
                   have q275 : x3_1 < (l0.length : Int):=of_decide_eq_true (by first | (with_reducible assumption) | assumption)
                   obtain ⟨ad275,A275_1,c275_1,e275,hx275_0,hx275_1,hl275_1,hi275_1⟩:=at_T41 HR0.out x3_1 p275 q275
                   obtain rfl : ad271 = ad275:=(by injection e275)
                   have HR275_1:=Aside0.mk hi275_1
                   have HC275_1:=Aside0.mk hl275_1
                   clear hi275_1 hl275_1
                   replace p275:=eq_true p275
                   replace q275:=eq_true q275
                   have ea_:=Option.some.inj (hx272_1.symm.trans hx275_1)
                   injection ea_ with ea_ en_ ec_
                   subst ea_
                   subst ec_
                   clear en_
                   have p276 : 0 ≤ (x4_3 : Int):=of_decide_eq_true (by first | (with_reducible assumption) | assumption)
                   have q276 : x4_3 < (((rd_T41 l0 x3_1).f1).length : Int):=of_decide_eq_true (by first | (with_reducible assumption) | assumption)
                   obtain ⟨ad276,e276,hx276_0⟩:=Kd.at_int HR275_1.out x4_3 p276 q276
                   cases e276
                   replace p276:=eq_true p276
                   replace q276:=eq_true q276
                   go_wp2
                   go_ret
                   exact ⟨by first | rfl | (simp;done) | (simp [*];done),by repeat (first | exact Drawn0.refl _ | apply Drawn0.step)⟩
                  ·rw [if_neg c18] at H
                   have c18b0 : decide (2 < (rd ((rd_T41 l0 x3_1).f1) x4_3)) = false:=decide_eq_false c18
                   clear c18
                   have H':=Aside0.mk H
                   clear H
                   have p272 : 0 ≤ (x3_1 : Int):=of_decide_eq_true (by first | (with_reducible assumption) | assumption)
                   have q272 : x3_1 < (l0.length : Int):=of_decide_eq_true (by first | (with_reducible assumption) | assumption)
                   obtain ⟨ad272,A272_1,c272_1,e272,hx272_0,hx272_1,hl272_1,hi272_1⟩:=at_T41 HR0.out x3_1 p272 q272
                   obtain rfl : ad271 = ad272:=(by injection e272)
                   have HR272_1:=Aside0.mk hi272_1
                   have HC272_1:=Aside0.mk hl272_1
                   clear hi272_1 hl272_1
                   replace p272:=eq_true p272
                   replace q272:=eq_true q272
                   have p273 : 0 ≤ (x3_1 : Int):=of_decide_eq_true (by first | (with_reducible assumption) | assumption)
                   have q273 : x3_1 < (l0.length : Int):=of_decide_eq_true (by first | (with_reducible assumption) | assumption)
                   obtain ⟨ad273,A273_1,c273_1,e273,hx273_0,hx273_1,hl273_1,hi273_1⟩:=at_T41 HR0.out x3_1 p273 q273
                   obtain rfl : ad271 = ad273:=(by injection e273)
                   have HR273_1:=Aside0.mk hi273_1
                   have HC273_1:=Aside0.mk hl273_1
                   clear hi273_1 hl273_1
                   replace p273:=eq_true p273
                   replace q273:=eq_true q273
                   have ea_:=Option.some.inj (hx272_1.symm.trans hx273_1)
                   injection ea_ with ea_ en_ ec_
                   subst ea_
                   subst ec_
                   clear en_
                   have p274 : 0 ≤ (x4_3 : Int):=of_decide_eq_true (by first | (with_reducible assumption) | assumption)
                   have q274 : x4_3 < (((rd_T41 l0 x3_1).f1).length : Int):=of_decide_eq_true (by first | (with_reducible assumption) | assumption)
                   obtain ⟨ad274,e274,hx274_0⟩:=Kd.at_int HR273_1.out x4_3 p274 q274
                   cases e274
                   replace p274:=eq_true p274
                   replace q274:=eq_true q274
                   have p275 : 0 ≤ (x3_1 : Int):=of_decide_eq_true (by first | (with_reducible assumption) | assumption)
                   have q275 : x3_1 < (l0.length : Int):=of_decide_eq_true (by first | (with_reducible assumption) | assumption)
                   obtain ⟨ad275,A275_1,c275_1,e275,hx275_0,hx275_1,hl275_1,hi275_1⟩:=at_T41 HR0.out x3_1 p275 q275
                   obtain rfl : ad271 = ad275:=(by injection e275)
                   have HR275_1:=Aside0.mk hi275_1
                   have HC275_1:=Aside0.mk hl275_1
                   clear hi275_1 hl275_1
                   replace p275:=eq_true p275
                   replace q275:=eq_true q275
                   have ea_:=Option.some.inj (hx272_1.symm.trans hx275_1)
                   injection ea_ with ea_ en_ ec_
                   subst ea_
                   subst ec_
                   clear en_
                   have p276 : 0 ≤ (x4_3 : Int):=of_decide_eq_true (by first | (with_reducible assumption) | assumption)
                   have q276 : x4_3 < (((rd_T41 l0 x3_1).f1).length : Int):=of_decide_eq_true (by first | (with_reducible assumption) | assumption)
                   obtain ⟨ad276,e276,hx276_0⟩:=Kd.at_int HR275_1.out x4_3 p276 q276
                   cases e276
                   replace p276:=eq_true p276
                   replace q276:=eq_true q276
                   go_wp2
                   go_roundg k3
                   case measure => have:=HK1.out;have:=HJ3.out;have:=HK3.out;omega
                   case rel => exact ⟨(wrap64 (x4_3 + 1)),(by first | rfl | (simp;done) | (simp [*];done)),H',⟨by have:=HK1.out;have:=HJ3.out;have:=HK3.out;omega⟩,by repeat (first | exact Drawn0.refl _ | apply Drawn0.step)⟩
                ·rw [if_neg c16] at H
                 exact absurd H (by simp)
               ·rw [if_neg c15] at H
                have c15b0 : decide (x4_3 < (((rd_T41 l0 x3_1).f1).length : Int)) = false:=decide_eq_false c15
                clear c15
                have H':=Aside0.mk H
                clear H
                have p272 : 0 ≤ (x3_1 : Int):=of_decide_eq_true (by first | (with_reducible assumption) | assumption)
                have q272 : x3_1 < (l0.length : Int):=of_decide_eq_true (by first | (with_reducible assumption) | assumption)
                obtain ⟨ad272,A272_1,c272_1,e272,hx272_0,hx272_1,hl272_1,hi272_1⟩:=at_T41 HR0.out x3_1 p272 q272
                obtain rfl : ad271 = ad272:=(by injection e272)
                have HR272_1:=Aside0.mk hi272_1
                have HC272_1:=Aside0.mk hl272_1
                clear hi272_1 hl272_1
                replace p272:=eq_true p272
                replace q272:=eq_true q272
                go_wp2
                go_roundg k3
                case measure => have:=HK1.out;have:=HJ3.out;have:=HK3.out;omega
                case rel => exact ⟨(wrap64 (x3_1 + 1)),(by first | rfl | (simp;done) | (simp [*];done)),H',⟨by have:=HK1.out;have:=HJ3.out;have:=HK3.out;omega⟩,by repeat (first | exact Drawn0.refl _ | apply Drawn0.step)⟩
              ·rw [if_neg c14] at H
               exact absurd H (by simp)
             ·rw [if_neg c13] at H
              exact absurd H (by simp)
         ·rw [if_neg c11] at H
          exact absurd H (by simp)
        ·rw [if_neg c10] at H
         exact absurd H (by simp)
    ·rw [if_neg c3] at H
     have c3b0 : decide (x3_1 < (l0.length : Int)) = false:=decide_eq_false c3
     clear c3
     obtain rfl:=Option.some.inj H
     go_wp2
     go_ret
     exact ⟨by first | rfl | (simp;done) | (simp [*];done),by repeat (first | exact Drawn0.refl _ | apply Drawn0.step)⟩

/-! ### tachographref10_Print: function 12 -/
def tachographref10_Print.l0 : Nat → List (S41) → ByteArray → Int → Option (ByteArray × Int)
 | 0, _, _, _ => none
 | k + 1, x0, x5, x6 => if x6 < (x0.length : Int) then (if 0 ≤ x6 then ((tachographref10_Line.f k ((rd_T41 x0 x6).f0) ((rd_T41 x0 x6).f1)).bind fun t279 => (if x5.size + t279.size ≤ 9223372036854775807 then (if (x5 ++ t279).size + 1 ≤ 9223372036854775807 then (tachographref10_Print.l0 k x0 ((x5 ++ t279) ++ (⟨#[10]⟩ : ByteArray)) (wrap64 (x6 + 1))) else (none)) else (none))) else (none)) else (some (x5, 0))
def tachographref10_Print.f (k : Nat) (l0 : List (S41)) : Option (ByteArray × Int) := (tachographref09_Check.f k l0).bind fun t277 => (if t277 = 0 then (tachographref10_Print.l0 k l0 (⟨#[]⟩ : ByteArray) 0) else (some ((⟨#[]⟩ : ByteArray), t277)))
theorem tachographref10_Print.mono_l : ∀ k, (∀ y0 y1 y2, LeO (tachographref10_Print.l0 k y0 y1 y2) (tachographref10_Print.l0 (k + 1) y0 y1 y2))
 | 0 => fun _ _ _ r h => by simp [tachographref10_Print.l0] at h
 | k + 1 => by
  have ih0 := tachographref10_Print.mono_l k
  ·intro y0 y1 y2
   unfold tachographref10_Print.l0
   repeat' first
   | (with_reducible exact ih0 _ _ _)
   | (with_reducible exact tachographref09_Check.mono _ _)
   | (with_reducible exact tachographref10_Line.mono _ _ _)
   | (with_reducible exact LeO.refl _)
   | (with_reducible exact LeO.none _)
   | (with_reducible refine LeO.ite ?_ ?_)
   | (with_reducible refine LeO.bind ?_ (fun _ => ?_))
   | exact ih0 _ _ _
   | exact tachographref09_Check.mono _ _
   | exact tachographref10_Line.mono _ _ _
   | exact LeO.none _
   | refine LeO.ite ?_ ?_
   | refine LeO.bind ?_ (fun _ => ?_)
theorem tachographref10_Print.mono : ∀ a0 k, LeO (tachographref10_Print.f k a0) (tachographref10_Print.f (k + 1) a0) := by
 intro a0 k
 have ih0 := tachographref10_Print.mono_l k
 unfold tachographref10_Print.f
 repeat' first
   | (with_reducible exact ih0 _ _ _)
   | (with_reducible exact tachographref09_Check.mono _ _)
   | (with_reducible exact tachographref10_Line.mono _ _ _)
   | (with_reducible exact LeO.refl _)
   | (with_reducible exact LeO.none _)
   | (with_reducible refine LeO.ite ?_ ?_)
   | (with_reducible refine LeO.bind ?_ (fun _ => ?_))
   | exact ih0 _ _ _
   | exact tachographref09_Check.mono _ _
   | exact tachographref10_Line.mono _ _ _
   | exact LeO.none _
   | refine LeO.ite ?_ ?_
   | refine LeO.bind ?_ (fun _ => ?_)
set_option maxHeartbeats 8000000 in
set_option maxRecDepth 100000 in
theorem tachographref10_Print.calls (k : Nat) (A0 : Option Addr) (c0 : Nat) (l0 : List (S41)) (r1 : ByteArray) (r2 : Int) (w : World) (hr0 : Kd.C k41 w A0 l0.length l0) (hc0 : l0.length ≤ c0) (h : tachographref10_Print.f k l0 = some (r1,r2)) :
  Calls Tryd.prog 12 #[.slice A0 l0.length c0] w fun e w' => e = .returned (.tuple #[.string r1,.int .i64 r2]) ∧ Below w.heap.size w w':=by
 have hu41:=Tryd.underlying41
 have HR0:=Aside0.mk hr0
 have HC0:=Aside0.mk hc0
 clear hr0 hc0
 have HB:=Aside0.mk (Below.refl w.heap.size w)
 have H : ((tachographref09_Check.f k l0).bind fun t277 => (if t277 = 0 then (tachographref10_Print.l0 k l0 (⟨#[]⟩ : ByteArray) 0) else (some ((⟨#[]⟩ : ByteArray),t277)))) = some (r1,r2):=h
 clear h
 replace H:=Option.bind_eq_some_iff.mp H
 obtain ⟨t277,A20,H⟩:=H
 replace H : (if t277 = 0 then (tachographref10_Print.l0 k l0 (⟨#[]⟩ : ByteArray) 0) else (some ((⟨#[]⟩ : ByteArray),t277))) = some (r1,r2):=H
 have A2:=Aside0.mk A20
 clear A20
 by_cases c3 : t277 = 0
 ·rw [if_pos c3] at H
  have c3b0 : (t277 == 0) = true:=beq_iff_eq.mpr c3
  have c3b1 : (t277 != 0) = false:=bne_eq_false_iff_eq.mpr c3
  clear c3
  have H':=Aside0.mk H
  clear H
  go_enter Tryd.func12,Tryd.ntmps12
  go_wp2_with (first | ((with_reducible refine gate_callee (f:=14) rfl ?_);refine goesL_ (some 8) rfl rfl Tryd.func14 (by kernel_rfl) rfl #[.slice A0 l0.length c0] rfl (by (try simp only [List.map_toArray,List.map_cons,List.map_nil]);first | done | rfl | (simp only [List.length_drop,List.length_take];rfl)) ?_;(with_reducible refine (tachographref09_Check.calls k _ _ l0 t277 _ ?side1 ?side2 A2.out).mono ?_);(case side1 => repeat (first | exact HR0.out | (with_reducible refine Kd.C_alloc ?_ _) | (with_reducible refine Kd.C_drewN ?_ _) | (with_reducible refine Kd.C_drew ?_)));(case side2 => exact HC0.out);rintro e w' ⟨rfl,⟨nd,rfl⟩⟩;refine ⟨_,rfl,?_⟩))
  go_loopg [5,6] k (fun kq v5 v6 w' => ∃ (x5_1 : ByteArray) (x6_1 : Int),v5 = .string x5_1 ∧ v6 = .int .i64 x6_1 ∧ Aside0 (tachographref10_Print.l0 kq l0 x5_1 x6_1 = some (r1,r2)) ∧ Aside0 (kq ≤ k) ∧ Aside0 (Below w.heap.size w w'))
  case atStart => exact ⟨((⟨#[]⟩ : ByteArray)),(0),(by first | rfl | (simp;done) | (simp [*];done)),(by first | rfl | (simp;done) | (simp [*];done)),H',⟨Nat.le_refl _⟩,⟨by repeat (first | (with_reducible first | exact HB.out | apply below_alloc | apply pw_below_drewN | apply below_drew1) | exact HB.out)⟩⟩
  case round =>
   clear H'
   try clear c1
   try clear p2
   try clear c3
   try clear c3b0
   try clear c3b1
   obtain ⟨x5_1,x6_1,rfl,rfl,HA,HK1,HB⟩:=hrel
   cases gk with
   | zero => exact absurd HA.out (by simp [tachographref10_Print.l0])
   | succ k1 =>
    have H:=HA.out
    clear HA
    simp only [tachographref10_Print.l0] at H
    by_cases c4 : x6_1 < (l0.length : Int)
    ·rw [if_pos c4] at H
     have c4b0 : decide (x6_1 < (l0.length : Int)) = true:=decide_eq_true c4
     clear c4
     by_cases c5 : 0 ≤ x6_1
     ·rw [if_pos c5] at H
      have c5b0 : decide (0 ≤ x6_1) = true:=decide_eq_true c5
      clear c5
      replace H:=Option.bind_eq_some_iff.mp H
      obtain ⟨t279,A60,H⟩:=H
      replace H : (if x5_1.size + t279.size ≤ 9223372036854775807 then (if (x5_1 ++ t279).size + 1 ≤ 9223372036854775807 then (tachographref10_Print.l0 k1 l0 ((x5_1 ++ t279) ++ (⟨#[10]⟩ : ByteArray)) (wrap64 (x6_1 + 1))) else (none)) else (none)) = some (r1,r2):=H
      have A6:=Aside0.mk A60
      clear A60
      by_cases c7 : x5_1.size + t279.size ≤ 9223372036854775807
      ·rw [if_pos c7] at H
       have c7b0:=eq_true c7
       have c7b1 : decide (x5_1.size + t279.size ≤ 9223372036854775807) = true:=decide_eq_true c7
       try have c7b2 : (9223372036854775807 < x5_1.size + t279.size) = False:=eq_false (Nat.not_lt.2 c7)
       by_cases c8 : (x5_1 ++ t279).size + 1 ≤ 9223372036854775807
       ·rw [if_pos c8] at H
        have c8b0:=eq_true c8
        have c8b1 : decide ((x5_1 ++ t279).size + 1 ≤ 9223372036854775807) = true:=decide_eq_true c8
        try have c8b2 : (9223372036854775807 < (x5_1 ++ t279).size + 1) = False:=eq_false (Nat.not_lt.2 c8)
        try have c8b3 : (9223372036854775807 < x5_1.size + t279.size + 1) = False:=eq_false (by have h_:=c8;simp only [ByteArray.size_append] at h_; omega)
        have H':=Aside0.mk H
        clear H
        have p278 : 0 ≤ (x6_1 : Int):=of_decide_eq_true (by first | (with_reducible assumption) | assumption)
        have q278 : x6_1 < (l0.length : Int):=of_decide_eq_true (by first | (with_reducible assumption) | assumption)
        obtain ⟨ad278,A278_1,c278_1,e278,hx278_0,hx278_1,hl278_1,hi278_1⟩:=at_T41 HR0.out x6_1 p278 q278
        cases e278
        replace hx278_0:=(HB.out.cell (World.block_lt_of_cell? w _ hx278_0)).trans hx278_0
        replace hx278_1:=(HB.out.cell (World.block_lt_of_cell? w _ hx278_1)).trans hx278_1
        have HR278_1:=Aside0.mk hi278_1
        have HC278_1:=Aside0.mk hl278_1
        clear hi278_1 hl278_1
        replace p278:=eq_true p278
        replace q278:=eq_true q278
        go_wp2_with (first | ((with_reducible refine gate_callee (f:=15) rfl ?_);refine goesL_ (some 23) rfl rfl Tryd.func15 (by kernel_rfl) rfl #[.agg #[.string ((rd_T41 l0 x6_1).f0),.slice A278_1 ((rd_T41 l0 x6_1).f1).length c278_1]] rfl (by (try simp only [List.map_toArray,List.map_cons,List.map_nil]);first | done | rfl | (simp only [List.length_drop,List.length_take];rfl)) ?_;(with_reducible refine (tachographref10_Line.calls k1 ((rd_T41 l0 x6_1).f0) _ _ ((rd_T41 l0 x6_1).f1) t279 _ ?side1 ?side2 A6.out).mono ?_);(case side1 => repeat (first | exact (Kd.C_below HR278_1.out HB.out) | (with_reducible refine Kd.C_alloc ?_ _) | (with_reducible refine Kd.C_drewN ?_ _) | (with_reducible refine Kd.C_drew ?_)));(case side2 => exact HC278_1.out);rintro e w9 ⟨rfl,hb⟩;refine ⟨_,rfl,?_⟩;have n0_:=Aside0.mk (below_step (by repeat (first | (with_reducible first | exact HB.out | apply below_alloc | apply pw_below_drewN | apply below_drew1) | exact HB.out)) hb);clear HB;have HB:=n0_;clear n0_;(try clear hb);(try clear hb2);(try clear hk);(try clear hi)))
        go_roundg k1
        case measure => have:=HK1.out;omega
        case rel => exact ⟨((x5_1 ++ t279) ++ (⟨#[10]⟩ : ByteArray)),(wrap64 (x6_1 + 1)),(by first | rfl | (simp;done) | (simp [*];done)),(by first | rfl | (simp;done) | (simp [*];done)),H',⟨by have:=HK1.out;omega⟩,⟨by repeat (first | (with_reducible first | exact HB.out | apply below_alloc | apply pw_below_drewN | apply below_drew1) | exact HB.out)⟩⟩
       ·rw [if_neg c8] at H
        exact absurd H (by simp)
      ·rw [if_neg c7] at H
       exact absurd H (by simp)
     ·rw [if_neg c5] at H
      exact absurd H (by simp)
    ·rw [if_neg c4] at H
     have c4b0 : decide (x6_1 < (l0.length : Int)) = false:=decide_eq_false c4
     clear c4
     simp only [Option.some.injEq,Prod.mk.injEq] at H
     obtain ⟨rfl,rfl⟩:=H
     go_wp2
     go_ret2
     exact ⟨by first | rfl | (simp [errW_none,errW_some] <;> rfl) | (simp [*,errW_none,errW_some] <;> rfl),by repeat (first | (with_reducible first | exact HB.out | apply below_alloc | apply pw_below_drewN | apply below_drew1) | exact HB.out)⟩
 ·rw [if_neg c3] at H
  have c3b0 : (t277 == 0) = false:=beq_eq_false_iff_ne.mpr c3
  have c3b1 : (t277 != 0) = true:=bne_iff_ne.mpr c3
  simp only [Option.some.injEq,Prod.mk.injEq] at H
  obtain ⟨rfl,rfl⟩:=H
  go_enter Tryd.func12,Tryd.ntmps12
  go_wp2_with (first | ((with_reducible refine gate_callee (f:=14) rfl ?_);refine goesL_ (some 8) rfl rfl Tryd.func14 (by kernel_rfl) rfl #[.slice A0 l0.length c0] rfl (by (try simp only [List.map_toArray,List.map_cons,List.map_nil]);first | done | rfl | (simp only [List.length_drop,List.length_take];rfl)) ?_;(with_reducible refine (tachographref09_Check.calls k _ _ l0 t277 _ ?side1 ?side2 A2.out).mono ?_);(case side1 => repeat (first | exact HR0.out | (with_reducible refine Kd.C_alloc ?_ _) | (with_reducible refine Kd.C_drewN ?_ _) | (with_reducible refine Kd.C_drew ?_)));(case side2 => exact HC0.out);rintro e w' ⟨rfl,⟨nd,rfl⟩⟩;refine ⟨_,rfl,?_⟩))
  go_ret2
  exact ⟨by first | rfl | (simp [errW_none,errW_some] <;> rfl) | (simp [*,errW_none,errW_some] <;> rfl),by repeat (first | (with_reducible first | exact HB.out | apply below_alloc | apply pw_below_drewN | apply below_drew1) | exact HB.out)⟩

/-! ### sigtext_Line: function 13 -/
def sigtext_Line.f (k : Nat) (a0_0 : ByteArray) (l0_1 : List Int) : Option (ByteArray × Int) := (sig_Check.f k (([(⟨a0_0, l0_1⟩ : S41)] : List (S41)))).bind fun t284 => (if t284 = 0 then ((sigtext_line.f k a0_0 l0_1).bind fun t285 => (some (t285, 0))) else (some ((⟨#[]⟩ : ByteArray), t284)))
theorem sigtext_Line.mono : ∀ a0 a1 k, LeO (sigtext_Line.f k a0 a1) (sigtext_Line.f (k + 1) a0 a1) := by
 intro a0 a1 k
 unfold sigtext_Line.f
 repeat' first
   | (with_reducible exact sig_Check.mono _ _)
   | (with_reducible exact sigtext_line.mono _ _ _)
   | (with_reducible exact LeO.refl _)
   | (with_reducible exact LeO.none _)
   | (with_reducible refine LeO.ite ?_ ?_)
   | (with_reducible refine LeO.bind ?_ (fun _ => ?_))
   | exact sig_Check.mono _ _
   | exact sigtext_line.mono _ _ _
   | exact LeO.none _
   | refine LeO.ite ?_ ?_
   | refine LeO.bind ?_ (fun _ => ?_)
set_option maxHeartbeats 8000000 in
set_option maxRecDepth 100000 in
theorem sigtext_Line.calls (k : Nat) (a0_0 : ByteArray) (P0_1_ : Nat → Prop) (A0_1 : Option Addr) (c0_1 : Nat) (l0_1 : List Int) (r1 : ByteArray) (r2 : Int) (w : World) (hs0_1 : Kd.V (Kd.int .i64) 3 w w.heap.size (fun k_ => P0_1_ k_) (.slice A0_1 l0_1.length c0_1) l0_1) (h : sigtext_Line.f k a0_0 l0_1 = some (r1,r2)) (hg : Go.Proofs.YtmmfakdncjeoeacDoorAid.Glob w) :
  Calls Tryd.prog 13 #[.agg #[.string a0_0,.slice A0_1 l0_1.length c0_1]] w fun e w' => e = .returned (.tuple #[.string r1,.int .i64 r2]) ∧ Below w.heap.size w w':=by
 have hu41:=Tryd.underlying41
 have HO0_1:=Aside0.mk (show Kd.V (Kd.int .i64) 3 w w.heap.size (fun k_ => (P0_1_ k_ ∨ w.heap.size ≤ k_)) (.slice A0_1 l0_1.length c0_1) l0_1 from Kd.V_mono hs0_1 (fun k_ hk => .inl hk))
 have HB:=Aside0.mk (Below.refl w.heap.size w)
 have HG:=Aside0.mk hg
 clear hg
 have H : ((sig_Check.f k (([(⟨a0_0,l0_1⟩ : S41)] : List (S41)))).bind fun t284 => (if t284 = 0 then ((sigtext_line.f k a0_0 l0_1).bind fun t285 => (some (t285,0))) else (some ((⟨#[]⟩ : ByteArray),t284)))) = some (r1,r2):=h
 clear h
 obtain ⟨y281,hy281⟩ : ∃ y_ : List (S41),y_ = (([(⟨a0_0,l0_1⟩ : S41)] : List (S41))):=⟨_,rfl⟩
 replace H : ((sig_Check.f k y281).bind fun t284 => (if t284 = 0 then ((sigtext_line.f k a0_0 l0_1).bind fun t285 => (some (t285,0))) else (some ((⟨#[]⟩ : ByteArray),t284)))) = some (r1,r2):=by first | (rw [hy281];with_reducible exact H) | (have H2_:=(Option.bind_some _ _).symm.trans H;rw [hy281];with_reducible exact H2_) | (have H2_:=(Option.bind_some _ _).symm.trans H;with_reducible exact H2_) | with_reducible exact H | (rw [hy281];exact H) | exact H
 have Ny281:=Aside0.mk hy281
 clear hy281
 replace H:=Option.bind_eq_some_iff.mp H
 obtain ⟨t284,A20,H⟩:=H
 replace H : (if t284 = 0 then ((sigtext_line.f k a0_0 l0_1).bind fun t285 => (some (t285,0))) else (some ((⟨#[]⟩ : ByteArray),t284))) = some (r1,r2):=H
 have A2:=Aside0.mk A20
 clear A20
 by_cases c3 : t284 = 0
 ·rw [if_pos c3] at H
  have c3b0 : (t284 == 0) = true:=beq_iff_eq.mpr c3
  have c3b1 : (t284 != 0) = false:=bne_eq_false_iff_eq.mpr c3
  clear c3
  replace H:=Option.bind_eq_some_iff.mp H
  obtain ⟨t285,A40,H⟩:=H
  replace H : (some (t285,0)) = some (r1,r2):=H
  have A4:=Aside0.mk A40
  clear A40
  simp only [Option.some.injEq,Prod.mk.injEq] at H
  obtain ⟨rfl,rfl⟩:=H
  go_enter Tryd.func13,Tryd.ntmps13
  go_wp2_with (first | ((with_reducible refine gate_dst (N:=1) rfl ?_);refine box_event ?hg (N:=1) ?hd (cs:=#[.string a0_0,.slice A0_1 l0_1.length c0_1]) (t:=41) ?hr ?_;(case hd => rfl);(case hg => rfl);(case hr => first | (go_simp;done) | (go_simp;rfl));intro gb280 hg w5 hbox hb;have n0_:=Aside0.mk (Kd.V_below (Kd.V_elderB (by (with_reducible repeat (first | apply Kd.V_alloc | apply Kd.V_drewN | apply Kd.V_drew));exact HO0_1.out) gb280 (Nat.le_of_eq hg.symm)) hb);have n1_:=Aside0.mk (below_step (by repeat (first | (with_reducible first | exact HB.out | apply below_alloc | apply pw_below_drewN | apply below_drew1) | exact HB.out)) hb);have n2_:=Aside0.mk (hbox);have n3_:=Aside0.mk ((by rw [hg];exact (below_size (by repeat (first | (with_reducible first | exact HB.out | apply below_alloc | apply pw_below_drewN | apply below_drew1) | exact HB.out))) : w.heap.size ≤ gb280));have n4_:=Aside0.mk ((by rw [hg];exact (below_size (by repeat (first | (with_reducible first | exact HB.out | apply below_alloc | apply pw_below_drewN | apply below_drew1) | exact HB.out))) : w.heap.size ≤ gb280));clear HO0_1;clear HB;have HO0_1:=n0_;have HB:=n1_;have BK280:=n2_;have GW280:=n3_;have GE280:=n4_;clear n0_ n1_ n2_ n3_ n4_;clear hb hbox hg;have hcz6_0 : w5.cell? ⟨gb280,0,none⟩ = some (.string a0_0):=(blk_cell BK280.out 0).trans rfl;have hcz6_1 : w5.cell? ⟨gb280,1,none⟩ = some (.slice A0_1 l0_1.length c0_1):=(blk_cell BK280.out 1).trans rfl;have hfz6_0:=blk_frozen BK280.out 0;have hfz6_1:=blk_frozen BK280.out 1) | ((with_reducible refine gate_dst (N:=6) rfl ?_);refine Kd.N_lit k41 _ 41 ?hg (N':=6) ?hd (xs:=([(⟨a0_0,l0_1⟩ : S41)] : List (S41))) (inner:=[.string a0_0,.slice A0_1 l0_1.length c0_1]) (ok:=(fun k_ => (P0_1_ k_ ∨ w.heap.size ≤ k_) ∧ k_ ≠ gb280)) (okp:=(fun k_ => (P0_1_ k_ ∨ w.heap.size ≤ k_) ∧ k_ ≠ gb280)) ?hr ?hp (fun _ hk => hk) ((show ∀ k_,w5.heap.size ≤ k_ → (fun k_ => (P0_1_ k_ ∨ w.heap.size ≤ k_) ∧ k_ ≠ gb280) k_ from fun k_ hk => ⟨(.inr (Nat.le_trans (below_size (by repeat (first | (with_reducible first | exact HB.out | apply below_alloc | apply pw_below_drewN | apply below_drew1 | refine below_set ?_ GE280.out) | exact HB.out))) hk)),Kd.freshB (g:=gb280) (o:=.cells #[.string a0_0,.slice A0_1 l0_1.length c0_1] 41 (0,0)) (by (with_reducible repeat (first | refine blk_drewN ?_ _ | refine blk_drew ?_ | refine blk_alloc ?_ _));exact BK280.out) k_ hk⟩) _ (Nat.le_refl _)) (Below.refl _ _) (Nat.le_refl _) (by simp) ?_;(case hd => rfl);(case hg => rfl);(case hr => first | (go_simp;done) | (go_simp;rfl));(case hp => exact (Reps.c2 (show Kd.FK k41 _ _ (⟨a0_0,l0_1⟩ : S41) [.string a0_0,.slice A0_1 l0_1.length c0_1] from (k41_mkF _ _ (⟨a0_0,l0_1⟩ : S41) (Kd.V_reads' (Kd.V_mono (ok':=(fun k_ => (P0_1_ k_ ∨ w.heap.size ≤ k_) ∧ k_ ≠ gb280)) (HO0_1.out) (fun k_ hk => ⟨hk.1,hk.2⟩))).2.1 (Kd.V_F (Kd.V_mono (ok':=(fun k_ => (P0_1_ k_ ∨ w.heap.size ≤ k_) ∧ k_ ≠ gb280)) (HO0_1.out) (fun k_ hk => ⟨hk.1,hk.2⟩))))) (Reps.none _ _)));intro v282 w7 ho8 hb hg_ hnew_;clear hg_ hnew_;(first | rw [← Ny281.out] at ho8 | (simp only [Int.reduceToNat] at ho8;rw [← Ny281.out] at ho8));have n0_:=Aside0.mk (Kd.V_elder' (by (with_reducible repeat (first | apply Kd.V_alloc | apply Kd.V_drewN | apply Kd.V_drew));exact HO0_1.out) (Kd.N_base ho8) hb);have n1_:=Aside0.mk (Kd.N_lower ho8 (below_size (by repeat (first | (with_reducible first | exact HB.out | apply below_alloc | apply pw_below_drewN | apply below_drew1 | refine below_set ?_ GE280.out) | exact HB.out))));have n2_:=Aside0.mk (blk_below (g:=gb280) (o:=.cells #[.string a0_0,.slice A0_1 l0_1.length c0_1] 41 (0,0)) (by (with_reducible repeat (first | refine blk_drewN ?_ _ | refine blk_drew ?_ | refine blk_alloc ?_ _));exact BK280.out) hb);have n3_:=Aside0.mk (below_step (by repeat (first | (with_reducible first | exact HB.out | apply below_alloc | apply pw_below_drewN | apply below_drew1 | refine below_set ?_ GE280.out) | exact HB.out)) hb);clear HO0_1;clear BK280;clear HB;have HO0_1:=n0_;have HO283:=n1_;have BK280:=n2_;have HB:=n3_;clear n0_ n1_ n2_ n3_;clear hb ho8;obtain ⟨Ao9,co9,eo9⟩:=Kd.N_slice HO283.out;subst eo9) | ((with_reducible refine gate_callee (f:=22) rfl ?_);refine goesL_ (some 7) rfl rfl Tryd.func22 (by kernel_rfl) rfl #[.slice Ao9 y281.length co9] rfl (by (try simp only [List.map_toArray,List.map_cons,List.map_nil]);first | done | rfl | (simp only [List.length_drop,List.length_take];rfl)) ?_;(with_reducible refine (sig_Check.calls k _ _ y281 t284 _ ?side1 ?side2 A2.out).mono ?_);(case side1 => repeat (first | exact (Kd.N_reads' HO283.out).2.2 | (with_reducible refine Kd.C_alloc ?_ _) | (with_reducible refine Kd.C_drewN ?_ _) | (with_reducible refine Kd.C_drew ?_)));(case side2 => exact (Kd.N_reads' HO283.out).2.1);rintro e w10 ⟨rfl,hb⟩;refine ⟨_,rfl,?_⟩;have n0_:=Aside0.mk (Kd.V_below (by (with_reducible repeat (first | apply Kd.V_alloc | apply Kd.V_drewN | apply Kd.V_drew));exact HO0_1.out) hb);have n1_:=Aside0.mk (Kd.N_below (by (with_reducible repeat (first | apply Kd.N_alloc | apply Kd.N_drewN | apply Kd.N_drew));exact HO283.out) hb);have n2_:=Aside0.mk (blk_below (g:=gb280) (o:=.cells #[.string a0_0,.slice A0_1 l0_1.length c0_1] 41 (0,0)) (by (with_reducible repeat (first | refine blk_drewN ?_ _ | refine blk_drew ?_ | refine blk_alloc ?_ _));exact BK280.out) hb);have n3_:=Aside0.mk (below_step (by repeat (first | (with_reducible first | exact HB.out | apply below_alloc | apply pw_below_drewN | apply below_drew1 | refine below_set ?_ GE280.out) | exact HB.out)) hb);clear HO0_1;clear HO283;clear BK280;clear HB;have HO0_1:=n0_;have HO283:=n1_;have BK280:=n2_;have HB:=n3_;clear n0_ n1_ n2_ n3_;(try clear hb);(try clear hb2);(try clear hk);(try clear hi);have hcz11_0 : w10.cell? ⟨gb280,0,none⟩ = some (.string a0_0):=(blk_cell BK280.out 0).trans rfl;have hcz11_1 : w10.cell? ⟨gb280,1,none⟩ = some (.slice A0_1 l0_1.length c0_1):=(blk_cell BK280.out 1).trans rfl;have hfz11_0:=blk_frozen BK280.out 0;have hfz11_1:=blk_frozen BK280.out 1) | ((with_reducible refine gate_callee (f:=24) rfl ?_);refine goesL_ (some 12) rfl rfl Tryd.func24 (by kernel_rfl) rfl #[.agg #[.string a0_0,.slice A0_1 l0_1.length c0_1]] rfl (by (try simp only [List.map_toArray,List.map_cons,List.map_nil]);first | done | rfl | (simp only [List.length_drop,List.length_take];rfl)) ?_;(with_reducible refine (sigtext_line.calls k a0_0 _ _ l0_1 t285 _ ?side1 ?side2 A4.out (HG.out.below (by repeat (first | (with_reducible first | exact HB.out | apply below_alloc | apply pw_below_drewN | apply below_drew1 | refine below_set ?_ GE280.out) | exact HB.out)))).mono ?_);(case side1 => repeat (first | exact (Kd.V_reads' HO0_1.out).2.2 | (with_reducible refine Kd.C_alloc ?_ _) | (with_reducible refine Kd.C_drewN ?_ _) | (with_reducible refine Kd.C_drew ?_)));(case side2 => exact (Kd.V_reads' HO0_1.out).2.1);rintro e w12 ⟨rfl,hb⟩;refine ⟨_,rfl,?_⟩;have n0_:=Aside0.mk (Kd.V_below (by (with_reducible repeat (first | apply Kd.V_alloc | apply Kd.V_drewN | apply Kd.V_drew));exact HO0_1.out) hb);have n1_:=Aside0.mk (Kd.N_below (by (with_reducible repeat (first | apply Kd.N_alloc | apply Kd.N_drewN | apply Kd.N_drew));exact HO283.out) hb);have n2_:=Aside0.mk (blk_below (g:=gb280) (o:=.cells #[.string a0_0,.slice A0_1 l0_1.length c0_1] 41 (0,0)) (by (with_reducible repeat (first | refine blk_drewN ?_ _ | refine blk_drew ?_ | refine blk_alloc ?_ _));exact BK280.out) hb);have n3_:=Aside0.mk (below_step (by repeat (first | (with_reducible first | exact HB.out | apply below_alloc | apply pw_below_drewN | apply below_drew1 | refine below_set ?_ GE280.out) | exact HB.out)) hb);clear HO0_1;clear HO283;clear BK280;clear HB;have HO0_1:=n0_;have HO283:=n1_;have BK280:=n2_;have HB:=n3_;clear n0_ n1_ n2_ n3_;(try clear hb);(try clear hb2);(try clear hk);(try clear hi)))
  go_ret2
  exact ⟨by first | rfl | (simp [errW_none,errW_some] <;> rfl) | (simp [*,errW_none,errW_some] <;> rfl),by repeat (first | (with_reducible first | exact HB.out | apply below_alloc | apply pw_below_drewN | apply below_drew1 | refine below_set ?_ GE280.out) | exact HB.out)⟩
 ·rw [if_neg c3] at H
  have c3b0 : (t284 == 0) = false:=beq_eq_false_iff_ne.mpr c3
  have c3b1 : (t284 != 0) = true:=bne_iff_ne.mpr c3
  simp only [Option.some.injEq,Prod.mk.injEq] at H
  obtain ⟨rfl,rfl⟩:=H
  go_enter Tryd.func13,Tryd.ntmps13
  go_wp2_with (first | ((with_reducible refine gate_dst (N:=1) rfl ?_);refine box_event ?hg (N:=1) ?hd (cs:=#[.string a0_0,.slice A0_1 l0_1.length c0_1]) (t:=41) ?hr ?_;(case hd => rfl);(case hg => rfl);(case hr => first | (go_simp;done) | (go_simp;rfl));intro gb280 hg w13 hbox hb;have n0_:=Aside0.mk (Kd.V_below (Kd.V_elderB (by (with_reducible repeat (first | apply Kd.V_alloc | apply Kd.V_drewN | apply Kd.V_drew));exact HO0_1.out) gb280 (Nat.le_of_eq hg.symm)) hb);have n1_:=Aside0.mk (below_step (by repeat (first | (with_reducible first | exact HB.out | apply below_alloc | apply pw_below_drewN | apply below_drew1) | exact HB.out)) hb);have n2_:=Aside0.mk (hbox);have n3_:=Aside0.mk ((by rw [hg];exact (below_size (by repeat (first | (with_reducible first | exact HB.out | apply below_alloc | apply pw_below_drewN | apply below_drew1) | exact HB.out))) : w.heap.size ≤ gb280));have n4_:=Aside0.mk ((by rw [hg];exact (below_size (by repeat (first | (with_reducible first | exact HB.out | apply below_alloc | apply pw_below_drewN | apply below_drew1) | exact HB.out))) : w.heap.size ≤ gb280));clear HO0_1;clear HB;have HO0_1:=n0_;have HB:=n1_;have BK280:=n2_;have GW280:=n3_;have GE280:=n4_;clear n0_ n1_ n2_ n3_ n4_;clear hb hbox hg;have hcz14_0 : w13.cell? ⟨gb280,0,none⟩ = some (.string a0_0):=(blk_cell BK280.out 0).trans rfl;have hcz14_1 : w13.cell? ⟨gb280,1,none⟩ = some (.slice A0_1 l0_1.length c0_1):=(blk_cell BK280.out 1).trans rfl;have hfz14_0:=blk_frozen BK280.out 0;have hfz14_1:=blk_frozen BK280.out 1) | ((with_reducible refine gate_dst (N:=6) rfl ?_);refine Kd.N_lit k41 _ 41 ?hg (N':=6) ?hd (xs:=([(⟨a0_0,l0_1⟩ : S41)] : List (S41))) (inner:=[.string a0_0,.slice A0_1 l0_1.length c0_1]) (ok:=(fun k_ => (P0_1_ k_ ∨ w.heap.size ≤ k_) ∧ k_ ≠ gb280)) (okp:=(fun k_ => (P0_1_ k_ ∨ w.heap.size ≤ k_) ∧ k_ ≠ gb280)) ?hr ?hp (fun _ hk => hk) ((show ∀ k_,w13.heap.size ≤ k_ → (fun k_ => (P0_1_ k_ ∨ w.heap.size ≤ k_) ∧ k_ ≠ gb280) k_ from fun k_ hk => ⟨(.inr (Nat.le_trans (below_size (by repeat (first | (with_reducible first | exact HB.out | apply below_alloc | apply pw_below_drewN | apply below_drew1 | refine below_set ?_ GE280.out) | exact HB.out))) hk)),Kd.freshB (g:=gb280) (o:=.cells #[.string a0_0,.slice A0_1 l0_1.length c0_1] 41 (0,0)) (by (with_reducible repeat (first | refine blk_drewN ?_ _ | refine blk_drew ?_ | refine blk_alloc ?_ _));exact BK280.out) k_ hk⟩) _ (Nat.le_refl _)) (Below.refl _ _) (Nat.le_refl _) (by simp) ?_;(case hd => rfl);(case hg => rfl);(case hr => first | (go_simp;done) | (go_simp;rfl));(case hp => exact (Reps.c2 (show Kd.FK k41 _ _ (⟨a0_0,l0_1⟩ : S41) [.string a0_0,.slice A0_1 l0_1.length c0_1] from (k41_mkF _ _ (⟨a0_0,l0_1⟩ : S41) (Kd.V_reads' (Kd.V_mono (ok':=(fun k_ => (P0_1_ k_ ∨ w.heap.size ≤ k_) ∧ k_ ≠ gb280)) (HO0_1.out) (fun k_ hk => ⟨hk.1,hk.2⟩))).2.1 (Kd.V_F (Kd.V_mono (ok':=(fun k_ => (P0_1_ k_ ∨ w.heap.size ≤ k_) ∧ k_ ≠ gb280)) (HO0_1.out) (fun k_ hk => ⟨hk.1,hk.2⟩))))) (Reps.none _ _)));intro v282 w15 ho16 hb hg_ hnew_;clear hg_ hnew_;(first | rw [← Ny281.out] at ho16 | (simp only [Int.reduceToNat] at ho16;rw [← Ny281.out] at ho16));have n0_:=Aside0.mk (Kd.V_elder' (by (with_reducible repeat (first | apply Kd.V_alloc | apply Kd.V_drewN | apply Kd.V_drew));exact HO0_1.out) (Kd.N_base ho16) hb);have n1_:=Aside0.mk (Kd.N_lower ho16 (below_size (by repeat (first | (with_reducible first | exact HB.out | apply below_alloc | apply pw_below_drewN | apply below_drew1 | refine below_set ?_ GE280.out) | exact HB.out))));have n2_:=Aside0.mk (blk_below (g:=gb280) (o:=.cells #[.string a0_0,.slice A0_1 l0_1.length c0_1] 41 (0,0)) (by (with_reducible repeat (first | refine blk_drewN ?_ _ | refine blk_drew ?_ | refine blk_alloc ?_ _));exact BK280.out) hb);have n3_:=Aside0.mk (below_step (by repeat (first | (with_reducible first | exact HB.out | apply below_alloc | apply pw_below_drewN | apply below_drew1 | refine below_set ?_ GE280.out) | exact HB.out)) hb);clear HO0_1;clear BK280;clear HB;have HO0_1:=n0_;have HO283:=n1_;have BK280:=n2_;have HB:=n3_;clear n0_ n1_ n2_ n3_;clear hb ho16;obtain ⟨Ao17,co17,eo17⟩:=Kd.N_slice HO283.out;subst eo17) | ((with_reducible refine gate_callee (f:=22) rfl ?_);refine goesL_ (some 7) rfl rfl Tryd.func22 (by kernel_rfl) rfl #[.slice Ao17 y281.length co17] rfl (by (try simp only [List.map_toArray,List.map_cons,List.map_nil]);first | done | rfl | (simp only [List.length_drop,List.length_take];rfl)) ?_;(with_reducible refine (sig_Check.calls k _ _ y281 t284 _ ?side1 ?side2 A2.out).mono ?_);(case side1 => repeat (first | exact (Kd.N_reads' HO283.out).2.2 | (with_reducible refine Kd.C_alloc ?_ _) | (with_reducible refine Kd.C_drewN ?_ _) | (with_reducible refine Kd.C_drew ?_)));(case side2 => exact (Kd.N_reads' HO283.out).2.1);rintro e w18 ⟨rfl,hb⟩;refine ⟨_,rfl,?_⟩;have n0_:=Aside0.mk (Kd.V_below (by (with_reducible repeat (first | apply Kd.V_alloc | apply Kd.V_drewN | apply Kd.V_drew));exact HO0_1.out) hb);have n1_:=Aside0.mk (Kd.N_below (by (with_reducible repeat (first | apply Kd.N_alloc | apply Kd.N_drewN | apply Kd.N_drew));exact HO283.out) hb);have n2_:=Aside0.mk (blk_below (g:=gb280) (o:=.cells #[.string a0_0,.slice A0_1 l0_1.length c0_1] 41 (0,0)) (by (with_reducible repeat (first | refine blk_drewN ?_ _ | refine blk_drew ?_ | refine blk_alloc ?_ _));exact BK280.out) hb);have n3_:=Aside0.mk (below_step (by repeat (first | (with_reducible first | exact HB.out | apply below_alloc | apply pw_below_drewN | apply below_drew1 | refine below_set ?_ GE280.out) | exact HB.out)) hb);clear HO0_1;clear HO283;clear BK280;clear HB;have HO0_1:=n0_;have HO283:=n1_;have BK280:=n2_;have HB:=n3_;clear n0_ n1_ n2_ n3_;(try clear hb);(try clear hb2);(try clear hk);(try clear hi)))
  go_ret2
  exact ⟨by first | rfl | (simp [errW_none,errW_some] <;> rfl) | (simp [*,errW_none,errW_some] <;> rfl),by repeat (first | (with_reducible first | exact HB.out | apply below_alloc | apply pw_below_drewN | apply below_drew1 | refine below_set ?_ GE280.out) | exact HB.out)⟩

end Go.Proofs.YtmmfakdncjeoeacDoor.PE
