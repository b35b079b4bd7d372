-- Contracts of Go functions, each with its plain Lean function: written by wip/tools/myprint.py of this work (the kit's print, with contracts proved by hand spliced in).
import Derived.Test.YtmmfakdncjeoeacDoorPEx0
import Derived.Test.YtmmfakdncjeoeacDoorPEx1
import Derived.Test.YtmmfakdncjeoeacDoorPEx4
namespace Go.Proofs.YtmmfakdncjeoeacDoor.PE
open Go.RowKit Go.Proofs.YtmmfakdncjeoeacDoorW.PrintWords Go.Proofs.YtmmfakdncjeoeacDoorW.PrintLast Go.Proofs.YtmmfakdncjeoeacDoorW.PrintMore
attribute [local go_sem] max2_int min2_int max_two min_two max_three min_three max_four min_four   -- for this text's walks alone
set_option linter.unusedVariables false
set_option linter.unusedSimpArgs false

attribute [local go_sem high] eqA26
/-! ### tachographref09_Same: function 9 -/
mutual
def tachographref09_Same.l0 : Nat → List (S41) → List (S41) → Int → Option (Bool)
 | 0, _, _, _ => none
 | k + 1, x0, x1, x5 => if x5 < (x0.length : Int) then (if 0 ≤ x5 then (if x5 < (x1.length : Int) then (if ((rd_T41 x0 x5).f0).toList = ((rd_T41 x1 x5).f0).toList then (tachographref09_Same.j1 k x0 x1 x5 ((((rd_T41 x0 x5).f1).length : Int) != (((rd_T41 x1 x5).f1).length : Int))) else (tachographref09_Same.j1 k x0 x1 x5 true)) else (none)) else (none)) else (some true)
def tachographref09_Same.j1 : Nat → List (S41) → List (S41) → Int → Bool → Option (Bool)
 | 0, _, _, _, _ => none
 | k + 1, x0, x1, x5, x43 => if x43 = true then (some false) else (tachographref09_Same.l1 k x0 x1 x5 0)
def tachographref09_Same.l1 : Nat → List (S41) → List (S41) → Int → Int → Option (Bool)
 | 0, _, _, _, _ => none
 | k + 1, x0, x1, x5, x6 => if 0 ≤ x5 then (if x5 < (x0.length : Int) then (if x6 < (((rd_T41 x0 x5).f1).length : Int) then (if 0 ≤ x6 then (if x5 < (x1.length : Int) then (if x6 < (((rd_T41 x1 x5).f1).length : Int) then (if (rd ((rd_T41 x0 x5).f1) x6) = (rd ((rd_T41 x1 x5).f1) x6) then (tachographref09_Same.l1 k x0 x1 x5 (wrap64 (x6 + 1))) else (some false)) else (none)) else (none)) else (none)) else (tachographref09_Same.l0 k x0 x1 (wrap64 (x5 + 1)))) else (none)) else (none)
end
def tachographref09_Same.f (k : Nat) (l0 : List (S41)) (l1 : List (S41)) : Option (Bool) := if (l0.length : Int) = (l1.length : Int) then (tachographref09_Same.l0 k l0 l1 0) else (some false)
theorem tachographref09_Same.mono_l : ∀ k, (∀ y0 y1 y2, LeO (tachographref09_Same.l0 k y0 y1 y2) (tachographref09_Same.l0 (k + 1) y0 y1 y2)) ∧ (∀ y0 y1 y2 y3, LeO (tachographref09_Same.j1 k y0 y1 y2 y3) (tachographref09_Same.j1 (k + 1) y0 y1 y2 y3)) ∧ (∀ y0 y1 y2 y3, LeO (tachographref09_Same.l1 k y0 y1 y2 y3) (tachographref09_Same.l1 (k + 1) y0 y1 y2 y3))
 | 0 => ⟨fun _ _ _ r h => by simp [tachographref09_Same.l0] at h, fun _ _ _ _ r h => by simp [tachographref09_Same.j1] at h, fun _ _ _ _ r h => by simp [tachographref09_Same.l1] at h⟩
 | k + 1 => by
  obtain ⟨ih0, ih1, ih2⟩ := tachographref09_Same.mono_l k
  refine ⟨?_, ?_, ?_⟩
  ·intro y0 y1 y2
   unfold tachographref09_Same.l0
   repeat' first
   | (with_reducible exact ih0 _ _ _)
   | (with_reducible exact ih1 _ _ _ _)
   | (with_reducible exact ih2 _ _ _ _)
   | (with_reducible exact LeO.refl _)
   | (with_reducible exact LeO.none _)
   | (with_reducible refine LeO.ite ?_ ?_)
   | (with_reducible refine LeO.bind ?_ (fun _ => ?_))
   | exact ih0 _ _ _
   | exact ih1 _ _ _ _
   | exact ih2 _ _ _ _
   | exact LeO.none _
   | refine LeO.ite ?_ ?_
   | refine LeO.bind ?_ (fun _ => ?_)
  ·intro y0 y1 y2 y3
   unfold tachographref09_Same.j1
   repeat' first
   | (with_reducible exact ih0 _ _ _)
   | (with_reducible exact ih1 _ _ _ _)
   | (with_reducible exact ih2 _ _ _ _)
   | (with_reducible exact LeO.refl _)
   | (with_reducible exact LeO.none _)
   | (with_reducible refine LeO.ite ?_ ?_)
   | (with_reducible refine LeO.bind ?_ (fun _ => ?_))
   | exact ih0 _ _ _
   | exact ih1 _ _ _ _
   | exact ih2 _ _ _ _
   | exact LeO.none _
   | refine LeO.ite ?_ ?_
   | refine LeO.bind ?_ (fun _ => ?_)
  ·intro y0 y1 y2 y3
   unfold tachographref09_Same.l1
   repeat' first
   | (with_reducible exact ih0 _ _ _)
   | (with_reducible exact ih1 _ _ _ _)
   | (with_reducible exact ih2 _ _ _ _)
   | (with_reducible exact LeO.refl _)
   | (with_reducible exact LeO.none _)
   | (with_reducible refine LeO.ite ?_ ?_)
   | (with_reducible refine LeO.bind ?_ (fun _ => ?_))
   | exact ih0 _ _ _
   | exact ih1 _ _ _ _
   | exact ih2 _ _ _ _
   | exact LeO.none _
   | refine LeO.ite ?_ ?_
   | refine LeO.bind ?_ (fun _ => ?_)
theorem tachographref09_Same.mono : ∀ a0 a1 k, LeO (tachographref09_Same.f k a0 a1) (tachographref09_Same.f (k + 1) a0 a1) := by
 intro a0 a1 k
 obtain ⟨ih0, ih1, ih2⟩ := tachographref09_Same.mono_l k
 unfold tachographref09_Same.f
 repeat' first
   | (with_reducible exact ih0 _ _ _)
   | (with_reducible exact ih1 _ _ _ _)
   | (with_reducible exact ih2 _ _ _ _)
   | (with_reducible exact LeO.refl _)
   | (with_reducible exact LeO.none _)
   | (with_reducible refine LeO.ite ?_ ?_)
   | (with_reducible refine LeO.bind ?_ (fun _ => ?_))
   | exact ih0 _ _ _
   | exact ih1 _ _ _ _
   | exact ih2 _ _ _ _
   | exact LeO.none _
   | refine LeO.ite ?_ ?_
   | refine LeO.bind ?_ (fun _ => ?_)
set_option maxHeartbeats 8000000 in
set_option maxRecDepth 100000 in
theorem tachographref09_Same.calls (k : Nat) (A0 : Option Addr) (c0 : Nat) (l0 : List (S41)) (A1 : Option Addr) (c1 : Nat) (l1 : List (S41)) (r : Bool) (w : World) (hr0 : Kd.C k41 w A0 l0.length l0) (hc0 : l0.length ≤ c0) (hr1 : Kd.C k41 w A1 l1.length l1) (hc1 : l1.length ≤ c1) (h : tachographref09_Same.f k l0 l1 = some r) :
  Calls Tryd.prog 9 #[.slice A0 l0.length c0,.slice A1 l1.length c1] w fun e w' => e = .returned (.bool r) ∧ Drawn0 w w':=by
 have HR0:=Aside0.mk hr0
 have HC0:=Aside0.mk hc0
 clear hr0 hc0
 have HR1:=Aside0.mk hr1
 have HC1:=Aside0.mk hc1
 clear hr1 hc1
 have H : (if (l0.length : Int) = (l1.length : Int) then (tachographref09_Same.l0 k l0 l1 0) else (some false)) = some r:=h
 clear h
 by_cases c3 : (l0.length : Int) = (l1.length : Int)
 ·rw [if_pos c3] at H
  have c3b0 : ((l0.length : Int) == (l1.length : Int)) = true:=beq_iff_eq.mpr c3
  have c3b1 : ((l0.length : Int) != (l1.length : Int)) = false:=bne_eq_false_iff_eq.mpr c3
  have c3b2 : (l0.length == l1.length) = true:=by first | simpa using c3 | (simp at c3 ⊢;omega)
  clear c3
  have H':=Aside0.mk H
  clear H
  go_enter Tryd.func9,Tryd.ntmps9
  go_wp2
  repeat (go_quiet (fail);try go_wp2)
  go_loopg [5] k (fun kq v5 w' => ∃ (x5_1 : Int),v5 = .int .i64 x5_1 ∧ Aside0 (tachographref09_Same.l0 kq l0 l1 x5_1 = some r) ∧ Aside0 (kq ≤ k) ∧ Drawn0 w w')
  case atStart => exact ⟨(0),(by first | rfl | (simp;done) | (simp [*];done)),H',⟨Nat.le_refl _⟩,by repeat (first | exact Drawn0.refl _ | apply Drawn0.step)⟩
  case round =>
   clear H'
   try clear c1
   try clear p2
   try clear c3
   try clear c3b0
   try clear c3b1
   try clear c3b2
   obtain ⟨x5_1,rfl,HA,HK1,⟨m1,rfl⟩⟩:=hrel
   cases gk with
   | zero => exact absurd HA.out (by simp [tachographref09_Same.l0])
   | succ k1 =>
    have H:=HA.out
    clear HA
    simp only [tachographref09_Same.l0] at H
    by_cases c4 : x5_1 < (l0.length : Int)
    ·rw [if_pos c4] at H
     have c4b0 : decide (x5_1 < (l0.length : Int)) = true:=decide_eq_true c4
     clear c4
     have HC5:=Aside0.mk H
     clear H
     go_upto_region 6 with (fail)
     repeat (go_quiet (fail);go_upto_region 6 with (fail))
     go_cut [43] (fun v43 wc => ∃ (kq : Nat) (x43_4 : Bool),v43 = .bool x43_4 ∧ Aside0 (tachographref09_Same.j1 kq l0 l1 x5_1 x43_4 = some r) ∧ Aside0 (kq ≤ k1) ∧ Drawn0 w wc)
     case first =>
      have H:=HC5.out
      clear HC5
      by_cases c6 : 0 ≤ x5_1
      ·rw [if_pos c6] at H
       have c6b0 : decide (0 ≤ x5_1) = true:=decide_eq_true c6
       clear c6
       (first | rw [c6b0] | (simp only [i64_w,i32_w];rw [c6b0]) | skip)
       by_cases c7 : x5_1 < (l1.length : Int)
       ·rw [if_pos c7] at H
        have c7b0 : decide (x5_1 < (l1.length : Int)) = true:=decide_eq_true c7
        clear c7
        by_cases c8 : ((rd_T41 l0 x5_1).f0).toList = ((rd_T41 l1 x5_1).f0).toList
        ·rw [if_pos c8] at H
         have c8b0 : (((rd_T41 l0 x5_1).f0).toList == ((rd_T41 l1 x5_1).f0).toList) = true:=beq_iff_eq.mpr c8
         have c8b1 : (((rd_T41 l0 x5_1).f0).toList != ((rd_T41 l1 x5_1).f0).toList) = false:=bne_eq_false_iff_eq.mpr c8
         clear c8
         have H':=Aside0.mk H
         clear H
         have p139 : 0 ≤ (x5_1 : Int):=of_decide_eq_true (by first | (with_reducible assumption) | assumption)
         have q139 : x5_1 < (l0.length : Int):=of_decide_eq_true (by first | (with_reducible assumption) | assumption)
         obtain ⟨ad139,A139_1,c139_1,e139,hx139_0,hx139_1,hl139_1,hi139_1⟩:=at_T41 HR0.out x5_1 p139 q139
         cases e139
         have HR139_1:=Aside0.mk hi139_1
         have HC139_1:=Aside0.mk hl139_1
         clear hi139_1 hl139_1
         replace p139:=eq_true p139
         replace q139:=eq_true q139
         have p140 : 0 ≤ (x5_1 : Int):=of_decide_eq_true (by first | (with_reducible assumption) | assumption)
         have q140 : x5_1 < (l1.length : Int):=of_decide_eq_true (by first | (with_reducible assumption) | assumption)
         obtain ⟨ad140,A140_1,c140_1,e140,hx140_0,hx140_1,hl140_1,hi140_1⟩:=at_T41 HR1.out x5_1 p140 q140
         cases e140
         have HR140_1:=Aside0.mk hi140_1
         have HC140_1:=Aside0.mk hl140_1
         clear hi140_1 hl140_1
         replace p140:=eq_true p140
         replace q140:=eq_true q140
         have p141 : 0 ≤ (x5_1 : Int):=of_decide_eq_true (by first | (with_reducible assumption) | assumption)
         have q141 : x5_1 < (l0.length : Int):=of_decide_eq_true (by first | (with_reducible assumption) | assumption)
         obtain ⟨ad141,A141_1,c141_1,e141,hx141_0,hx141_1,hl141_1,hi141_1⟩:=at_T41 HR0.out x5_1 p141 q141
         obtain rfl : ad139 = ad141:=(by injection e141)
         have HR141_1:=Aside0.mk hi141_1
         have HC141_1:=Aside0.mk hl141_1
         clear hi141_1 hl141_1
         replace p141:=eq_true p141
         replace q141:=eq_true q141
         have ea_:=Option.some.inj (hx139_1.symm.trans hx141_1)
         injection ea_ with ea_ en_ ec_
         subst ea_
         subst ec_
         clear en_
         have p142 : 0 ≤ (x5_1 : Int):=of_decide_eq_true (by first | (with_reducible assumption) | assumption)
         have q142 : x5_1 < (l1.length : Int):=of_decide_eq_true (by first | (with_reducible assumption) | assumption)
         obtain ⟨ad142,A142_1,c142_1,e142,hx142_0,hx142_1,hl142_1,hi142_1⟩:=at_T41 HR1.out x5_1 p142 q142
         obtain rfl : ad140 = ad142:=(by injection e142)
         have HR142_1:=Aside0.mk hi142_1
         have HC142_1:=Aside0.mk hl142_1
         clear hi142_1 hl142_1
         replace p142:=eq_true p142
         replace q142:=eq_true q142
         have ea_:=Option.some.inj (hx140_1.symm.trans hx142_1)
         injection ea_ with ea_ en_ ec_
         subst ea_
         subst ec_
         clear en_
         go_wp2
         repeat (go_quiet (fail);try go_wp2)
         go_meet
         case rel => exact ⟨_,(((((rd_T41 l0 x5_1).f1).length : Int) != (((rd_T41 l1 x5_1).f1).length : Int))),(by first | rfl | (simp;done) | (simp [*];done)),H',⟨by have:=HK1.out;first | omega | exact Nat.le_refl _⟩,by repeat (first | exact Drawn0.refl _ | apply Drawn0.step)⟩
        ·rw [if_neg c8] at H
         have c8b0 : (((rd_T41 l0 x5_1).f0).toList == ((rd_T41 l1 x5_1).f0).toList) = false:=beq_eq_false_iff_ne.mpr c8
         have c8b1 : (((rd_T41 l0 x5_1).f0).toList != ((rd_T41 l1 x5_1).f0).toList) = true:=bne_iff_ne.mpr c8
         have H':=Aside0.mk H
         clear H
         have p139 : 0 ≤ (x5_1 : Int):=of_decide_eq_true (by first | (with_reducible assumption) | assumption)
         have q139 : x5_1 < (l0.length : Int):=of_decide_eq_true (by first | (with_reducible assumption) | assumption)
         obtain ⟨ad139,A139_1,c139_1,e139,hx139_0,hx139_1,hl139_1,hi139_1⟩:=at_T41 HR0.out x5_1 p139 q139
         cases e139
         have HR139_1:=Aside0.mk hi139_1
         have HC139_1:=Aside0.mk hl139_1
         clear hi139_1 hl139_1
         replace p139:=eq_true p139
         replace q139:=eq_true q139
         have p140 : 0 ≤ (x5_1 : Int):=of_decide_eq_true (by first | (with_reducible assumption) | assumption)
         have q140 : x5_1 < (l1.length : Int):=of_decide_eq_true (by first | (with_reducible assumption) | assumption)
         obtain ⟨ad140,A140_1,c140_1,e140,hx140_0,hx140_1,hl140_1,hi140_1⟩:=at_T41 HR1.out x5_1 p140 q140
         cases e140
         have HR140_1:=Aside0.mk hi140_1
         have HC140_1:=Aside0.mk hl140_1
         clear hi140_1 hl140_1
         replace p140:=eq_true p140
         replace q140:=eq_true q140
         go_wp2
         repeat (go_quiet (fail);try go_wp2)
         go_meet
         case rel => exact ⟨_,(true),(by first | rfl | (simp;done) | (simp [*];done)),H',⟨by have:=HK1.out;first | omega | exact Nat.le_refl _⟩,by repeat (first | exact Drawn0.refl _ | apply Drawn0.step)⟩
       ·rw [if_neg c7] at H
        exact absurd H (by simp)
      ·rw [if_neg c6] at H
       exact absurd H (by simp)
     case rest =>
      clear HC5
      try clear c1
      try clear p1
      try clear q1
      try clear hx1
      try clear p2
      try clear c3
      try clear c3b0
      try clear c3b1
      try clear c3b2
      try clear c4
      try clear c4b0
      try clear c6
      try clear c6b0
      try clear c7
      try clear c7b0
      try clear c8
      try clear c8b0
      try clear c8b1
      try clear hx139_0
      try clear hx139_1
      try clear hx140_0
      try clear hx140_1
      try clear hx141_0
      try clear hx141_1
      try clear hx142_0
      try clear hx142_1
      try clear p139
      try clear p140
      try clear p141
      try clear p142
      try clear p2
      try clear q139
      try clear q140
      try clear q141
      try clear q142
      obtain ⟨kq,x43_4,rfl,HA,HJ4,⟨mc4,rfl⟩⟩:=hcut
      cases kq with
      | zero => exact absurd HA.out (by simp [tachographref09_Same.j1])
      | succ kj4 =>
       have H:=HA.out
       clear HA
       simp only [tachographref09_Same.j1] at H
       by_cases c9 : x43_4 = true
       ·subst c9
        have H1 : (some false) = some r:=by rw [if_pos rfl] at H;exact H
        clear H
        have H:=H1
        clear H1
        obtain rfl:=Option.some.inj H
        go_wp2
        repeat (go_quiet (fail);try go_wp2)
        go_ret
        exact ⟨by first | rfl | (simp;done) | (simp [*];done),by repeat (first | exact Drawn0.refl _ | apply Drawn0.step)⟩
       ·replace c9:=Bool.eq_false_iff.mpr c9
        subst c9
        have H1 : (tachographref09_Same.l1 kj4 l0 l1 x5_1 0) = some r:=by rw [if_neg (show ¬ (false = true) by decide)] at H;exact H
        clear H
        have H:=H1
        clear H1
        have H':=Aside0.mk H
        clear H
        go_wp2
        repeat (go_quiet (fail);try go_wp2)
        go_loopg [6] kj4 (fun kq v6 w' => ∃ (x6_3 : Int),v6 = .int .i64 x6_3 ∧ Aside0 (tachographref09_Same.l1 kq l0 l1 x5_1 x6_3 = some r) ∧ Aside0 (kq ≤ kj4) ∧ Drawn0 w w')
        case atStart => exact ⟨(0),(by first | rfl | (simp;done) | (simp [*];done)),H',⟨Nat.le_refl _⟩,by repeat (first | exact Drawn0.refl _ | apply Drawn0.step)⟩
        case round =>
         clear H'
         try clear c1
         try clear p1
         try clear q1
         try clear hx1
         try clear p2
         try clear c3
         try clear c3b0
         try clear c3b1
         try clear c3b2
         try clear c4
         try clear c4b0
         try clear c6
         try clear c6b0
         try clear c7
         try clear c7b0
         try clear c8
         try clear c8b0
         try clear c8b1
         try clear c9
         try clear hx139_0
         try clear hx139_1
         try clear hx140_0
         try clear hx140_1
         try clear hx141_0
         try clear hx141_1
         try clear hx142_0
         try clear hx142_1
         try clear p1
         try clear p139
         try clear p140
         try clear p141
         try clear p142
         try clear p2
         try clear q1
         try clear q139
         try clear q140
         try clear q141
         try clear q142
         obtain ⟨x6_3,rfl,HA,HK3,⟨m3,rfl⟩⟩:=hrel
         cases gk with
         | zero => exact absurd HA.out (by simp [tachographref09_Same.l1])
         | succ k3 =>
          have H:=HA.out
          clear HA
          simp only [tachographref09_Same.l1] at H
          by_cases c10 : 0 ≤ x5_1
          ·rw [if_pos c10] at H
           have c10b0 : decide (0 ≤ x5_1) = true:=decide_eq_true c10
           clear c10
           by_cases c11 : x5_1 < (l0.length : Int)
           ·rw [if_pos c11] at H
            have c11b0 : decide (x5_1 < (l0.length : Int)) = true:=decide_eq_true c11
            clear c11
            by_cases c12 : x6_3 < (((rd_T41 l0 x5_1).f1).length : Int)
            ·rw [if_pos c12] at H
             have c12b0 : decide (x6_3 < (((rd_T41 l0 x5_1).f1).length : Int)) = true:=decide_eq_true c12
             clear c12
             by_cases c13 : 0 ≤ x6_3
             ·rw [if_pos c13] at H
              have c13b0 : decide (0 ≤ x6_3) = true:=decide_eq_true c13
              clear c13
              by_cases c14 : x5_1 < (l1.length : Int)
              ·rw [if_pos c14] at H
               have c14b0 : decide (x5_1 < (l1.length : Int)) = true:=decide_eq_true c14
               clear c14
               by_cases c15 : x6_3 < (((rd_T41 l1 x5_1).f1).length : Int)
               ·rw [if_pos c15] at H
                have c15b0 : decide (x6_3 < (((rd_T41 l1 x5_1).f1).length : Int)) = true:=decide_eq_true c15
                clear c15
                by_cases c16 : (rd ((rd_T41 l0 x5_1).f1) x6_3) = (rd ((rd_T41 l1 x5_1).f1) x6_3)
                ·rw [if_pos c16] at H
                 have c16b0 : ((rd ((rd_T41 l0 x5_1).f1) x6_3) == (rd ((rd_T41 l1 x5_1).f1) x6_3)) = true:=beq_iff_eq.mpr c16
                 have c16b1 : ((rd ((rd_T41 l0 x5_1).f1) x6_3) != (rd ((rd_T41 l1 x5_1).f1) x6_3)) = false:=bne_eq_false_iff_eq.mpr c16
                 clear c16
                 have H':=Aside0.mk H
                 clear H
                 have p143 : 0 ≤ (x5_1 : Int):=of_decide_eq_true (by first | (with_reducible assumption) | assumption)
                 have q143 : x5_1 < (l0.length : Int):=of_decide_eq_true (by first | (with_reducible assumption) | assumption)
                 obtain ⟨ad143,A143_1,c143_1,e143,hx143_0,hx143_1,hl143_1,hi143_1⟩:=at_T41 HR0.out x5_1 p143 q143
                 cases e143
                 have HR143_1:=Aside0.mk hi143_1
                 have HC143_1:=Aside0.mk hl143_1
                 clear hi143_1 hl143_1
                 replace p143:=eq_true p143
                 replace q143:=eq_true q143
                 have p144 : 0 ≤ (x5_1 : Int):=of_decide_eq_true (by first | (with_reducible assumption) | assumption)
                 have q144 : x5_1 < (l0.length : Int):=of_decide_eq_true (by first | (with_reducible assumption) | assumption)
                 obtain ⟨ad144,A144_1,c144_1,e144,hx144_0,hx144_1,hl144_1,hi144_1⟩:=at_T41 HR0.out x5_1 p144 q144
                 obtain rfl : ad143 = ad144:=(by injection e144)
                 have HR144_1:=Aside0.mk hi144_1
                 have HC144_1:=Aside0.mk hl144_1
                 clear hi144_1 hl144_1
                 replace p144:=eq_true p144
                 replace q144:=eq_true q144
                 have ea_:=Option.some.inj (hx143_1.symm.trans hx144_1)
                 injection ea_ with ea_ en_ ec_
                 subst ea_
                 subst ec_
                 clear en_
                 have p145 : 0 ≤ (x6_3 : Int):=of_decide_eq_true (by first | (with_reducible assumption) | assumption)
                 have q145 : x6_3 < (((rd_T41 l0 x5_1).f1).length : Int):=of_decide_eq_true (by first | (with_reducible assumption) | assumption)
                 obtain ⟨ad145,e145,hx145_0⟩:=Kd.at_int HR144_1.out x6_3 p145 q145
                 cases e145
                 replace p145:=eq_true p145
                 replace q145:=eq_true q145
                 have p146 : 0 ≤ (x5_1 : Int):=of_decide_eq_true (by first | (with_reducible assumption) | assumption)
                 have q146 : x5_1 < (l1.length : Int):=of_decide_eq_true (by first | (with_reducible assumption) | assumption)
                 obtain ⟨ad146,A146_1,c146_1,e146,hx146_0,hx146_1,hl146_1,hi146_1⟩:=at_T41 HR1.out x5_1 p146 q146
                 cases e146
                 have HR146_1:=Aside0.mk hi146_1
                 have HC146_1:=Aside0.mk hl146_1
                 clear hi146_1 hl146_1
                 replace p146:=eq_true p146
                 replace q146:=eq_true q146
                 have p147 : 0 ≤ (x6_3 : Int):=of_decide_eq_true (by first | (with_reducible assumption) | assumption)
                 have q147 : x6_3 < (((rd_T41 l1 x5_1).f1).length : Int):=of_decide_eq_true (by first | (with_reducible assumption) | assumption)
                 obtain ⟨ad147,e147,hx147_0⟩:=Kd.at_int HR146_1.out x6_3 p147 q147
                 cases e147
                 replace p147:=eq_true p147
                 replace q147:=eq_true q147
                 go_wp2
                 repeat (go_quiet (fail);try go_wp2)
                 go_roundg k3
                 case measure => have:=HK1.out;have:=HJ4.out;have:=HK3.out;omega
                 case rel => exact ⟨(wrap64 (x6_3 + 1)),(by first | rfl | (simp;done) | (simp [*];done)),H',⟨by have:=HK1.out;have:=HJ4.out;have:=HK3.out;omega⟩,by repeat (first | exact Drawn0.refl _ | apply Drawn0.step)⟩
                ·rw [if_neg c16] at H
                 have c16b0 : ((rd ((rd_T41 l0 x5_1).f1) x6_3) == (rd ((rd_T41 l1 x5_1).f1) x6_3)) = false:=beq_eq_false_iff_ne.mpr c16
                 have c16b1 : ((rd ((rd_T41 l0 x5_1).f1) x6_3) != (rd ((rd_T41 l1 x5_1).f1) x6_3)) = true:=bne_iff_ne.mpr c16
                 obtain rfl:=Option.some.inj H
                 have p143 : 0 ≤ (x5_1 : Int):=of_decide_eq_true (by first | (with_reducible assumption) | assumption)
                 have q143 : x5_1 < (l0.length : Int):=of_decide_eq_true (by first | (with_reducible assumption) | assumption)
                 obtain ⟨ad143,A143_1,c143_1,e143,hx143_0,hx143_1,hl143_1,hi143_1⟩:=at_T41 HR0.out x5_1 p143 q143
                 cases e143
                 have HR143_1:=Aside0.mk hi143_1
                 have HC143_1:=Aside0.mk hl143_1
                 clear hi143_1 hl143_1
                 replace p143:=eq_true p143
                 replace q143:=eq_true q143
                 have p144 : 0 ≤ (x5_1 : Int):=of_decide_eq_true (by first | (with_reducible assumption) | assumption)
                 have q144 : x5_1 < (l0.length : Int):=of_decide_eq_true (by first | (with_reducible assumption) | assumption)
                 obtain ⟨ad144,A144_1,c144_1,e144,hx144_0,hx144_1,hl144_1,hi144_1⟩:=at_T41 HR0.out x5_1 p144 q144
                 obtain rfl : ad143 = ad144:=(by injection e144)
                 have HR144_1:=Aside0.mk hi144_1
                 have HC144_1:=Aside0.mk hl144_1
                 clear hi144_1 hl144_1
                 replace p144:=eq_true p144
                 replace q144:=eq_true q144
                 have ea_:=Option.some.inj (hx143_1.symm.trans hx144_1)
                 injection ea_ with ea_ en_ ec_
                 subst ea_
                 subst ec_
                 clear en_
                 have p145 : 0 ≤ (x6_3 : Int):=of_decide_eq_true (by first | (with_reducible assumption) | assumption)
                 have q145 : x6_3 < (((rd_T41 l0 x5_1).f1).length : Int):=of_decide_eq_true (by first | (with_reducible assumption) | assumption)
                 obtain ⟨ad145,e145,hx145_0⟩:=Kd.at_int HR144_1.out x6_3 p145 q145
                 cases e145
                 replace p145:=eq_true p145
                 replace q145:=eq_true q145
                 have p146 : 0 ≤ (x5_1 : Int):=of_decide_eq_true (by first | (with_reducible assumption) | assumption)
                 have q146 : x5_1 < (l1.length : Int):=of_decide_eq_true (by first | (with_reducible assumption) | assumption)
                 obtain ⟨ad146,A146_1,c146_1,e146,hx146_0,hx146_1,hl146_1,hi146_1⟩:=at_T41 HR1.out x5_1 p146 q146
                 cases e146
                 have HR146_1:=Aside0.mk hi146_1
                 have HC146_1:=Aside0.mk hl146_1
                 clear hi146_1 hl146_1
                 replace p146:=eq_true p146
                 replace q146:=eq_true q146
                 have p147 : 0 ≤ (x6_3 : Int):=of_decide_eq_true (by first | (with_reducible assumption) | assumption)
                 have q147 : x6_3 < (((rd_T41 l1 x5_1).f1).length : Int):=of_decide_eq_true (by first | (with_reducible assumption) | assumption)
                 obtain ⟨ad147,e147,hx147_0⟩:=Kd.at_int HR146_1.out x6_3 p147 q147
                 cases e147
                 replace p147:=eq_true p147
                 replace q147:=eq_true q147
                 go_wp2
                 repeat (go_quiet (fail);try go_wp2)
                 go_ret
                 exact ⟨by first | rfl | (simp;done) | (simp [*];done),by repeat (first | exact Drawn0.refl _ | apply Drawn0.step)⟩
               ·rw [if_neg c15] at H
                exact absurd H (by simp)
              ·rw [if_neg c14] at H
               exact absurd H (by simp)
             ·rw [if_neg c13] at H
              exact absurd H (by simp)
            ·rw [if_neg c12] at H
             have c12b0 : decide (x6_3 < (((rd_T41 l0 x5_1).f1).length : Int)) = false:=decide_eq_false c12
             clear c12
             have H':=Aside0.mk H
             clear H
             have p143 : 0 ≤ (x5_1 : Int):=of_decide_eq_true (by first | (with_reducible assumption) | assumption)
             have q143 : x5_1 < (l0.length : Int):=of_decide_eq_true (by first | (with_reducible assumption) | assumption)
             obtain ⟨ad143,A143_1,c143_1,e143,hx143_0,hx143_1,hl143_1,hi143_1⟩:=at_T41 HR0.out x5_1 p143 q143
             cases e143
             have HR143_1:=Aside0.mk hi143_1
             have HC143_1:=Aside0.mk hl143_1
             clear hi143_1 hl143_1
             replace p143:=eq_true p143
             replace q143:=eq_true q143
             go_wp2
             repeat (go_quiet (fail);try go_wp2)
             go_roundg k3
             case measure => have:=HK1.out;have:=HJ4.out;have:=HK3.out;omega
             case rel => exact ⟨(wrap64 (x5_1 + 1)),(by first | rfl | (simp;done) | (simp [*];done)),H',⟨by have:=HK1.out;have:=HJ4.out;have:=HK3.out;omega⟩,by repeat (first | exact Drawn0.refl _ | apply Drawn0.step)⟩
           ·rw [if_neg c11] at H
            exact absurd H (by simp)
          ·rw [if_neg c10] at H
           exact absurd H (by simp)
    ·rw [if_neg c4] at H
     have c4b0 : decide (x5_1 < (l0.length : Int)) = false:=decide_eq_false c4
     clear c4
     obtain rfl:=Option.some.inj H
     go_wp2
     repeat (go_quiet (fail);try go_wp2)
     go_ret
     exact ⟨by first | rfl | (simp;done) | (simp [*];done),by repeat (first | exact Drawn0.refl _ | apply Drawn0.step)⟩
 ·rw [if_neg c3] at H
  have c3b0 : ((l0.length : Int) == (l1.length : Int)) = false:=beq_eq_false_iff_ne.mpr c3
  have c3b1 : ((l0.length : Int) != (l1.length : Int)) = true:=bne_iff_ne.mpr c3
  have c3b2 : (l0.length == l1.length) = false:=by first | simpa using c3 | (simp at c3 ⊢;omega)
  obtain rfl:=Option.some.inj H
  go_enter Tryd.func9,Tryd.ntmps9
  go_wp2
  repeat (go_quiet (fail);try go_wp2)
  go_ret
  exact ⟨by first | rfl | (simp;done) | (simp [*];done),by repeat (first | exact Drawn0.refl _ | apply Drawn0.step)⟩

/-! ### tachographlaw10_fixed: function 6 -/
def tachographlaw10_fixed.f (k : Nat)  : Option (Bool) := (sigtext_Parse.f k (⟨#[112, 40, 105, 110, 116, 44, 115, 116, 114, 105, 110, 103, 41, 10]⟩ : ByteArray)).bind fun bt148 => (if bt148.2.1 = 0 then (if (bt148.2.2.1 == 0 && (bt148.2.2.2 == 0)) = true then ((tachographref09_Same.f k bt148.1 (([(⟨(⟨#[112]⟩ : ByteArray), (([1, 2] : List Int))⟩ : S41)] : List (S41)))).bind fun t161 => (some t161)) else (some false)) else (some false))
theorem tachographlaw10_fixed.mono : ∀ k, LeO (tachographlaw10_fixed.f k ) (tachographlaw10_fixed.f (k + 1) ) := by
 intro  k
 unfold tachographlaw10_fixed.f
 repeat' first
   | (with_reducible exact sigtext_Parse.mono _ _)
   | (with_reducible exact tachographref09_Same.mono _ _ _)
   | (with_reducible exact LeO.refl _)
   | (with_reducible exact LeO.none _)
   | (with_reducible refine LeO.ite ?_ ?_)
   | (with_reducible refine LeO.bind ?_ (fun _ => ?_))
   | exact sigtext_Parse.mono _ _
   | exact tachographref09_Same.mono _ _ _
   | exact LeO.none _
   | refine LeO.ite ?_ ?_
   | refine LeO.bind ?_ (fun _ => ?_)
set_option maxHeartbeats 8000000 in
set_option maxRecDepth 100000 in
theorem tachographlaw10_fixed.calls (k : Nat)  (r : Bool) (w : World) (h : tachographlaw10_fixed.f k  = some r) (hg : Go.Proofs.YtmmfakdncjeoeacDoorAid.Glob w) :
  Calls Tryd.prog 6 #[] w fun e w' => e = .returned (.bool r) ∧ Below w.heap.size w w':=by
 have hu26:=Tryd.underlying26
 have hu41:=Tryd.underlying41
 have HB:=Aside0.mk (Below.refl w.heap.size w)
 have HG:=Aside0.mk hg
 clear hg
 have H : ((sigtext_Parse.f k (⟨#[112,40,105,110,116,44,115,116,114,105,110,103,41,10]⟩ : ByteArray)).bind fun bt148 => (if bt148.2.1 = 0 then (if (bt148.2.2.1 == 0 && (bt148.2.2.2 == 0)) = true then ((tachographref09_Same.f k bt148.1 (([(⟨(⟨#[112]⟩ : ByteArray),(([1,2] : List Int))⟩ : S41)] : List (S41)))).bind fun t161 => (some t161)) else (some false)) else (some false))) = some r:=h
 clear h
 replace H:=Option.bind_eq_some_iff.mp H
 obtain ⟨⟨t148,t151,t152,t153⟩,A10,H⟩:=H
 replace H : (if t151 = 0 then (if (t152 == 0 && (t153 == 0)) = true then ((tachographref09_Same.f k t148 (([(⟨(⟨#[112]⟩ : ByteArray),(([1,2] : List Int))⟩ : S41)] : List (S41)))).bind fun t161 => (some t161)) else (some false)) else (some false)) = some r:=H
 have A1:=Aside0.mk A10
 clear A10
 by_cases c2 : t151 = 0
 ·rw [if_pos c2] at H
  have c2b0 : (t151 == 0) = true:=beq_iff_eq.mpr c2
  have c2b1 : (t151 != 0) = false:=bne_eq_false_iff_eq.mpr c2
  clear c2
  by_cases c3 : (t152 == 0 && (t153 == 0)) = true
  ·rw [if_pos c3] at H
   have c3b0 : (t152 == 0 && (t153 == 0)) = true:=c3
   (try (have c3b1 : decide (t152 = 0 && (t153 == 0)) = true:=by simpa using c3))
   (try (have c3b2 : (t152 == 0 && (t153 == 0)) = true:=by simpa using c3))
   clear c3
   obtain ⟨y155,hy155⟩ : ∃ y_ : List Int,y_ = (([1,2] : List Int)):=⟨_,rfl⟩
   replace H : ((tachographref09_Same.f k t148 (([(⟨(⟨#[112]⟩ : ByteArray),y155⟩ : S41)] : List (S41)))).bind fun t161 => (some t161)) = some r:=by first | (rw [hy155];with_reducible exact H) | (have H2_:=(Option.bind_some _ _).symm.trans H;rw [hy155];with_reducible exact H2_) | (have H2_:=(Option.bind_some _ _).symm.trans H;with_reducible exact H2_) | with_reducible exact H | (rw [hy155];exact H) | exact H
   have Ny155:=Aside0.mk hy155
   clear hy155
   obtain ⟨y158,hy158⟩ : ∃ y_ : List (S41),y_ = (([(⟨(⟨#[112]⟩ : ByteArray),y155⟩ : S41)] : List (S41))):=⟨_,rfl⟩
   replace H : ((tachographref09_Same.f k t148 y158).bind fun t161 => (some t161)) = some r:=by first | (rw [hy158];with_reducible exact H) | (have H2_:=(Option.bind_some _ _).symm.trans H;rw [hy158];with_reducible exact H2_) | (have H2_:=(Option.bind_some _ _).symm.trans H;with_reducible exact H2_) | with_reducible exact H | (rw [hy158];exact H) | exact H
   have Ny158:=Aside0.mk hy158
   clear hy158
   replace H:=Option.bind_eq_some_iff.mp H
   obtain ⟨t161,A40,H⟩:=H
   replace H : (some t161) = some r:=H
   have A4:=Aside0.mk A40
   clear A40
   obtain rfl:=Option.some.inj H
   go_enter Tryd.func6,Tryd.ntmps6
   go_wp2_with (first | ((with_reducible refine gate_callee (f:=7) rfl ?_);refine goesL_ (some 5) rfl rfl Tryd.func7 (by kernel_rfl) rfl #[.string (⟨#[112,40,105,110,116,44,115,116,114,105,110,103,41,10]⟩ : ByteArray)] rfl (by (try simp only [List.map_toArray,List.map_cons,List.map_nil]);first | done | rfl | (simp only [List.length_drop,List.length_take];rfl)) ?_;(with_reducible refine (sigtext_Parse.calls k (⟨#[112,40,105,110,116,44,115,116,114,105,110,103,41,10]⟩ : ByteArray) t148 t151 t152 t153 _ A1.out (HG.out.below (by repeat (first | (with_reducible first | exact HB.out | apply below_alloc | apply pw_below_drewN | apply below_drew1 | refine below_set ?_ GE154.out) | exact HB.out)))).mono ?_);rintro e w5 ⟨v149,rfl,ho0,hb⟩;refine ⟨_,rfl,?_⟩;have n0_:=Aside0.mk (Kd.N_lower (Kd.N_mono (ok':=fun k_ => True) (Kd.S_N (Kd.S_bound ho0)) (fun k_ hk_ => trivial)) (below_size (by repeat (first | (with_reducible first | exact HB.out | apply below_alloc | apply pw_below_drewN | apply below_drew1) | exact HB.out))));have n1_:=Aside0.mk (below_step (by repeat (first | (with_reducible first | exact HB.out | apply below_alloc | apply pw_below_drewN | apply below_drew1) | exact HB.out)) hb);clear HB;have HO150:=n0_;have HB:=n1_;clear n0_ n1_;(try clear hb);(try clear hb2);(try clear hk);(try clear hi);(try clear ho0)) | ((with_reducible refine gate_dst (N:=3) rfl ?_);(try (refine gate_guard (by rfl) ?_;dsimp only));refine box_event ?hg (N:=3) ?hd (cs:=#[.int .i64 0,.int .i64 0]) (t:=26) ?hr ?_;(case hd => rfl);(case hg => rfl);(case hr => first | (go_simp;done) | (go_simp;rfl));intro gb154 hg w6 hbox hb;have n0_:=Aside0.mk (Kd.N_below (Kd.N_elderB (by (with_reducible repeat (first | apply Kd.N_alloc | apply Kd.N_drewN | apply Kd.N_drew));exact HO150.out) gb154 (Nat.le_of_eq hg.symm)) hb);have n1_:=Aside0.mk (below_step (by repeat (first | (with_reducible first | exact HB.out | apply below_alloc | apply pw_below_drewN | apply below_drew1) | exact HB.out)) hb);have n2_:=Aside0.mk (hbox);have n3_:=Aside0.mk ((by rw [hg];exact (below_size (by repeat (first | (with_reducible first | exact HB.out | apply below_alloc | apply pw_below_drewN | apply below_drew1) | exact HB.out))) : w.heap.size ≤ gb154));have n4_:=Aside0.mk ((by rw [hg];exact (below_size (by repeat (first | (with_reducible first | exact HB.out | apply below_alloc | apply pw_below_drewN | apply below_drew1) | exact HB.out))) : w.heap.size ≤ gb154));clear HO150;clear HB;have HO150:=n0_;have HB:=n1_;have BK154:=n2_;have GW154:=n3_;have GE154:=n4_;clear n0_ n1_ n2_ n3_ n4_;clear hb hbox hg;have hcz7_0 : w6.cell? ⟨gb154,0,none⟩ = some (.int .i64 0):=(blk_cell BK154.out 0).trans rfl;have hcz7_1 : w6.cell? ⟨gb154,1,none⟩ = some (.int .i64 0):=(blk_cell BK154.out 1).trans rfl;have hfz7_0:=blk_frozen BK154.out 0;have hfz7_1:=blk_frozen BK154.out 1) | ((with_reducible refine gate_dst (N:=18) rfl ?_);(try (refine gate_guard (by rfl) ?_;dsimp only));refine Kd.R_lit (Kd.int .i64) _ 3 ?hg (N:=18) ?hd (xs:=([1,2] : List Int)) (inner:=[.int .i64 1,.int .i64 2]) (ok:=fun _ => True) (okp:=fun _ => True) ?hr ?hp (fun _ hk => hk) trivial (Below.refl _ _) (Nat.le_refl _) (by simp) ?_;(case hd => rfl);(case hg => rfl);(case hr => first | (go_simp;done) | (go_simp;rfl));(case hp => exact (Reps.one (show Kd.M (Kd.int .i64) _ _ _ 1 [.int .i64 1] from rfl) (Reps.one (show Kd.M (Kd.int .i64) _ _ _ 2 [.int .i64 2] from rfl) (Reps.none _ _))));intro v156 w8 ho9 hb hg_ hnew_;clear hg_ hnew_;(first | rw [← Ny155.out] at ho9 | (simp only [Int.reduceToNat] at ho9;rw [← Ny155.out] at ho9));have n0_:=Aside0.mk (Kd.N_elder' (by (with_reducible repeat (first | apply Kd.N_alloc | apply Kd.N_drewN | apply Kd.N_drew));exact (Kd.N_mono (Kd.N_far (p:=⟨gb154,1,none⟩) (Kd.N_far (p:=⟨gb154,0,none⟩) (Kd.N_mono HO150.out (fun k_ hk => (⟨hk,hk.2⟩ : _ ∧ k_ ≠ gb154))) (fun _ hk => hk.2) (.int .i64 t152)) (fun _ hk => hk.2) (.int .i64 t153)) (fun _ h_ => h_.1))) (Kd.R_base ho9) hb);have n1_:=Aside0.mk (Kd.R_lower ho9 (below_size (by repeat (first | (with_reducible first | exact HB.out | apply below_alloc | apply pw_below_drewN | apply below_drew1 | refine below_set ?_ GE154.out) | exact HB.out))));have n2_:=Aside0.mk (blk_below (g:=gb154) (o:=.cells #[.int .i64 t152,.int .i64 t153] 26 (0,0)) (by (with_reducible repeat (first | refine blk_drewN ?_ _ | refine blk_drew ?_ | refine blk_alloc ?_ _));refine blk_put (cs:=#[.int .i64 t152,.int .i64 0]) ?_ 1 _ rfl;(with_reducible repeat (first | refine blk_drewN ?_ _ | refine blk_drew ?_ | refine blk_alloc ?_ _));refine blk_put (cs:=#[.int .i64 0,.int .i64 0]) ?_ 0 _ rfl;(with_reducible repeat (first | refine blk_drewN ?_ _ | refine blk_drew ?_ | refine blk_alloc ?_ _));exact BK154.out) hb);have n3_:=Aside0.mk (below_step (by repeat (first | (with_reducible first | exact HB.out | apply below_alloc | apply pw_below_drewN | apply below_drew1 | refine below_set ?_ GE154.out) | exact HB.out)) hb);clear HO150;clear BK154;clear HB;have HO150:=n0_;have HO157:=n1_;have BK154:=n2_;have HB:=n3_;clear n0_ n1_ n2_ n3_;clear hb ho9;obtain ⟨Ao10,co10,eo10⟩:=Kd.R_slice HO157.out;subst eo10) | ((with_reducible refine gate_dst (N:=20) rfl ?_);(try (refine gate_guard (by rfl) ?_;dsimp only));refine Kd.N_lit k41 _ 41 ?hg (N':=20) ?hd (xs:=([(⟨(⟨#[112]⟩ : ByteArray),y155⟩ : S41)] : List (S41))) (inner:=[.string (⟨#[112]⟩ : ByteArray),.slice Ao10 y155.length co10]) (ok:=(fun k_ => some k_ ≠ (v149 : Value).ownBlock ∧ k_ ≠ gb154)) (okp:=(fun k_ => some k_ ≠ (v149 : Value).ownBlock ∧ k_ ≠ gb154)) ?hr ?hp (fun _ hk => hk) ((show ∀ k_,w8.heap.size ≤ k_ → (fun k_ => some k_ ≠ (v149 : Value).ownBlock ∧ k_ ≠ gb154) k_ from fun k_ hk => ⟨Kd.fresh' (Kd.N_lt (by (with_reducible repeat (first | apply Kd.N_alloc | apply Kd.N_drewN | apply Kd.N_drew));exact HO150.out)) k_ hk,Kd.freshB (g:=gb154) (o:=.cells #[.int .i64 t152,.int .i64 t153] 26 (0,0)) (by (with_reducible repeat (first | refine blk_drewN ?_ _ | refine blk_drew ?_ | refine blk_alloc ?_ _));exact BK154.out) k_ hk⟩) _ (Nat.le_refl _)) (Below.refl _ _) (Nat.le_refl _) (by simp) ?_;(case hd => rfl);(case hg => rfl);(case hr => first | (go_simp;done) | (go_simp;rfl));(case hp => exact (Reps.c2 (show Kd.FK k41 _ _ (⟨(⟨#[112]⟩ : ByteArray),y155⟩ : S41) [.string (⟨#[112]⟩ : ByteArray),.slice Ao10 y155.length co10] from (k41_mkF _ _ (⟨(⟨#[112]⟩ : ByteArray),y155⟩ : S41) (Kd.R_reads' (Kd.R_mono (ok':=(fun k_ => some k_ ≠ (v149 : Value).ownBlock ∧ k_ ≠ gb154)) (Kd.R_types (Kd.R_apart' (HO157.out) (Kd.N_typed HO150.out) (by decide)) BK154.out (by decide)) (fun k_ hk => ⟨hk.1.2,hk.2⟩))).2.1 (Kd.R_F (Kd.R_mono (ok':=(fun k_ => some k_ ≠ (v149 : Value).ownBlock ∧ k_ ≠ gb154)) (Kd.R_types (Kd.R_apart' (HO157.out) (Kd.N_typed HO150.out) (by decide)) BK154.out (by decide)) (fun k_ hk => ⟨hk.1.2,hk.2⟩))))) (Reps.none _ _)));intro v159 w11 ho12 hb hg_ hnew_;clear hg_ hnew_;(first | rw [← Ny158.out] at ho12 | (simp only [Int.reduceToNat] at ho12;rw [← Ny158.out] at ho12));have n0_:=Aside0.mk (Kd.N_elder' (by (with_reducible repeat (first | apply Kd.N_alloc | apply Kd.N_drewN | apply Kd.N_drew));exact HO150.out) (Kd.N_base ho12) hb);have n1_:=Aside0.mk (Kd.N_lower ho12 (below_size (by repeat (first | (with_reducible first | exact HB.out | apply below_alloc | apply pw_below_drewN | apply below_drew1 | refine below_set ?_ GE154.out) | exact HB.out))));have n2_:=Aside0.mk (blk_below (g:=gb154) (o:=.cells #[.int .i64 t152,.int .i64 t153] 26 (0,0)) (by (with_reducible repeat (first | refine blk_drewN ?_ _ | refine blk_drew ?_ | refine blk_alloc ?_ _));exact BK154.out) hb);have n3_:=Aside0.mk (below_step (by repeat (first | (with_reducible first | exact HB.out | apply below_alloc | apply pw_below_drewN | apply below_drew1 | refine below_set ?_ GE154.out) | exact HB.out)) hb);clear HO150;clear BK154;clear HB;clear HO157;have HO150:=n0_;have HO160:=n1_;have BK154:=n2_;have HB:=n3_;clear n0_ n1_ n2_ n3_;clear hb ho12;obtain ⟨Ao13,co13,eo13⟩:=Kd.N_slice HO150.out;subst eo13;obtain ⟨Ao14,co14,eo14⟩:=Kd.N_slice HO160.out;subst eo14) | (go_at_call 9;(with_reducible refine (tachographref09_Same.calls k _ _ t148 _ _ y158 t161 _ ?side1 ?side2 ?side3 ?side4 A4.out).mono ?_);(case side1 => repeat (first | exact (Kd.N_reads' HO150.out).2.2 | (with_reducible refine Kd.C_alloc ?_ _) | (with_reducible refine Kd.C_drewN ?_ _) | (with_reducible refine Kd.C_drew ?_)));(case side2 => exact (Kd.N_reads' HO150.out).2.1);(case side3 => repeat (first | exact (Kd.N_reads' HO160.out).2.2 | (with_reducible refine Kd.C_alloc ?_ _) | (with_reducible refine Kd.C_drewN ?_ _) | (with_reducible refine Kd.C_drew ?_)));(case side4 => exact (Kd.N_reads' HO160.out).2.1);rintro e w' ⟨rfl,⟨nd,rfl⟩⟩))
   go_ret
   exact ⟨by first | rfl | (simp [errW_none,errW_some] <;> rfl) | (simp [*,errW_none,errW_some] <;> rfl),by repeat (first | (with_reducible first | exact HB.out | apply below_alloc | apply pw_below_drewN | apply below_drew1 | refine below_set ?_ GE154.out) | exact HB.out)⟩
  ·rw [if_neg c3] at H
   have c3b0 : (t152 == 0 && (t153 == 0)) = false:=by simpa using c3
   (try (have c3b1 : decide (t152 = 0 && (t153 == 0)) = false:=by simpa using c3))
   (try (have c3b2 : (t152 == 0 && (t153 == 0)) = false:=by simpa using c3))
   (try (have c3b3 : ¬ (t152 = 0 && (t153 == 0)):=by simpa using c3))
   clear c3
   obtain rfl:=Option.some.inj H
   go_enter Tryd.func6,Tryd.ntmps6
   go_wp2_with (first | ((with_reducible refine gate_callee (f:=7) rfl ?_);refine goesL_ (some 5) rfl rfl Tryd.func7 (by kernel_rfl) rfl #[.string (⟨#[112,40,105,110,116,44,115,116,114,105,110,103,41,10]⟩ : ByteArray)] rfl (by (try simp only [List.map_toArray,List.map_cons,List.map_nil]);first | done | rfl | (simp only [List.length_drop,List.length_take];rfl)) ?_;(with_reducible refine (sigtext_Parse.calls k (⟨#[112,40,105,110,116,44,115,116,114,105,110,103,41,10]⟩ : ByteArray) t148 t151 t152 t153 _ A1.out (HG.out.below (by repeat (first | (with_reducible first | exact HB.out | apply below_alloc | apply pw_below_drewN | apply below_drew1 | refine below_set ?_ GE154.out) | exact HB.out)))).mono ?_);rintro e w15 ⟨v149,rfl,ho0,hb⟩;refine ⟨_,rfl,?_⟩;have n0_:=Aside0.mk (Kd.N_lower (Kd.N_mono (ok':=fun k_ => True) (Kd.S_N (Kd.S_bound ho0)) (fun k_ hk_ => trivial)) (below_size (by repeat (first | (with_reducible first | exact HB.out | apply below_alloc | apply pw_below_drewN | apply below_drew1) | exact HB.out))));have n1_:=Aside0.mk (below_step (by repeat (first | (with_reducible first | exact HB.out | apply below_alloc | apply pw_below_drewN | apply below_drew1) | exact HB.out)) hb);clear HB;have HO150:=n0_;have HB:=n1_;clear n0_ n1_;(try clear hb);(try clear hb2);(try clear hk);(try clear hi);(try clear ho0)) | ((with_reducible refine gate_dst (N:=3) rfl ?_);(try (refine gate_guard (by rfl) ?_;dsimp only));refine box_event ?hg (N:=3) ?hd (cs:=#[.int .i64 0,.int .i64 0]) (t:=26) ?hr ?_;(case hd => rfl);(case hg => rfl);(case hr => first | (go_simp;done) | (go_simp;rfl));intro gb154 hg w16 hbox hb;have n0_:=Aside0.mk (Kd.N_below (Kd.N_elderB (by (with_reducible repeat (first | apply Kd.N_alloc | apply Kd.N_drewN | apply Kd.N_drew));exact HO150.out) gb154 (Nat.le_of_eq hg.symm)) hb);have n1_:=Aside0.mk (below_step (by repeat (first | (with_reducible first | exact HB.out | apply below_alloc | apply pw_below_drewN | apply below_drew1) | exact HB.out)) hb);have n2_:=Aside0.mk (hbox);have n3_:=Aside0.mk ((by rw [hg];exact (below_size (by repeat (first | (with_reducible first | exact HB.out | apply below_alloc | apply pw_below_drewN | apply below_drew1) | exact HB.out))) : w.heap.size ≤ gb154));have n4_:=Aside0.mk ((by rw [hg];exact (below_size (by repeat (first | (with_reducible first | exact HB.out | apply below_alloc | apply pw_below_drewN | apply below_drew1) | exact HB.out))) : w.heap.size ≤ gb154));clear HO150;clear HB;have HO150:=n0_;have HB:=n1_;have BK154:=n2_;have GW154:=n3_;have GE154:=n4_;clear n0_ n1_ n2_ n3_ n4_;clear hb hbox hg;have hcz17_0 : w16.cell? ⟨gb154,0,none⟩ = some (.int .i64 0):=(blk_cell BK154.out 0).trans rfl;have hcz17_1 : w16.cell? ⟨gb154,1,none⟩ = some (.int .i64 0):=(blk_cell BK154.out 1).trans rfl;have hfz17_0:=blk_frozen BK154.out 0;have hfz17_1:=blk_frozen BK154.out 1))
   go_ret
   exact ⟨by first | rfl | (simp [errW_none,errW_some] <;> rfl) | (simp [*,errW_none,errW_some] <;> rfl),by repeat (first | (with_reducible first | exact HB.out | apply below_alloc | apply pw_below_drewN | apply below_drew1 | refine below_set ?_ GE154.out) | exact HB.out)⟩
 ·rw [if_neg c2] at H
  have c2b0 : (t151 == 0) = false:=beq_eq_false_iff_ne.mpr c2
  have c2b1 : (t151 != 0) = true:=bne_iff_ne.mpr c2
  obtain rfl:=Option.some.inj H
  go_enter Tryd.func6,Tryd.ntmps6
  go_wp2_with (first | ((with_reducible refine gate_callee (f:=7) rfl ?_);refine goesL_ (some 5) rfl rfl Tryd.func7 (by kernel_rfl) rfl #[.string (⟨#[112,40,105,110,116,44,115,116,114,105,110,103,41,10]⟩ : ByteArray)] rfl (by (try simp only [List.map_toArray,List.map_cons,List.map_nil]);first | done | rfl | (simp only [List.length_drop,List.length_take];rfl)) ?_;(with_reducible refine (sigtext_Parse.calls k (⟨#[112,40,105,110,116,44,115,116,114,105,110,103,41,10]⟩ : ByteArray) t148 t151 t152 t153 _ A1.out (HG.out.below (by repeat (first | (with_reducible first | exact HB.out | apply below_alloc | apply pw_below_drewN | apply below_drew1 | refine below_set ?_ GE154.out) | exact HB.out)))).mono ?_);rintro e w18 ⟨v149,rfl,ho0,hb⟩;refine ⟨_,rfl,?_⟩;have n0_:=Aside0.mk (Kd.N_lower (Kd.N_mono (ok':=fun k_ => True) (Kd.S_N (Kd.S_bound ho0)) (fun k_ hk_ => trivial)) (below_size (by repeat (first | (with_reducible first | exact HB.out | apply below_alloc | apply pw_below_drewN | apply below_drew1) | exact HB.out))));have n1_:=Aside0.mk (below_step (by repeat (first | (with_reducible first | exact HB.out | apply below_alloc | apply pw_below_drewN | apply below_drew1) | exact HB.out)) hb);clear HB;have HO150:=n0_;have HB:=n1_;clear n0_ n1_;(try clear hb);(try clear hb2);(try clear hk);(try clear hi);(try clear ho0)) | ((with_reducible refine gate_dst (N:=3) rfl ?_);(try (refine gate_guard (by rfl) ?_;dsimp only));refine box_event ?hg (N:=3) ?hd (cs:=#[.int .i64 0,.int .i64 0]) (t:=26) ?hr ?_;(case hd => rfl);(case hg => rfl);(case hr => first | (go_simp;done) | (go_simp;rfl));intro gb154 hg w19 hbox hb;have n0_:=Aside0.mk (Kd.N_below (Kd.N_elderB (by (with_reducible repeat (first | apply Kd.N_alloc | apply Kd.N_drewN | apply Kd.N_drew));exact HO150.out) gb154 (Nat.le_of_eq hg.symm)) hb);have n1_:=Aside0.mk (below_step (by repeat (first | (with_reducible first | exact HB.out | apply below_alloc | apply pw_below_drewN | apply below_drew1) | exact HB.out)) hb);have n2_:=Aside0.mk (hbox);have n3_:=Aside0.mk ((by rw [hg];exact (below_size (by repeat (first | (with_reducible first | exact HB.out | apply below_alloc | apply pw_below_drewN | apply below_drew1) | exact HB.out))) : w.heap.size ≤ gb154));have n4_:=Aside0.mk ((by rw [hg];exact (below_size (by repeat (first | (with_reducible first | exact HB.out | apply below_alloc | apply pw_below_drewN | apply below_drew1) | exact HB.out))) : w.heap.size ≤ gb154));clear HO150;clear HB;have HO150:=n0_;have HB:=n1_;have BK154:=n2_;have GW154:=n3_;have GE154:=n4_;clear n0_ n1_ n2_ n3_ n4_;clear hb hbox hg;have hcz20_0 : w19.cell? ⟨gb154,0,none⟩ = some (.int .i64 0):=(blk_cell BK154.out 0).trans rfl;have hcz20_1 : w19.cell? ⟨gb154,1,none⟩ = some (.int .i64 0):=(blk_cell BK154.out 1).trans rfl;have hfz20_0:=blk_frozen BK154.out 0;have hfz20_1:=blk_frozen BK154.out 1))
  go_ret
  exact ⟨by first | rfl | (simp [errW_none,errW_some] <;> rfl) | (simp [*,errW_none,errW_some] <;> rfl),by repeat (first | (with_reducible first | exact HB.out | apply below_alloc | apply pw_below_drewN | apply below_drew1 | refine below_set ?_ GE154.out) | exact HB.out)⟩

end Go.Proofs.YtmmfakdncjeoeacDoor.PE
