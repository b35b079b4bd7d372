-- Contracts of Go functions, each with its plain Lean function: written by wip/tools/myprint.py of this work (the kit's print, with contracts proved by hand spliced in).
import Derived.Test.YtjfklfmfeghjnabPGx0
import Derived.Test.YtjfklfmfeghjnabPGx2
import Derived.Test.YtjfklfmfeghjnabPGx5
import Derived.Test.YtjfklfmfeghjnabPGx9
namespace Go.Proofs.Ytjfklfmfeghjnab.PG
open Go.RowKit Go.Proofs.YtjfklfmfeghjnabW.PrintWords Go.Proofs.YtjfklfmfeghjnabW.PrintLast Go.Proofs.YtjfklfmfeghjnabW.PrintMore
attribute [local go_sem] max2_int min2_int max_two min_two max_three min_three max_four min_four   -- for this text's walks alone
set_option linter.unusedVariables false
set_option linter.unusedSimpArgs false

/-! ### tachographref09_Same: function 43 -/
mutual
def tachographref09_Same.l0 : Nat → List (S106) → List (S106) → Int → Option (Bool)
 | 0, _, _, _ => none
 | k + 1, x0, x1, x5 => if x5 < (x0.length : Int) then (if 0 ≤ x5 then (if x5 < (x1.length : Int) then (if ((rd_T106 x0 x5).f0).toList = ((rd_T106 x1 x5).f0).toList then (tachographref09_Same.j1 k x0 x1 x5 ((((rd_T106 x0 x5).f1).length : Int) != (((rd_T106 x1 x5).f1).length : Int))) else (tachographref09_Same.j1 k x0 x1 x5 true)) else (none)) else (none)) else (some true)
def tachographref09_Same.j1 : Nat → List (S106) → List (S106) → Int → Bool → Option (Bool)
 | 0, _, _, _, _ => none
 | k + 1, x0, x1, x5, x43 => if x43 = true then (some false) else (tachographref09_Same.l1 k x0 x1 x5 0)
def tachographref09_Same.l1 : Nat → List (S106) → List (S106) → Int → Int → Option (Bool)
 | 0, _, _, _, _ => none
 | k + 1, x0, x1, x5, x6 => if 0 ≤ x5 then (if x5 < (x0.length : Int) then (if x6 < (((rd_T106 x0 x5).f1).length : Int) then (if 0 ≤ x6 then (if x5 < (x1.length : Int) then (if x6 < (((rd_T106 x1 x5).f1).length : Int) then (if (rd ((rd_T106 x0 x5).f1) x6) = (rd ((rd_T106 x1 x5).f1) x6) then (tachographref09_Same.l1 k x0 x1 x5 (wrap64 (x6 + 1))) else (some false)) else (none)) else (none)) else (none)) else (tachographref09_Same.l0 k x0 x1 (wrap64 (x5 + 1)))) else (none)) else (none)
end
def tachographref09_Same.f (k : Nat) (l0 : List (S106)) (l1 : List (S106)) : Option (Bool) := if (l0.length : Int) = (l1.length : Int) then (tachographref09_Same.l0 k l0 l1 0) else (some false)
theorem tachographref09_Same.mono_l : ∀ k, (∀ y0 y1 y2, LeO (tachographref09_Same.l0 k y0 y1 y2) (tachographref09_Same.l0 (k + 1) y0 y1 y2)) ∧ (∀ y0 y1 y2 y3, LeO (tachographref09_Same.j1 k y0 y1 y2 y3) (tachographref09_Same.j1 (k + 1) y0 y1 y2 y3)) ∧ (∀ y0 y1 y2 y3, LeO (tachographref09_Same.l1 k y0 y1 y2 y3) (tachographref09_Same.l1 (k + 1) y0 y1 y2 y3))
 | 0 => ⟨fun _ _ _ r h => by simp [tachographref09_Same.l0] at h, fun _ _ _ _ r h => by simp [tachographref09_Same.j1] at h, fun _ _ _ _ r h => by simp [tachographref09_Same.l1] at h⟩
 | k + 1 => by
  obtain ⟨ih0, ih1, ih2⟩ := tachographref09_Same.mono_l k
  refine ⟨?_, ?_, ?_⟩
  ·intro y0 y1 y2
   unfold tachographref09_Same.l0
   repeat' first
   | (with_reducible exact ih0 _ _ _)
   | (with_reducible exact ih1 _ _ _ _)
   | (with_reducible exact ih2 _ _ _ _)
   | (with_reducible exact LeO.refl _)
   | (with_reducible exact LeO.none _)
   | (with_reducible refine LeO.ite ?_ ?_)
   | (with_reducible refine LeO.bind ?_ (fun _ => ?_))
   | exact ih0 _ _ _
   | exact ih1 _ _ _ _
   | exact ih2 _ _ _ _
   | exact LeO.none _
   | refine LeO.ite ?_ ?_
   | refine LeO.bind ?_ (fun _ => ?_)
  ·intro y0 y1 y2 y3
   unfold tachographref09_Same.j1
   repeat' first
   | (with_reducible exact ih0 _ _ _)
   | (with_reducible exact ih1 _ _ _ _)
   | (with_reducible exact ih2 _ _ _ _)
   | (with_reducible exact LeO.refl _)
   | (with_reducible exact LeO.none _)
   | (with_reducible refine LeO.ite ?_ ?_)
   | (with_reducible refine LeO.bind ?_ (fun _ => ?_))
   | exact ih0 _ _ _
   | exact ih1 _ _ _ _
   | exact ih2 _ _ _ _
   | exact LeO.none _
   | refine LeO.ite ?_ ?_
   | refine LeO.bind ?_ (fun _ => ?_)
  ·intro y0 y1 y2 y3
   unfold tachographref09_Same.l1
   repeat' first
   | (with_reducible exact ih0 _ _ _)
   | (with_reducible exact ih1 _ _ _ _)
   | (with_reducible exact ih2 _ _ _ _)
   | (with_reducible exact LeO.refl _)
   | (with_reducible exact LeO.none _)
   | (with_reducible refine LeO.ite ?_ ?_)
   | (with_reducible refine LeO.bind ?_ (fun _ => ?_))
   | exact ih0 _ _ _
   | exact ih1 _ _ _ _
   | exact ih2 _ _ _ _
   | exact LeO.none _
   | refine LeO.ite ?_ ?_
   | refine LeO.bind ?_ (fun _ => ?_)
theorem tachographref09_Same.mono : ∀ a0 a1 k, LeO (tachographref09_Same.f k a0 a1) (tachographref09_Same.f (k + 1) a0 a1) := by
 intro a0 a1 k
 obtain ⟨ih0, ih1, ih2⟩ := tachographref09_Same.mono_l k
 unfold tachographref09_Same.f
 repeat' first
   | (with_reducible exact ih0 _ _ _)
   | (with_reducible exact ih1 _ _ _ _)
   | (with_reducible exact ih2 _ _ _ _)
   | (with_reducible exact LeO.refl _)
   | (with_reducible exact LeO.none _)
   | (with_reducible refine LeO.ite ?_ ?_)
   | (with_reducible refine LeO.bind ?_ (fun _ => ?_))
   | exact ih0 _ _ _
   | exact ih1 _ _ _ _
   | exact ih2 _ _ _ _
   | exact LeO.none _
   | refine LeO.ite ?_ ?_
   | refine LeO.bind ?_ (fun _ => ?_)
set_option maxHeartbeats 8000000 in
set_option maxRecDepth 100000 in
theorem tachographref09_Same.calls (k : Nat) (A0 : Option Addr) (c0 : Nat) (l0 : List (S106)) (A1 : Option Addr) (c1 : Nat) (l1 : List (S106)) (r : Bool) (w : World) (hr0 : Kd.C k106 w A0 l0.length l0) (hc0 : l0.length ≤ c0) (hr1 : Kd.C k106 w A1 l1.length l1) (hc1 : l1.length ≤ c1) (h : tachographref09_Same.f k l0 l1 = some r) :
  Calls Try.prog 43 #[.slice A0 l0.length c0,.slice A1 l1.length c1] w fun e w' => e = .returned (.bool r) ∧ Drawn0 w w':=by
 have HR0:=Aside0.mk hr0
 have HC0:=Aside0.mk hc0
 clear hr0 hc0
 have HR1:=Aside0.mk hr1
 have HC1:=Aside0.mk hc1
 clear hr1 hc1
 have H : (if (l0.length : Int) = (l1.length : Int) then (tachographref09_Same.l0 k l0 l1 0) else (some false)) = some r:=h
 clear h
 by_cases c3 : (l0.length : Int) = (l1.length : Int)
 ·rw [if_pos c3] at H
  have c3b0 : ((l0.length : Int) == (l1.length : Int)) = true:=beq_iff_eq.mpr c3
  have c3b1 : ((l0.length : Int) != (l1.length : Int)) = false:=bne_eq_false_iff_eq.mpr c3
  have c3b2 : (l0.length == l1.length) = true:=by first | simpa using c3 | (simp at c3 ⊢;omega)
  clear c3
  have H':=Aside0.mk H
  clear H
  go_enter Try.func43,Try.ntmps43
  go_wp2
  repeat (go_quiet (fail);try go_wp2)
  go_loopg [5] k (fun kq v5 w' => ∃ (x5_1 : Int),v5 = .int .i64 x5_1 ∧ Aside0 (tachographref09_Same.l0 kq l0 l1 x5_1 = some r) ∧ Aside0 (kq ≤ k) ∧ Drawn0 w w')
  case atStart => exact ⟨(0),(by first | rfl | (simp;done) | (simp [*];done)),H',⟨Nat.le_refl _⟩,by repeat (first | exact Drawn0.refl _ | apply Drawn0.step)⟩
  case round =>
   clear H'
   try clear c1
   try clear p2
   try clear c3
   try clear c3b0
   try clear c3b1
   try clear c3b2
   obtain ⟨x5_1,rfl,HA,HK1,⟨m1,rfl⟩⟩:=hrel
   cases gk with
   | zero => exact absurd HA.out (by simp [tachographref09_Same.l0])
   | succ k1 =>
    have H:=HA.out
    clear HA
    simp only [tachographref09_Same.l0] at H
    by_cases c4 : x5_1 < (l0.length : Int)
    ·rw [if_pos c4] at H
     have c4b0 : decide (x5_1 < (l0.length : Int)) = true:=decide_eq_true c4
     clear c4
     have HC5:=Aside0.mk H
     clear H
     go_upto_region 6 with (fail)
     repeat (go_quiet (fail);go_upto_region 6 with (fail))
     go_cut [43] (fun v43 wc => ∃ (kq : Nat) (x43_4 : Bool),v43 = .bool x43_4 ∧ Aside0 (tachographref09_Same.j1 kq l0 l1 x5_1 x43_4 = some r) ∧ Aside0 (kq ≤ k1) ∧ Drawn0 w wc)
     case first =>
      have H:=HC5.out
      clear HC5
      by_cases c6 : 0 ≤ x5_1
      ·rw [if_pos c6] at H
       have c6b0 : decide (0 ≤ x5_1) = true:=decide_eq_true c6
       clear c6
       (first | rw [c6b0] | (simp only [i64_w,i32_w];rw [c6b0]) | skip)
       by_cases c7 : x5_1 < (l1.length : Int)
       ·rw [if_pos c7] at H
        have c7b0 : decide (x5_1 < (l1.length : Int)) = true:=decide_eq_true c7
        clear c7
        by_cases c8 : ((rd_T106 l0 x5_1).f0).toList = ((rd_T106 l1 x5_1).f0).toList
        ·rw [if_pos c8] at H
         have c8b0 : (((rd_T106 l0 x5_1).f0).toList == ((rd_T106 l1 x5_1).f0).toList) = true:=beq_iff_eq.mpr c8
         have c8b1 : (((rd_T106 l0 x5_1).f0).toList != ((rd_T106 l1 x5_1).f0).toList) = false:=bne_eq_false_iff_eq.mpr c8
         clear c8
         have H':=Aside0.mk H
         clear H
         have p233 : 0 ≤ (x5_1 : Int):=of_decide_eq_true (by first | (with_reducible assumption) | assumption)
         have q233 : x5_1 < (l0.length : Int):=of_decide_eq_true (by first | (with_reducible assumption) | assumption)
         obtain ⟨ad233,A233_1,c233_1,e233,hx233_0,hx233_1,hl233_1,hi233_1⟩:=at_T106 HR0.out x5_1 p233 q233
         cases e233
         have HR233_1:=Aside0.mk hi233_1
         have HC233_1:=Aside0.mk hl233_1
         clear hi233_1 hl233_1
         replace p233:=eq_true p233
         replace q233:=eq_true q233
         have p234 : 0 ≤ (x5_1 : Int):=of_decide_eq_true (by first | (with_reducible assumption) | assumption)
         have q234 : x5_1 < (l1.length : Int):=of_decide_eq_true (by first | (with_reducible assumption) | assumption)
         obtain ⟨ad234,A234_1,c234_1,e234,hx234_0,hx234_1,hl234_1,hi234_1⟩:=at_T106 HR1.out x5_1 p234 q234
         cases e234
         have HR234_1:=Aside0.mk hi234_1
         have HC234_1:=Aside0.mk hl234_1
         clear hi234_1 hl234_1
         replace p234:=eq_true p234
         replace q234:=eq_true q234
         have p235 : 0 ≤ (x5_1 : Int):=of_decide_eq_true (by first | (with_reducible assumption) | assumption)
         have q235 : x5_1 < (l0.length : Int):=of_decide_eq_true (by first | (with_reducible assumption) | assumption)
         obtain ⟨ad235,A235_1,c235_1,e235,hx235_0,hx235_1,hl235_1,hi235_1⟩:=at_T106 HR0.out x5_1 p235 q235
         obtain rfl : ad233 = ad235:=(by injection e235)
         have HR235_1:=Aside0.mk hi235_1
         have HC235_1:=Aside0.mk hl235_1
         clear hi235_1 hl235_1
         replace p235:=eq_true p235
         replace q235:=eq_true q235
         have ea_:=Option.some.inj (hx233_1.symm.trans hx235_1)
         injection ea_ with ea_ en_ ec_
         subst ea_
         subst ec_
         clear en_
         have p236 : 0 ≤ (x5_1 : Int):=of_decide_eq_true (by first | (with_reducible assumption) | assumption)
         have q236 : x5_1 < (l1.length : Int):=of_decide_eq_true (by first | (with_reducible assumption) | assumption)
         obtain ⟨ad236,A236_1,c236_1,e236,hx236_0,hx236_1,hl236_1,hi236_1⟩:=at_T106 HR1.out x5_1 p236 q236
         obtain rfl : ad234 = ad236:=(by injection e236)
         have HR236_1:=Aside0.mk hi236_1
         have HC236_1:=Aside0.mk hl236_1
         clear hi236_1 hl236_1
         replace p236:=eq_true p236
         replace q236:=eq_true q236
         have ea_:=Option.some.inj (hx234_1.symm.trans hx236_1)
         injection ea_ with ea_ en_ ec_
         subst ea_
         subst ec_
         clear en_
         go_wp2
         repeat (go_quiet (fail);try go_wp2)
         go_meet
         case rel => exact ⟨_,(((((rd_T106 l0 x5_1).f1).length : Int) != (((rd_T106 l1 x5_1).f1).length : Int))),(by first | rfl | (simp;done) | (simp [*];done)),H',⟨by have:=HK1.out;first | omega | exact Nat.le_refl _⟩,by repeat (first | exact Drawn0.refl _ | apply Drawn0.step)⟩
        ·rw [if_neg c8] at H
         have c8b0 : (((rd_T106 l0 x5_1).f0).toList == ((rd_T106 l1 x5_1).f0).toList) = false:=beq_eq_false_iff_ne.mpr c8
         have c8b1 : (((rd_T106 l0 x5_1).f0).toList != ((rd_T106 l1 x5_1).f0).toList) = true:=bne_iff_ne.mpr c8
         have H':=Aside0.mk H
         clear H
         have p233 : 0 ≤ (x5_1 : Int):=of_decide_eq_true (by first | (with_reducible assumption) | assumption)
         have q233 : x5_1 < (l0.length : Int):=of_decide_eq_true (by first | (with_reducible assumption) | assumption)
         obtain ⟨ad233,A233_1,c233_1,e233,hx233_0,hx233_1,hl233_1,hi233_1⟩:=at_T106 HR0.out x5_1 p233 q233
         cases e233
         have HR233_1:=Aside0.mk hi233_1
         have HC233_1:=Aside0.mk hl233_1
         clear hi233_1 hl233_1
         replace p233:=eq_true p233
         replace q233:=eq_true q233
         have p234 : 0 ≤ (x5_1 : Int):=of_decide_eq_true (by first | (with_reducible assumption) | assumption)
         have q234 : x5_1 < (l1.length : Int):=of_decide_eq_true (by first | (with_reducible assumption) | assumption)
         obtain ⟨ad234,A234_1,c234_1,e234,hx234_0,hx234_1,hl234_1,hi234_1⟩:=at_T106 HR1.out x5_1 p234 q234
         cases e234
         have HR234_1:=Aside0.mk hi234_1
         have HC234_1:=Aside0.mk hl234_1
         clear hi234_1 hl234_1
         replace p234:=eq_true p234
         replace q234:=eq_true q234
         go_wp2
         repeat (go_quiet (fail);try go_wp2)
         go_meet
         case rel => exact ⟨_,(true),(by first | rfl | (simp;done) | (simp [*];done)),H',⟨by have:=HK1.out;first | omega | exact Nat.le_refl _⟩,by repeat (first | exact Drawn0.refl _ | apply Drawn0.step)⟩
       ·rw [if_neg c7] at H
        exact absurd H (by simp)
      ·rw [if_neg c6] at H
       exact absurd H (by simp)
     case rest =>
      clear HC5
      try clear c1
      try clear c2
      try clear p2
      try clear q2
      try clear hx2
      try clear c3
      try clear c3b0
      try clear c3b1
      try clear c3b2
      try clear c4
      try clear c4b0
      try clear c6
      try clear c6b0
      try clear c7
      try clear c7b0
      try clear c8
      try clear c8b0
      try clear c8b1
      try clear hx233_0
      try clear hx233_1
      try clear hx234_0
      try clear hx234_1
      try clear hx235_0
      try clear hx235_1
      try clear hx236_0
      try clear hx236_1
      try clear p2
      try clear p233
      try clear p234
      try clear p235
      try clear p236
      try clear q233
      try clear q234
      try clear q235
      try clear q236
      obtain ⟨kq,x43_4,rfl,HA,HJ4,⟨mc4,rfl⟩⟩:=hcut
      cases kq with
      | zero => exact absurd HA.out (by simp [tachographref09_Same.j1])
      | succ kj4 =>
       have H:=HA.out
       clear HA
       simp only [tachographref09_Same.j1] at H
       by_cases c9 : x43_4 = true
       ·subst c9
        have H1 : (some false) = some r:=by rw [if_pos rfl] at H;exact H
        clear H
        have H:=H1
        clear H1
        obtain rfl:=Option.some.inj H
        go_wp2
        repeat (go_quiet (fail);try go_wp2)
        go_ret
        exact ⟨by first | rfl | (simp;done) | (simp [*];done),by repeat (first | exact Drawn0.refl _ | apply Drawn0.step)⟩
       ·replace c9:=Bool.eq_false_iff.mpr c9
        subst c9
        have H1 : (tachographref09_Same.l1 kj4 l0 l1 x5_1 0) = some r:=by rw [if_neg (show ¬ (false = true) by decide)] at H;exact H
        clear H
        have H:=H1
        clear H1
        have H':=Aside0.mk H
        clear H
        go_wp2
        repeat (go_quiet (fail);try go_wp2)
        go_loopg [6] kj4 (fun kq v6 w' => ∃ (x6_3 : Int),v6 = .int .i64 x6_3 ∧ Aside0 (tachographref09_Same.l1 kq l0 l1 x5_1 x6_3 = some r) ∧ Aside0 (kq ≤ kj4) ∧ Drawn0 w w')
        case atStart => exact ⟨(0),(by first | rfl | (simp;done) | (simp [*];done)),H',⟨Nat.le_refl _⟩,by repeat (first | exact Drawn0.refl _ | apply Drawn0.step)⟩
        case round =>
         clear H'
         try clear c1
         try clear c2
         try clear p2
         try clear q2
         try clear hx2
         try clear c3
         try clear c3b0
         try clear c3b1
         try clear c3b2
         try clear c4
         try clear c4b0
         try clear c6
         try clear c6b0
         try clear c7
         try clear c7b0
         try clear c8
         try clear c8b0
         try clear c8b1
         try clear c9
         try clear hx233_0
         try clear hx233_1
         try clear hx234_0
         try clear hx234_1
         try clear hx235_0
         try clear hx235_1
         try clear hx236_0
         try clear hx236_1
         try clear p2
         try clear p233
         try clear p234
         try clear p235
         try clear p236
         try clear q2
         try clear q233
         try clear q234
         try clear q235
         try clear q236
         obtain ⟨x6_3,rfl,HA,HK3,⟨m3,rfl⟩⟩:=hrel
         cases gk with
         | zero => exact absurd HA.out (by simp [tachographref09_Same.l1])
         | succ k3 =>
          have H:=HA.out
          clear HA
          simp only [tachographref09_Same.l1] at H
          by_cases c10 : 0 ≤ x5_1
          ·rw [if_pos c10] at H
           have c10b0 : decide (0 ≤ x5_1) = true:=decide_eq_true c10
           clear c10
           by_cases c11 : x5_1 < (l0.length : Int)
           ·rw [if_pos c11] at H
            have c11b0 : decide (x5_1 < (l0.length : Int)) = true:=decide_eq_true c11
            clear c11
            by_cases c12 : x6_3 < (((rd_T106 l0 x5_1).f1).length : Int)
            ·rw [if_pos c12] at H
             have c12b0 : decide (x6_3 < (((rd_T106 l0 x5_1).f1).length : Int)) = true:=decide_eq_true c12
             clear c12
             by_cases c13 : 0 ≤ x6_3
             ·rw [if_pos c13] at H
              have c13b0 : decide (0 ≤ x6_3) = true:=decide_eq_true c13
              clear c13
              by_cases c14 : x5_1 < (l1.length : Int)
              ·rw [if_pos c14] at H
               have c14b0 : decide (x5_1 < (l1.length : Int)) = true:=decide_eq_true c14
               clear c14
               by_cases c15 : x6_3 < (((rd_T106 l1 x5_1).f1).length : Int)
               ·rw [if_pos c15] at H
                have c15b0 : decide (x6_3 < (((rd_T106 l1 x5_1).f1).length : Int)) = true:=decide_eq_true c15
                clear c15
                by_cases c16 : (rd ((rd_T106 l0 x5_1).f1) x6_3) = (rd ((rd_T106 l1 x5_1).f1) x6_3)
                ·rw [if_pos c16] at H
                 have c16b0 : ((rd ((rd_T106 l0 x5_1).f1) x6_3) == (rd ((rd_T106 l1 x5_1).f1) x6_3)) = true:=beq_iff_eq.mpr c16
                 have c16b1 : ((rd ((rd_T106 l0 x5_1).f1) x6_3) != (rd ((rd_T106 l1 x5_1).f1) x6_3)) = false:=bne_eq_false_iff_eq.mpr c16
                 clear c16
                 have H':=Aside0.mk H
                 clear H
                 have p237 : 0 ≤ (x5_1 : Int):=of_decide_eq_true (by first | (with_reducible assumption) | assumption)
                 have q237 : x5_1 < (l0.length : Int):=of_decide_eq_true (by first | (with_reducible assumption) | assumption)
                 obtain ⟨ad237,A237_1,c237_1,e237,hx237_0,hx237_1,hl237_1,hi237_1⟩:=at_T106 HR0.out x5_1 p237 q237
                 cases e237
                 have HR237_1:=Aside0.mk hi237_1
                 have HC237_1:=Aside0.mk hl237_1
                 clear hi237_1 hl237_1
                 replace p237:=eq_true p237
                 replace q237:=eq_true q237
                 have p238 : 0 ≤ (x5_1 : Int):=of_decide_eq_true (by first | (with_reducible assumption) | assumption)
                 have q238 : x5_1 < (l0.length : Int):=of_decide_eq_true (by first | (with_reducible assumption) | assumption)
                 obtain ⟨ad238,A238_1,c238_1,e238,hx238_0,hx238_1,hl238_1,hi238_1⟩:=at_T106 HR0.out x5_1 p238 q238
                 obtain rfl : ad237 = ad238:=(by injection e238)
                 have HR238_1:=Aside0.mk hi238_1
                 have HC238_1:=Aside0.mk hl238_1
                 clear hi238_1 hl238_1
                 replace p238:=eq_true p238
                 replace q238:=eq_true q238
                 have ea_:=Option.some.inj (hx237_1.symm.trans hx238_1)
                 injection ea_ with ea_ en_ ec_
                 subst ea_
                 subst ec_
                 clear en_
                 have p239 : 0 ≤ (x6_3 : Int):=of_decide_eq_true (by first | (with_reducible assumption) | assumption)
                 have q239 : x6_3 < (((rd_T106 l0 x5_1).f1).length : Int):=of_decide_eq_true (by first | (with_reducible assumption) | assumption)
                 obtain ⟨ad239,e239,hx239_0⟩:=Kd.at_int HR238_1.out x6_3 p239 q239
                 cases e239
                 replace p239:=eq_true p239
                 replace q239:=eq_true q239
                 have p240 : 0 ≤ (x5_1 : Int):=of_decide_eq_true (by first | (with_reducible assumption) | assumption)
                 have q240 : x5_1 < (l1.length : Int):=of_decide_eq_true (by first | (with_reducible assumption) | assumption)
                 obtain ⟨ad240,A240_1,c240_1,e240,hx240_0,hx240_1,hl240_1,hi240_1⟩:=at_T106 HR1.out x5_1 p240 q240
                 cases e240
                 have HR240_1:=Aside0.mk hi240_1
                 have HC240_1:=Aside0.mk hl240_1
                 clear hi240_1 hl240_1
                 replace p240:=eq_true p240
                 replace q240:=eq_true q240
                 have p241 : 0 ≤ (x6_3 : Int):=of_decide_eq_true (by first | (with_reducible assumption) | assumption)
                 have q241 : x6_3 < (((rd_T106 l1 x5_1).f1).length : Int):=of_decide_eq_true (by first | (with_reducible assumption) | assumption)
                 obtain ⟨ad241,e241,hx241_0⟩:=Kd.at_int HR240_1.out x6_3 p241 q241
                 cases e241
                 replace p241:=eq_true p241
                 replace q241:=eq_true q241
                 go_wp2
                 repeat (go_quiet (fail);try go_wp2)
                 go_roundg k3
                 case measure => have:=HK1.out;have:=HJ4.out;have:=HK3.out;omega
                 case rel => exact ⟨(wrap64 (x6_3 + 1)),(by first | rfl | (simp;done) | (simp [*];done)),H',⟨by have:=HK1.out;have:=HJ4.out;have:=HK3.out;omega⟩,by repeat (first | exact Drawn0.refl _ | apply Drawn0.step)⟩
                ·rw [if_neg c16] at H
                 have c16b0 : ((rd ((rd_T106 l0 x5_1).f1) x6_3) == (rd ((rd_T106 l1 x5_1).f1) x6_3)) = false:=beq_eq_false_iff_ne.mpr c16
                 have c16b1 : ((rd ((rd_T106 l0 x5_1).f1) x6_3) != (rd ((rd_T106 l1 x5_1).f1) x6_3)) = true:=bne_iff_ne.mpr c16
                 obtain rfl:=Option.some.inj H
                 have p237 : 0 ≤ (x5_1 : Int):=of_decide_eq_true (by first | (with_reducible assumption) | assumption)
                 have q237 : x5_1 < (l0.length : Int):=of_decide_eq_true (by first | (with_reducible assumption) | assumption)
                 obtain ⟨ad237,A237_1,c237_1,e237,hx237_0,hx237_1,hl237_1,hi237_1⟩:=at_T106 HR0.out x5_1 p237 q237
                 cases e237
                 have HR237_1:=Aside0.mk hi237_1
                 have HC237_1:=Aside0.mk hl237_1
                 clear hi237_1 hl237_1
                 replace p237:=eq_true p237
                 replace q237:=eq_true q237
                 have p238 : 0 ≤ (x5_1 : Int):=of_decide_eq_true (by first | (with_reducible assumption) | assumption)
                 have q238 : x5_1 < (l0.length : Int):=of_decide_eq_true (by first | (with_reducible assumption) | assumption)
                 obtain ⟨ad238,A238_1,c238_1,e238,hx238_0,hx238_1,hl238_1,hi238_1⟩:=at_T106 HR0.out x5_1 p238 q238
                 obtain rfl : ad237 = ad238:=(by injection e238)
                 have HR238_1:=Aside0.mk hi238_1
                 have HC238_1:=Aside0.mk hl238_1
                 clear hi238_1 hl238_1
                 replace p238:=eq_true p238
                 replace q238:=eq_true q238
                 have ea_:=Option.some.inj (hx237_1.symm.trans hx238_1)
                 injection ea_ with ea_ en_ ec_
                 subst ea_
                 subst ec_
                 clear en_
                 have p239 : 0 ≤ (x6_3 : Int):=of_decide_eq_true (by first | (with_reducible assumption) | assumption)
                 have q239 : x6_3 < (((rd_T106 l0 x5_1).f1).length : Int):=of_decide_eq_true (by first | (with_reducible assumption) | assumption)
                 obtain ⟨ad239,e239,hx239_0⟩:=Kd.at_int HR238_1.out x6_3 p239 q239
                 cases e239
                 replace p239:=eq_true p239
                 replace q239:=eq_true q239
                 have p240 : 0 ≤ (x5_1 : Int):=of_decide_eq_true (by first | (with_reducible assumption) | assumption)
                 have q240 : x5_1 < (l1.length : Int):=of_decide_eq_true (by first | (with_reducible assumption) | assumption)
                 obtain ⟨ad240,A240_1,c240_1,e240,hx240_0,hx240_1,hl240_1,hi240_1⟩:=at_T106 HR1.out x5_1 p240 q240
                 cases e240
                 have HR240_1:=Aside0.mk hi240_1
                 have HC240_1:=Aside0.mk hl240_1
                 clear hi240_1 hl240_1
                 replace p240:=eq_true p240
                 replace q240:=eq_true q240
                 have p241 : 0 ≤ (x6_3 : Int):=of_decide_eq_true (by first | (with_reducible assumption) | assumption)
                 have q241 : x6_3 < (((rd_T106 l1 x5_1).f1).length : Int):=of_decide_eq_true (by first | (with_reducible assumption) | assumption)
                 obtain ⟨ad241,e241,hx241_0⟩:=Kd.at_int HR240_1.out x6_3 p241 q241
                 cases e241
                 replace p241:=eq_true p241
                 replace q241:=eq_true q241
                 go_wp2
                 repeat (go_quiet (fail);try go_wp2)
                 go_ret
                 exact ⟨by first | rfl | (simp;done) | (simp [*];done),by repeat (first | exact Drawn0.refl _ | apply Drawn0.step)⟩
               ·rw [if_neg c15] at H
                exact absurd H (by simp)
              ·rw [if_neg c14] at H
               exact absurd H (by simp)
             ·rw [if_neg c13] at H
              exact absurd H (by simp)
            ·rw [if_neg c12] at H
             have c12b0 : decide (x6_3 < (((rd_T106 l0 x5_1).f1).length : Int)) = false:=decide_eq_false c12
             clear c12
             have H':=Aside0.mk H
             clear H
             have p237 : 0 ≤ (x5_1 : Int):=of_decide_eq_true (by first | (with_reducible assumption) | assumption)
             have q237 : x5_1 < (l0.length : Int):=of_decide_eq_true (by first | (with_reducible assumption) | assumption)
             obtain ⟨ad237,A237_1,c237_1,e237,hx237_0,hx237_1,hl237_1,hi237_1⟩:=at_T106 HR0.out x5_1 p237 q237
             cases e237
             have HR237_1:=Aside0.mk hi237_1
             have HC237_1:=Aside0.mk hl237_1
             clear hi237_1 hl237_1
             replace p237:=eq_true p237
             replace q237:=eq_true q237
             go_wp2
             repeat (go_quiet (fail);try go_wp2)
             go_roundg k3
             case measure => have:=HK1.out;have:=HJ4.out;have:=HK3.out;omega
             case rel => exact ⟨(wrap64 (x5_1 + 1)),(by first | rfl | (simp;done) | (simp [*];done)),H',⟨by have:=HK1.out;have:=HJ4.out;have:=HK3.out;omega⟩,by repeat (first | exact Drawn0.refl _ | apply Drawn0.step)⟩
           ·rw [if_neg c11] at H
            exact absurd H (by simp)
          ·rw [if_neg c10] at H
           exact absurd H (by simp)
    ·rw [if_neg c4] at H
     have c4b0 : decide (x5_1 < (l0.length : Int)) = false:=decide_eq_false c4
     clear c4
     obtain rfl:=Option.some.inj H
     go_wp2
     repeat (go_quiet (fail);try go_wp2)
     go_ret
     exact ⟨by first | rfl | (simp;done) | (simp [*];done),by repeat (first | exact Drawn0.refl _ | apply Drawn0.step)⟩
 ·rw [if_neg c3] at H
  have c3b0 : ((l0.length : Int) == (l1.length : Int)) = false:=beq_eq_false_iff_ne.mpr c3
  have c3b1 : ((l0.length : Int) != (l1.length : Int)) = true:=bne_iff_ne.mpr c3
  have c3b2 : (l0.length == l1.length) = false:=by first | simpa using c3 | (simp at c3 ⊢;omega)
  obtain rfl:=Option.some.inj H
  go_enter Try.func43,Try.ntmps43
  go_wp2
  repeat (go_quiet (fail);try go_wp2)
  go_ret
  exact ⟨by first | rfl | (simp;done) | (simp [*];done),by repeat (first | exact Drawn0.refl _ | apply Drawn0.step)⟩

/-! ### tachographlaw11_SigbinGets: function 8 -/
def tachographlaw11_SigbinGets.j0 : Nat → List Int → List (S106) → Int → Bool → Option (Bool)
 | 0, _, _, _, _ => none
 | k + 1, x0, x3, x4, x32 => if x32 = true then (some false) else ((sigbin_Put.f k x3).bind fun bt252 => ((tachographlaw11_fixed.f k).bind fun t256 => (if t256 = true then (if x4 = 0 then (if bt252.2 = 0 then (some ((strOfNums bt252.1).toList == (strOfNums x0).toList)) else (some false)) else (some true)) else (some false))))
def tachographlaw11_SigbinGets.f (k : Nat) (l0 : List Int) : Option (Bool) := if (l0.length : Int) > 3000 then ((tachographlaw11_fixed.f k).bind fun t242 => (some t242)) else ((sigbin_Get.f k l0).bind fun bt243 => ((tachographref11_Get.f k (strOfNums l0)).bind fun bt247 => ((tachographref09_Same.f k bt243.1 bt247.1).bind fun t251 => (if t251 = true then (tachographlaw11_SigbinGets.j0 k l0 bt243.1 bt243.2 (bt243.2 != bt247.2)) else (tachographlaw11_SigbinGets.j0 k l0 bt243.1 bt243.2 true)))))
theorem tachographlaw11_SigbinGets.mono_l : ∀ k, (∀ y0 y1 y2 y3, LeO (tachographlaw11_SigbinGets.j0 k y0 y1 y2 y3) (tachographlaw11_SigbinGets.j0 (k + 1) y0 y1 y2 y3))
 | 0 => fun _ _ _ _ r h => by simp [tachographlaw11_SigbinGets.j0] at h
 | k + 1 => by
  have ih0 := tachographlaw11_SigbinGets.mono_l k
  ·intro y0 y1 y2 y3
   unfold tachographlaw11_SigbinGets.j0
   repeat' first
   | (with_reducible exact ih0 _ _ _ _)
   | (with_reducible exact sigbin_Get.mono _ _)
   | (with_reducible exact sigbin_Put.mono _ _)
   | (with_reducible exact tachographlaw11_fixed.mono _)
   | (with_reducible exact tachographref09_Same.mono _ _ _)
   | (with_reducible exact tachographref11_Get.mono _ _)
   | (with_reducible exact LeO.refl _)
   | (with_reducible exact LeO.none _)
   | (with_reducible refine LeO.ite ?_ ?_)
   | (with_reducible refine LeO.bind ?_ (fun _ => ?_))
   | exact ih0 _ _ _ _
   | exact sigbin_Get.mono _ _
   | exact sigbin_Put.mono _ _
   | exact tachographlaw11_fixed.mono _
   | exact tachographref09_Same.mono _ _ _
   | exact tachographref11_Get.mono _ _
   | exact LeO.none _
   | refine LeO.ite ?_ ?_
   | refine LeO.bind ?_ (fun _ => ?_)
theorem tachographlaw11_SigbinGets.mono : ∀ a0 k, LeO (tachographlaw11_SigbinGets.f k a0) (tachographlaw11_SigbinGets.f (k + 1) a0) := by
 intro a0 k
 have ih0 := tachographlaw11_SigbinGets.mono_l k
 unfold tachographlaw11_SigbinGets.f
 repeat' first
   | (with_reducible exact ih0 _ _ _ _)
   | (with_reducible exact sigbin_Get.mono _ _)
   | (with_reducible exact sigbin_Put.mono _ _)
   | (with_reducible exact tachographlaw11_fixed.mono _)
   | (with_reducible exact tachographref09_Same.mono _ _ _)
   | (with_reducible exact tachographref11_Get.mono _ _)
   | (with_reducible exact LeO.refl _)
   | (with_reducible exact LeO.none _)
   | (with_reducible refine LeO.ite ?_ ?_)
   | (with_reducible refine LeO.bind ?_ (fun _ => ?_))
   | exact ih0 _ _ _ _
   | exact sigbin_Get.mono _ _
   | exact sigbin_Put.mono _ _
   | exact tachographlaw11_fixed.mono _
   | exact tachographref09_Same.mono _ _ _
   | exact tachographref11_Get.mono _ _
   | exact LeO.none _
   | refine LeO.ite ?_ ?_
   | refine LeO.bind ?_ (fun _ => ?_)
set_option maxHeartbeats 8000000 in
set_option maxRecDepth 100000 in
theorem tachographlaw11_SigbinGets.calls (k : Nat) (A0 : Option Addr) (c0 : Nat) (l0 : List Int) (r : Bool) (w : World) (hr0 : Kd.C (Kd.int .u8) w A0 l0.length l0) (hc0 : l0.length ≤ c0) (h : tachographlaw11_SigbinGets.f k l0 = some r) :
  Calls Try.prog 8 #[.slice A0 l0.length c0] w fun e w' => e = .returned (.bool r) ∧ Below w.heap.size w w':=by
 have HR0:=Aside0.mk hr0
 have HC0:=Aside0.mk hc0
 clear hr0 hc0
 have HB:=Aside0.mk (Below.refl w.heap.size w)
 have H : (if (l0.length : Int) > 3000 then ((tachographlaw11_fixed.f k).bind fun t242 => (some t242)) else ((sigbin_Get.f k l0).bind fun bt243 => ((tachographref11_Get.f k (strOfNums l0)).bind fun bt247 => ((tachographref09_Same.f k bt243.1 bt247.1).bind fun t251 => (if t251 = true then (tachographlaw11_SigbinGets.j0 k l0 bt243.1 bt243.2 (bt243.2 != bt247.2)) else (tachographlaw11_SigbinGets.j0 k l0 bt243.1 bt243.2 true)))))) = some r:=h
 clear h
 by_cases c2 : (l0.length : Int) > 3000
 ·rw [if_pos c2] at H
  have c2b0 : decide (3000 < (l0.length : Int)) = true:=decide_eq_true c2
  have c2b1 : decide (3000 < l0.length) = true:=decide_eq_true (by omega)
  clear c2
  replace H:=Option.bind_eq_some_iff.mp H
  obtain ⟨t242,A30,H⟩:=H
  replace H : (some t242) = some r:=H
  have A3:=Aside0.mk A30
  clear A30
  obtain rfl:=Option.some.inj H
  go_enter Try.func8,Try.ntmps8
  go_wp2_with (first | ((with_reducible refine gate_callee (f:=40) rfl ?_);refine goesL_ (some 12) rfl rfl Try.func40 (by kernel_rfl) rfl #[] rfl (by (try simp only [List.map_toArray,List.map_cons,List.map_nil]);first | done | rfl | (simp only [List.length_drop,List.length_take];rfl)) ?_;(with_reducible refine (tachographlaw11_fixed.calls k  t242 _ A3.out).mono ?_);rintro e w4 ⟨rfl,hb⟩;refine ⟨_,rfl,?_⟩;have n0_:=Aside0.mk (below_step (by repeat (first | (with_reducible first | exact HB.out | apply below_alloc | apply pw_below_drewN | apply below_drew1) | exact HB.out)) hb);clear HB;have HB:=n0_;clear n0_;(try clear hb);(try clear hb2);(try clear hk);(try clear hi)))
  go_ret
  exact ⟨by first | rfl | (simp [errW_none,errW_some] <;> rfl) | (simp [*,errW_none,errW_some] <;> rfl),by repeat (first | (with_reducible first | exact HB.out | apply below_alloc | apply pw_below_drewN | apply below_drew1) | exact HB.out)⟩
 ·rw [if_neg c2] at H
  have c2b0 : decide (3000 < (l0.length : Int)) = false:=decide_eq_false c2
  have c2b1 : decide (3000 < l0.length) = false:=decide_eq_false (by omega)
  clear c2
  replace H:=Option.bind_eq_some_iff.mp H
  obtain ⟨⟨t243,t244⟩,A50,H⟩:=H
  replace H : ((tachographref11_Get.f k (strOfNums l0)).bind fun bt247 => ((tachographref09_Same.f k t243 bt247.1).bind fun t251 => (if t251 = true then (tachographlaw11_SigbinGets.j0 k l0 t243 t244 (t244 != bt247.2)) else (tachographlaw11_SigbinGets.j0 k l0 t243 t244 true)))) = some r:=H
  have A5:=Aside0.mk A50
  clear A50
  replace H:=Option.bind_eq_some_iff.mp H
  obtain ⟨⟨t247,t248⟩,A60,H⟩:=H
  replace H : ((tachographref09_Same.f k t243 t247).bind fun t251 => (if t251 = true then (tachographlaw11_SigbinGets.j0 k l0 t243 t244 (t244 != t248)) else (tachographlaw11_SigbinGets.j0 k l0 t243 t244 true))) = some r:=H
  have A6:=Aside0.mk A60
  clear A60
  have HC7:=Aside0.mk H
  clear H
  go_enter Try.func8,Try.ntmps8
  go_upto_region 5 with (first | ((with_reducible refine gate_callee (f:=41) rfl ?_);refine goesL_ (some 15) rfl rfl Try.func41 (by kernel_rfl) rfl #[.slice A0 l0.length c0] rfl (by (try simp only [List.map_toArray,List.map_cons,List.map_nil]);first | done | rfl | (simp only [List.length_drop,List.length_take];rfl)) ?_;(with_reducible refine (sigbin_Get.calls k _ _ l0 t243 t244 _ ?side1 ?side2 A5.out).mono ?_);(case side1 => repeat (first | exact HR0.out | (with_reducible refine Kd.C_alloc ?_ _) | (with_reducible refine Kd.C_drewN ?_ _) | (with_reducible refine Kd.C_drew ?_)));(case side2 => exact HC0.out);rintro e w8 ⟨v245,rfl,ho0,hb⟩;refine ⟨_,rfl,?_⟩;have n0_:=Aside0.mk (Kd.S_lower ho0 (below_size (by repeat (first | (with_reducible first | exact HB.out | apply below_alloc | apply pw_below_drewN | apply below_drew1) | exact HB.out))));have n1_:=Aside0.mk (below_step (by repeat (first | (with_reducible first | exact HB.out | apply below_alloc | apply pw_below_drewN | apply below_drew1) | exact HB.out)) hb);clear HB;have HO246:=n0_;have HB:=n1_;clear n0_ n1_;(try clear hb);(try clear hb2);(try clear hk);(try clear hi);(try clear ho0);have hcv9:=Kd.C_string (P:=Try.prog) (A:=A0) (c:=c0) Try.underlying71 Try.underlying5 Try.underlying9 (Kd.C_below HR0.out HB.out);have hcv11:=fun m_ : Nat => Kd.C_string (P:=Try.prog) (A:=A0) (c:=c0) Try.underlying71 Try.underlying5 Try.underlying9 (Kd.C_drewN (Kd.C_below HR0.out HB.out) m_)) | ((with_reducible refine gate_callee (f:=42) rfl ?_);refine goesL_ (some 21) rfl rfl Try.func42 (by kernel_rfl) rfl #[.string (strOfNums l0)] rfl (by (try simp only [List.map_toArray,List.map_cons,List.map_nil]);first | done | rfl | (simp only [List.length_drop,List.length_take];rfl)) ?_;(with_reducible refine (tachographref11_Get.calls k (strOfNums l0) t247 t248 _ A6.out).mono ?_);rintro e w12 ⟨v249,rfl,ho0,hb⟩;refine ⟨_,rfl,?_⟩;have n0_:=Aside0.mk (Kd.S_elder' (by (with_reducible repeat (first | apply Kd.S_alloc | apply Kd.S_drewN | apply Kd.S_drew));exact HO246.out) (Kd.S_base ho0) hb);have n1_:=Aside0.mk (Kd.S_lower (Kd.S_new' ho0 (Kd.S_lt (by (with_reducible repeat (first | apply Kd.S_alloc | apply Kd.S_drewN | apply Kd.S_drew));exact HO246.out))) (below_size (by repeat (first | (with_reducible first | exact HB.out | apply below_alloc | apply pw_below_drewN | apply below_drew1) | exact HB.out))));have n2_:=Aside0.mk (below_step (by repeat (first | (with_reducible first | exact HB.out | apply below_alloc | apply pw_below_drewN | apply below_drew1) | exact HB.out)) hb);clear HO246;clear HB;have HO246:=n0_;have HO250:=n1_;have HB:=n2_;clear n0_ n1_ n2_;(try clear hb);(try clear hb2);(try clear hk);(try clear hi);(try clear ho0)))
  (try simp only [Act.put,List.setIfInBounds_toArray,List.set_cons_zero,List.set_cons_succ])
  go_cut [32] (fun v32 wc => ∃ (kq : Nat) (x32_6 : Bool),v32 = .bool x32_6 ∧ Aside0 (tachographlaw11_SigbinGets.j0 kq l0 t243 t244 x32_6 = some r) ∧ Aside0 (kq ≤ k) ∧ Aside0 (Kd.S k106 106 wc w.heap.size (fun _ => True) v245 t243) ∧ Aside0 (Below w.heap.size w wc))
  case first =>
   have H:=HC7.out
   clear HC7
   replace H:=Option.bind_eq_some_iff.mp H
   obtain ⟨t251,A130,H⟩:=H
   replace H : (if t251 = true then (tachographlaw11_SigbinGets.j0 k l0 t243 t244 (t244 != t248)) else (tachographlaw11_SigbinGets.j0 k l0 t243 t244 true)) = some r:=H
   have A13:=Aside0.mk A130
   clear A130
   by_cases c14 : t251 = true
   ·subst c14
    have H1 : (tachographlaw11_SigbinGets.j0 k l0 t243 t244 (t244 != t248)) = some r:=by rw [if_pos rfl] at H;exact H
    clear H
    have H:=H1
    clear H1
    have H':=Aside0.mk H
    clear H
    obtain ⟨Ao15,co15,eo15⟩:=Kd.S_slice HO246.out
    subst eo15
    obtain ⟨Ao16,co16,eo16⟩:=Kd.S_slice HO250.out
    subst eo16
    go_wp2_with (first | ((with_reducible refine gate_callee (f:=43) rfl ?_);refine goesL_ (some 26) rfl rfl Try.func43 (by kernel_rfl) rfl #[.slice Ao15 t243.length co15,.slice Ao16 t247.length co16] rfl (by (try simp only [List.map_toArray,List.map_cons,List.map_nil]);first | done | rfl | (simp only [List.length_drop,List.length_take];rfl)) ?_;(with_reducible refine (tachographref09_Same.calls k _ _ t243 _ _ t247 true _ ?side1 ?side2 ?side3 ?side4 A13.out).mono ?_);(case side1 => repeat (first | exact (Kd.S_reads' HO246.out).2.2 | (with_reducible refine Kd.C_alloc ?_ _) | (with_reducible refine Kd.C_drewN ?_ _) | (with_reducible refine Kd.C_drew ?_)));(case side2 => exact (Kd.S_reads' HO246.out).2.1);(case side3 => repeat (first | exact (Kd.S_reads' HO250.out).2.2 | (with_reducible refine Kd.C_alloc ?_ _) | (with_reducible refine Kd.C_drewN ?_ _) | (with_reducible refine Kd.C_drew ?_)));(case side4 => exact (Kd.S_reads' HO250.out).2.1);rintro e w' ⟨rfl,⟨nd,rfl⟩⟩;refine ⟨_,rfl,?_⟩))
    go_meet
    case rel => exact ⟨_,((t244 != t248)),(by first | rfl | (simp;done) | (simp [*];done)),H',⟨by first | omega | exact Nat.le_refl _⟩,⟨by (with_reducible repeat (first | apply Kd.S_alloc | apply Kd.S_drewN | apply Kd.S_drew));exact Kd.S_mono HO246.out (fun _ hk => trivial)⟩,⟨by repeat (first | (with_reducible first | exact HB.out | apply below_alloc | apply pw_below_drewN | apply below_drew1) | exact HB.out)⟩⟩
   ·replace c14:=Bool.eq_false_iff.mpr c14
    subst c14
    have H1 : (tachographlaw11_SigbinGets.j0 k l0 t243 t244 true) = some r:=by rw [if_neg (show ¬ (false = true) by decide)] at H;exact H
    clear H
    have H:=H1
    clear H1
    have H':=Aside0.mk H
    clear H
    obtain ⟨Ao17,co17,eo17⟩:=Kd.S_slice HO246.out
    subst eo17
    obtain ⟨Ao18,co18,eo18⟩:=Kd.S_slice HO250.out
    subst eo18
    go_wp2_with (first | ((with_reducible refine gate_callee (f:=43) rfl ?_);refine goesL_ (some 26) rfl rfl Try.func43 (by kernel_rfl) rfl #[.slice Ao17 t243.length co17,.slice Ao18 t247.length co18] rfl (by (try simp only [List.map_toArray,List.map_cons,List.map_nil]);first | done | rfl | (simp only [List.length_drop,List.length_take];rfl)) ?_;(with_reducible refine (tachographref09_Same.calls k _ _ t243 _ _ t247 false _ ?side1 ?side2 ?side3 ?side4 A13.out).mono ?_);(case side1 => repeat (first | exact (Kd.S_reads' HO246.out).2.2 | (with_reducible refine Kd.C_alloc ?_ _) | (with_reducible refine Kd.C_drewN ?_ _) | (with_reducible refine Kd.C_drew ?_)));(case side2 => exact (Kd.S_reads' HO246.out).2.1);(case side3 => repeat (first | exact (Kd.S_reads' HO250.out).2.2 | (with_reducible refine Kd.C_alloc ?_ _) | (with_reducible refine Kd.C_drewN ?_ _) | (with_reducible refine Kd.C_drew ?_)));(case side4 => exact (Kd.S_reads' HO250.out).2.1);rintro e w' ⟨rfl,⟨nd,rfl⟩⟩;refine ⟨_,rfl,?_⟩))
    go_meet
    case rel => exact ⟨_,(true),(by first | rfl | (simp;done) | (simp [*];done)),H',⟨by first | omega | exact Nat.le_refl _⟩,⟨by (with_reducible repeat (first | apply Kd.S_alloc | apply Kd.S_drewN | apply Kd.S_drew));exact Kd.S_mono HO246.out (fun _ hk => trivial)⟩,⟨by repeat (first | (with_reducible first | exact HB.out | apply below_alloc | apply pw_below_drewN | apply below_drew1) | exact HB.out)⟩⟩
  case rest =>
   clear HC7
   try clear c1
   try clear hcv1
   try clear c2
   try clear c2b0
   try clear c2b1
   try clear p2
   try clear c4
   try clear c8
   try clear hcv9
   try clear hcv11
   try clear c14
   obtain ⟨kq,x32_6,rfl,HA,HJ6,HO_3,HB⟩:=hcut
   cases kq with
   | zero => exact absurd HA.out (by simp [tachographlaw11_SigbinGets.j0])
   | succ kj6 =>
    have H:=HA.out
    clear HA
    simp only [tachographlaw11_SigbinGets.j0] at H
    by_cases c19 : x32_6 = true
    ·subst c19
     have H1 : (some false) = some r:=by rw [if_pos rfl] at H;exact H
     clear H
     have H:=H1
     clear H1
     obtain rfl:=Option.some.inj H
     go_wp2
     go_ret
     exact ⟨by first | rfl | (simp [errW_none,errW_some] <;> rfl) | (simp [*,errW_none,errW_some] <;> rfl),by repeat (first | (with_reducible first | exact HB.out | apply below_alloc | apply pw_below_drewN | apply below_drew1) | exact HB.out)⟩
    ·replace c19:=Bool.eq_false_iff.mpr c19
     subst c19
     have H1 : ((sigbin_Put.f kj6 t243).bind fun bt252 => ((tachographlaw11_fixed.f kj6).bind fun t256 => (if t256 = true then (if t244 = 0 then (if bt252.2 = 0 then (some ((strOfNums bt252.1).toList == (strOfNums l0).toList)) else (some false)) else (some true)) else (some false)))) = some r:=by rw [if_neg (show ¬ (false = true) by decide)] at H;exact H
     clear H
     have H:=H1
     clear H1
     replace H:=Option.bind_eq_some_iff.mp H
     obtain ⟨⟨t252,t253⟩,A200,H⟩:=H
     replace H : ((tachographlaw11_fixed.f kj6).bind fun t256 => (if t256 = true then (if t244 = 0 then (if t253 = 0 then (some ((strOfNums t252).toList == (strOfNums l0).toList)) else (some false)) else (some true)) else (some false))) = some r:=H
     have A20:=Aside0.mk A200
     clear A200
     replace H:=Option.bind_eq_some_iff.mp H
     obtain ⟨t256,A210,H⟩:=H
     replace H : (if t256 = true then (if t244 = 0 then (if t253 = 0 then (some ((strOfNums t252).toList == (strOfNums l0).toList)) else (some false)) else (some true)) else (some false)) = some r:=H
     have A21:=Aside0.mk A210
     clear A210
     by_cases c22 : t256 = true
     ·subst c22
      have H1 : (if t244 = 0 then (if t253 = 0 then (some ((strOfNums t252).toList == (strOfNums l0).toList)) else (some false)) else (some true)) = some r:=by rw [if_pos rfl] at H;exact H
      clear H
      have H:=H1
      clear H1
      by_cases c23 : t244 = 0
      ·rw [if_pos c23] at H
       have c23b0 : (t244 == 0) = true:=beq_iff_eq.mpr c23
       have c23b1 : (t244 != 0) = false:=bne_eq_false_iff_eq.mpr c23
       clear c23
       by_cases c24 : t253 = 0
       ·rw [if_pos c24] at H
        have c24b0 : (t253 == 0) = true:=beq_iff_eq.mpr c24
        have c24b1 : (t253 != 0) = false:=bne_eq_false_iff_eq.mpr c24
        clear c24
        obtain rfl:=Option.some.inj H
        obtain ⟨Ao25,co25,eo25⟩:=Kd.S_slice HO_3.out
        subst eo25
        go_wp2_with (first | ((with_reducible refine gate_callee (f:=44) rfl ?_);refine goesL_ (some 35) rfl rfl Try.func44 (by kernel_rfl) rfl #[.slice Ao25 t243.length co25] rfl (by (try simp only [List.map_toArray,List.map_cons,List.map_nil]);first | done | rfl | (simp only [List.length_drop,List.length_take];rfl)) ?_;(with_reducible refine (sigbin_Put.calls kj6 _ _ t243 t252 t253 _ ?side1 ?side2 A20.out).mono ?_);(case side1 => repeat (first | exact (Kd.S_reads' HO_3.out).2.2 | (with_reducible refine Kd.C_alloc ?_ _) | (with_reducible refine Kd.C_drewN ?_ _) | (with_reducible refine Kd.C_drew ?_)));(case side2 => exact (Kd.S_reads' HO_3.out).2.1);rintro e w26 ⟨v254,rfl,ho0,hb⟩;refine ⟨_,rfl,?_⟩;have n0_:=Aside0.mk (Kd.S_below (by (with_reducible repeat (first | apply Kd.S_alloc | apply Kd.S_drewN | apply Kd.S_drew));exact HO_3.out) hb);have n1_:=Aside0.mk (Kd.R_lower ho0 (below_size (by repeat (first | (with_reducible first | exact HB.out | apply below_alloc | apply pw_below_drewN | apply below_drew1) | exact HB.out))));have n2_:=Aside0.mk (below_step (by repeat (first | (with_reducible first | exact HB.out | apply below_alloc | apply pw_below_drewN | apply below_drew1) | exact HB.out)) hb);clear HO_3;clear HB;have HO_3:=n0_;have HO255:=n1_;have HB:=n2_;clear n0_ n1_ n2_;(try clear hb);(try clear hb2);(try clear hk);(try clear hi);(try clear ho0)) | ((with_reducible refine gate_callee (f:=40) rfl ?_);refine goesL_ (some 38) rfl rfl Try.func40 (by kernel_rfl) rfl #[] rfl (by (try simp only [List.map_toArray,List.map_cons,List.map_nil]);first | done | rfl | (simp only [List.length_drop,List.length_take];rfl)) ?_;(with_reducible refine (tachographlaw11_fixed.calls kj6  true _ A21.out).mono ?_);rintro e w27 ⟨rfl,hb⟩;refine ⟨_,rfl,?_⟩;have n0_:=Aside0.mk (Kd.S_below (by (with_reducible repeat (first | apply Kd.S_alloc | apply Kd.S_drewN | apply Kd.S_drew));exact HO_3.out) hb);have n1_:=Aside0.mk (Kd.R_below (by (with_reducible repeat (first | apply Kd.R_alloc | apply Kd.R_drewN | apply Kd.R_drew));exact HO255.out) hb);have n2_:=Aside0.mk (below_step (by repeat (first | (with_reducible first | exact HB.out | apply below_alloc | apply pw_below_drewN | apply below_drew1) | exact HB.out)) hb);clear HO_3;clear HO255;clear HB;have HO_3:=n0_;have HO255:=n1_;have HB:=n2_;clear n0_ n1_ n2_;(try clear hb);(try clear hb2);(try clear hk);(try clear hi);have hcv28:=own_string (P:=Try.prog) Try.underlying71 Try.underlying5 Try.underlying9 (Kd.own_of_R HO255.out);have hcv29:=Kd.C_string (P:=Try.prog) (A:=A0) (c:=c0) Try.underlying71 Try.underlying5 Try.underlying9 (Kd.C_below HR0.out HB.out);have hcv31:=fun m_ : Nat => Kd.C_string (P:=Try.prog) (A:=A0) (c:=c0) Try.underlying71 Try.underlying5 Try.underlying9 (Kd.C_drewN (Kd.C_below HR0.out HB.out) m_)))
        go_ret
        exact ⟨by first | rfl | (simp [errW_none,errW_some] <;> rfl) | (simp [*,errW_none,errW_some] <;> rfl),by repeat (first | (with_reducible first | exact HB.out | apply below_alloc | apply pw_below_drewN | apply below_drew1) | exact HB.out)⟩
       ·rw [if_neg c24] at H
        have c24b0 : (t253 == 0) = false:=beq_eq_false_iff_ne.mpr c24
        have c24b1 : (t253 != 0) = true:=bne_iff_ne.mpr c24
        obtain rfl:=Option.some.inj H
        obtain ⟨Ao32,co32,eo32⟩:=Kd.S_slice HO_3.out
        subst eo32
        go_wp2_with (first | ((with_reducible refine gate_callee (f:=44) rfl ?_);refine goesL_ (some 35) rfl rfl Try.func44 (by kernel_rfl) rfl #[.slice Ao32 t243.length co32] rfl (by (try simp only [List.map_toArray,List.map_cons,List.map_nil]);first | done | rfl | (simp only [List.length_drop,List.length_take];rfl)) ?_;(with_reducible refine (sigbin_Put.calls kj6 _ _ t243 t252 t253 _ ?side1 ?side2 A20.out).mono ?_);(case side1 => repeat (first | exact (Kd.S_reads' HO_3.out).2.2 | (with_reducible refine Kd.C_alloc ?_ _) | (with_reducible refine Kd.C_drewN ?_ _) | (with_reducible refine Kd.C_drew ?_)));(case side2 => exact (Kd.S_reads' HO_3.out).2.1);rintro e w33 ⟨v254,rfl,ho0,hb⟩;refine ⟨_,rfl,?_⟩;have n0_:=Aside0.mk (Kd.S_below (by (with_reducible repeat (first | apply Kd.S_alloc | apply Kd.S_drewN | apply Kd.S_drew));exact HO_3.out) hb);have n1_:=Aside0.mk (Kd.R_lower ho0 (below_size (by repeat (first | (with_reducible first | exact HB.out | apply below_alloc | apply pw_below_drewN | apply below_drew1) | exact HB.out))));have n2_:=Aside0.mk (below_step (by repeat (first | (with_reducible first | exact HB.out | apply below_alloc | apply pw_below_drewN | apply below_drew1) | exact HB.out)) hb);clear HO_3;clear HB;have HO_3:=n0_;have HO255:=n1_;have HB:=n2_;clear n0_ n1_ n2_;(try clear hb);(try clear hb2);(try clear hk);(try clear hi);(try clear ho0)) | ((with_reducible refine gate_callee (f:=40) rfl ?_);refine goesL_ (some 38) rfl rfl Try.func40 (by kernel_rfl) rfl #[] rfl (by (try simp only [List.map_toArray,List.map_cons,List.map_nil]);first | done | rfl | (simp only [List.length_drop,List.length_take];rfl)) ?_;(with_reducible refine (tachographlaw11_fixed.calls kj6  true _ A21.out).mono ?_);rintro e w34 ⟨rfl,hb⟩;refine ⟨_,rfl,?_⟩;have n0_:=Aside0.mk (Kd.S_below (by (with_reducible repeat (first | apply Kd.S_alloc | apply Kd.S_drewN | apply Kd.S_drew));exact HO_3.out) hb);have n1_:=Aside0.mk (Kd.R_below (by (with_reducible repeat (first | apply Kd.R_alloc | apply Kd.R_drewN | apply Kd.R_drew));exact HO255.out) hb);have n2_:=Aside0.mk (below_step (by repeat (first | (with_reducible first | exact HB.out | apply below_alloc | apply pw_below_drewN | apply below_drew1) | exact HB.out)) hb);clear HO_3;clear HO255;clear HB;have HO_3:=n0_;have HO255:=n1_;have HB:=n2_;clear n0_ n1_ n2_;(try clear hb);(try clear hb2);(try clear hk);(try clear hi)))
        go_ret
        exact ⟨by first | rfl | (simp [errW_none,errW_some] <;> rfl) | (simp [*,errW_none,errW_some] <;> rfl),by repeat (first | (with_reducible first | exact HB.out | apply below_alloc | apply pw_below_drewN | apply below_drew1) | exact HB.out)⟩
      ·rw [if_neg c23] at H
       have c23b0 : (t244 == 0) = false:=beq_eq_false_iff_ne.mpr c23
       have c23b1 : (t244 != 0) = true:=bne_iff_ne.mpr c23
       obtain rfl:=Option.some.inj H
       obtain ⟨Ao35,co35,eo35⟩:=Kd.S_slice HO_3.out
       subst eo35
       go_wp2_with (first | ((with_reducible refine gate_callee (f:=44) rfl ?_);refine goesL_ (some 35) rfl rfl Try.func44 (by kernel_rfl) rfl #[.slice Ao35 t243.length co35] rfl (by (try simp only [List.map_toArray,List.map_cons,List.map_nil]);first | done | rfl | (simp only [List.length_drop,List.length_take];rfl)) ?_;(with_reducible refine (sigbin_Put.calls kj6 _ _ t243 t252 t253 _ ?side1 ?side2 A20.out).mono ?_);(case side1 => repeat (first | exact (Kd.S_reads' HO_3.out).2.2 | (with_reducible refine Kd.C_alloc ?_ _) | (with_reducible refine Kd.C_drewN ?_ _) | (with_reducible refine Kd.C_drew ?_)));(case side2 => exact (Kd.S_reads' HO_3.out).2.1);rintro e w36 ⟨v254,rfl,ho0,hb⟩;refine ⟨_,rfl,?_⟩;have n0_:=Aside0.mk (Kd.S_below (by (with_reducible repeat (first | apply Kd.S_alloc | apply Kd.S_drewN | apply Kd.S_drew));exact HO_3.out) hb);have n1_:=Aside0.mk (Kd.R_lower ho0 (below_size (by repeat (first | (with_reducible first | exact HB.out | apply below_alloc | apply pw_below_drewN | apply below_drew1) | exact HB.out))));have n2_:=Aside0.mk (below_step (by repeat (first | (with_reducible first | exact HB.out | apply below_alloc | apply pw_below_drewN | apply below_drew1) | exact HB.out)) hb);clear HO_3;clear HB;have HO_3:=n0_;have HO255:=n1_;have HB:=n2_;clear n0_ n1_ n2_;(try clear hb);(try clear hb2);(try clear hk);(try clear hi);(try clear ho0)) | ((with_reducible refine gate_callee (f:=40) rfl ?_);refine goesL_ (some 38) rfl rfl Try.func40 (by kernel_rfl) rfl #[] rfl (by (try simp only [List.map_toArray,List.map_cons,List.map_nil]);first | done | rfl | (simp only [List.length_drop,List.length_take];rfl)) ?_;(with_reducible refine (tachographlaw11_fixed.calls kj6  true _ A21.out).mono ?_);rintro e w37 ⟨rfl,hb⟩;refine ⟨_,rfl,?_⟩;have n0_:=Aside0.mk (Kd.S_below (by (with_reducible repeat (first | apply Kd.S_alloc | apply Kd.S_drewN | apply Kd.S_drew));exact HO_3.out) hb);have n1_:=Aside0.mk (Kd.R_below (by (with_reducible repeat (first | apply Kd.R_alloc | apply Kd.R_drewN | apply Kd.R_drew));exact HO255.out) hb);have n2_:=Aside0.mk (below_step (by repeat (first | (with_reducible first | exact HB.out | apply below_alloc | apply pw_below_drewN | apply below_drew1) | exact HB.out)) hb);clear HO_3;clear HO255;clear HB;have HO_3:=n0_;have HO255:=n1_;have HB:=n2_;clear n0_ n1_ n2_;(try clear hb);(try clear hb2);(try clear hk);(try clear hi)))
       go_ret
       exact ⟨by first | rfl | (simp [errW_none,errW_some] <;> rfl) | (simp [*,errW_none,errW_some] <;> rfl),by repeat (first | (with_reducible first | exact HB.out | apply below_alloc | apply pw_below_drewN | apply below_drew1) | exact HB.out)⟩
     ·replace c22:=Bool.eq_false_iff.mpr c22
      subst c22
      have H1 : (some false) = some r:=by rw [if_neg (show ¬ (false = true) by decide)] at H;exact H
      clear H
      have H:=H1
      clear H1
      obtain rfl:=Option.some.inj H
      obtain ⟨Ao38,co38,eo38⟩:=Kd.S_slice HO_3.out
      subst eo38
      go_wp2_with (first | ((with_reducible refine gate_callee (f:=44) rfl ?_);refine goesL_ (some 35) rfl rfl Try.func44 (by kernel_rfl) rfl #[.slice Ao38 t243.length co38] rfl (by (try simp only [List.map_toArray,List.map_cons,List.map_nil]);first | done | rfl | (simp only [List.length_drop,List.length_take];rfl)) ?_;(with_reducible refine (sigbin_Put.calls kj6 _ _ t243 t252 t253 _ ?side1 ?side2 A20.out).mono ?_);(case side1 => repeat (first | exact (Kd.S_reads' HO_3.out).2.2 | (with_reducible refine Kd.C_alloc ?_ _) | (with_reducible refine Kd.C_drewN ?_ _) | (with_reducible refine Kd.C_drew ?_)));(case side2 => exact (Kd.S_reads' HO_3.out).2.1);rintro e w39 ⟨v254,rfl,ho0,hb⟩;refine ⟨_,rfl,?_⟩;have n0_:=Aside0.mk (Kd.S_below (by (with_reducible repeat (first | apply Kd.S_alloc | apply Kd.S_drewN | apply Kd.S_drew));exact HO_3.out) hb);have n1_:=Aside0.mk (Kd.R_lower ho0 (below_size (by repeat (first | (with_reducible first | exact HB.out | apply below_alloc | apply pw_below_drewN | apply below_drew1) | exact HB.out))));have n2_:=Aside0.mk (below_step (by repeat (first | (with_reducible first | exact HB.out | apply below_alloc | apply pw_below_drewN | apply below_drew1) | exact HB.out)) hb);clear HO_3;clear HB;have HO_3:=n0_;have HO255:=n1_;have HB:=n2_;clear n0_ n1_ n2_;(try clear hb);(try clear hb2);(try clear hk);(try clear hi);(try clear ho0)) | ((with_reducible refine gate_callee (f:=40) rfl ?_);refine goesL_ (some 38) rfl rfl Try.func40 (by kernel_rfl) rfl #[] rfl (by (try simp only [List.map_toArray,List.map_cons,List.map_nil]);first | done | rfl | (simp only [List.length_drop,List.length_take];rfl)) ?_;(with_reducible refine (tachographlaw11_fixed.calls kj6  false _ A21.out).mono ?_);rintro e w40 ⟨rfl,hb⟩;refine ⟨_,rfl,?_⟩;have n0_:=Aside0.mk (Kd.S_below (by (with_reducible repeat (first | apply Kd.S_alloc | apply Kd.S_drewN | apply Kd.S_drew));exact HO_3.out) hb);have n1_:=Aside0.mk (Kd.R_below (by (with_reducible repeat (first | apply Kd.R_alloc | apply Kd.R_drewN | apply Kd.R_drew));exact HO255.out) hb);have n2_:=Aside0.mk (below_step (by repeat (first | (with_reducible first | exact HB.out | apply below_alloc | apply pw_below_drewN | apply below_drew1) | exact HB.out)) hb);clear HO_3;clear HO255;clear HB;have HO_3:=n0_;have HO255:=n1_;have HB:=n2_;clear n0_ n1_ n2_;(try clear hb);(try clear hb2);(try clear hk);(try clear hi)))
      go_ret
      exact ⟨by first | rfl | (simp [errW_none,errW_some] <;> rfl) | (simp [*,errW_none,errW_some] <;> rfl),by repeat (first | (with_reducible first | exact HB.out | apply below_alloc | apply pw_below_drewN | apply below_drew1) | exact HB.out)⟩

/-- THE ONE PURE STATEMENT of tachographlaw11_SigbinGets: yours. -/
def tachographlaw11_SigbinGets.Pure : Prop:=∀ (l0 : List Int),l0.length ≤ maxLen → l0.length * 1 ≤ 140737488351232 → (∀ x ∈ l0,(Lit.int .u8 x).wf = true) → ∃ k,tachographlaw11_SigbinGets.f k l0 = some true
theorem tachographlaw11_SigbinGets.walk (P : tachographlaw11_SigbinGets.Pure) (a0 : Option Addr) (len0 cap0 : Nat) (z0 : List Int) (w : World) (w0 : (a0 = none ∧ len0 = 0 ∧ cap0 = 0 ∧ z0 = []) ∨ ∃ x,a0 = some x ∧ len0 ≤ cap0 ∧ cap0 ≤ maxLen ∧ z0.length = cap0 ∧ (∀ i,i < z0.length → w.cell? (x.add i) = some (.int .u8 (z0.getD i 0))) ∧ ∀ n ∈ z0,(Lit.int .u8 n).wf = true) (y0 : len0 * 1 ≤ 140737488351232) :
  Calls Try.prog 8 #[.slice a0 len0 cap0] w fun e w' => e = .returned (.bool true) ∧ Below w.heap.size w w':=by
 obtain ⟨l0,rfl,hr0,hm0,hw0,hc0⟩:=ReadsInt.ofRowC w0
 obtain ⟨k,h⟩:=P l0 hm0 y0 hw0
 refine (tachographlaw11_SigbinGets.calls k _ _ l0 true w (Kd.C_of_reads (d:=(0 : Int)) (h1:=fun _ => rfl) hr0) hc0 h).mono ?_
 rintro e w' ⟨rfl,hd⟩
 exact ⟨rfl,hd⟩

end Go.Proofs.Ytjfklfmfeghjnab.PG
