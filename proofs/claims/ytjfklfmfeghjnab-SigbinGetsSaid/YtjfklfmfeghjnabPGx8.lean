-- Contracts of Go functions, each with its plain Lean function: written by wip/tools/myprint.py of this work (the kit's print, with contracts proved by hand spliced in).
import Derived.Test.YtjfklfmfeghjnabPGx0
import Derived.Test.YtjfklfmfeghjnabPGx6
import Derived.Test.YtjfklfmfeghjnabPGx7
namespace Go.Proofs.Ytjfklfmfeghjnab.PG
open Go.RowKit Go.Proofs.YtjfklfmfeghjnabW.PrintWords Go.Proofs.YtjfklfmfeghjnabW.PrintLast Go.Proofs.YtjfklfmfeghjnabW.PrintMore
attribute [local go_sem] max2_int min2_int max_two min_two max_three min_three max_four min_four   -- for this text's walks alone
set_option linter.unusedVariables false
set_option linter.unusedSimpArgs false

/-! ### tachographref09_Check: function 58 -/
mutual
def tachographref09_Check.l0 : Nat → List (S106) → Int → Option (Int)
 | 0, _, _ => none
 | k + 1, x0, x3 => if x3 < (x0.length : Int) then (if 0 ≤ x3 then ((tachographref09_Name.f k ((rd_T106 x0 x3).f0)).bind fun t198 => (if t198 = true then ((tachographref09_Find.f k x0 ((rd_T106 x0 x3).f0)).bind fun t200 => (tachographref09_Check.j1 k x0 x3 (decide (t200 < x3)))) else (tachographref09_Check.j1 k x0 x3 true))) else (none)) else (some 0)
def tachographref09_Check.j1 : Nat → List (S106) → Int → Bool → Option (Int)
 | 0, _, _, _ => none
 | k + 1, x0, x3, x31 => if x31 = true then (some 9) else (if 0 ≤ x3 then (if x3 < (x0.length : Int) then (if (((rd_T106 x0 x3).f1).length : Int) > 8 then (some 6) else (tachographref09_Check.l1 k x0 x3 0)) else (none)) else (none))
def tachographref09_Check.l1 : Nat → List (S106) → Int → Int → Option (Int)
 | 0, _, _, _ => none
 | k + 1, x0, x3, x4 => if 0 ≤ x3 then (if x3 < (x0.length : Int) then (if x4 < (((rd_T106 x0 x3).f1).length : Int) then (if 0 ≤ x4 then (if (rd ((rd_T106 x0 x3).f1) x4) < 1 then (some 7) else (if (rd ((rd_T106 x0 x3).f1) x4) > 2 then (some 7) else (tachographref09_Check.l1 k x0 x3 (wrap64 (x4 + 1))))) else (none)) else (tachographref09_Check.l0 k x0 (wrap64 (x3 + 1)))) else (none)) else (none)
end
def tachographref09_Check.f (k : Nat) (l0 : List (S106)) : Option (Int) := if (l0.length : Int) > 64 then (some 6) else (tachographref09_Check.l0 k l0 0)
theorem tachographref09_Check.mono_l : ∀ k, (∀ y0 y1, LeO (tachographref09_Check.l0 k y0 y1) (tachographref09_Check.l0 (k + 1) y0 y1)) ∧ (∀ y0 y1 y2, LeO (tachographref09_Check.j1 k y0 y1 y2) (tachographref09_Check.j1 (k + 1) y0 y1 y2)) ∧ (∀ y0 y1 y2, LeO (tachographref09_Check.l1 k y0 y1 y2) (tachographref09_Check.l1 (k + 1) y0 y1 y2))
 | 0 => ⟨fun _ _ r h => by simp [tachographref09_Check.l0] at h, fun _ _ _ r h => by simp [tachographref09_Check.j1] at h, fun _ _ _ r h => by simp [tachographref09_Check.l1] at h⟩
 | k + 1 => by
  obtain ⟨ih0, ih1, ih2⟩ := tachographref09_Check.mono_l k
  refine ⟨?_, ?_, ?_⟩
  ·intro y0 y1
   unfold tachographref09_Check.l0
   repeat' first
   | (with_reducible exact ih0 _ _)
   | (with_reducible exact ih1 _ _ _)
   | (with_reducible exact ih2 _ _ _)
   | (with_reducible exact tachographref09_Find.mono _ _ _)
   | (with_reducible exact tachographref09_Name.mono _ _)
   | (with_reducible exact LeO.refl _)
   | (with_reducible exact LeO.none _)
   | (with_reducible refine LeO.ite ?_ ?_)
   | (with_reducible refine LeO.bind ?_ (fun _ => ?_))
   | exact ih0 _ _
   | exact ih1 _ _ _
   | exact ih2 _ _ _
   | exact tachographref09_Find.mono _ _ _
   | exact tachographref09_Name.mono _ _
   | exact LeO.none _
   | refine LeO.ite ?_ ?_
   | refine LeO.bind ?_ (fun _ => ?_)
  ·intro y0 y1 y2
   unfold tachographref09_Check.j1
   repeat' first
   | (with_reducible exact ih0 _ _)
   | (with_reducible exact ih1 _ _ _)
   | (with_reducible exact ih2 _ _ _)
   | (with_reducible exact tachographref09_Find.mono _ _ _)
   | (with_reducible exact tachographref09_Name.mono _ _)
   | (with_reducible exact LeO.refl _)
   | (with_reducible exact LeO.none _)
   | (with_reducible refine LeO.ite ?_ ?_)
   | (with_reducible refine LeO.bind ?_ (fun _ => ?_))
   | exact ih0 _ _
   | exact ih1 _ _ _
   | exact ih2 _ _ _
   | exact tachographref09_Find.mono _ _ _
   | exact tachographref09_Name.mono _ _
   | exact LeO.none _
   | refine LeO.ite ?_ ?_
   | refine LeO.bind ?_ (fun _ => ?_)
  ·intro y0 y1 y2
   unfold tachographref09_Check.l1
   repeat' first
   | (with_reducible exact ih0 _ _)
   | (with_reducible exact ih1 _ _ _)
   | (with_reducible exact ih2 _ _ _)
   | (with_reducible exact tachographref09_Find.mono _ _ _)
   | (with_reducible exact tachographref09_Name.mono _ _)
   | (with_reducible exact LeO.refl _)
   | (with_reducible exact LeO.none _)
   | (with_reducible refine LeO.ite ?_ ?_)
   | (with_reducible refine LeO.bind ?_ (fun _ => ?_))
   | exact ih0 _ _
   | exact ih1 _ _ _
   | exact ih2 _ _ _
   | exact tachographref09_Find.mono _ _ _
   | exact tachographref09_Name.mono _ _
   | exact LeO.none _
   | refine LeO.ite ?_ ?_
   | refine LeO.bind ?_ (fun _ => ?_)
theorem tachographref09_Check.mono : ∀ a0 k, LeO (tachographref09_Check.f k a0) (tachographref09_Check.f (k + 1) a0) := by
 intro a0 k
 obtain ⟨ih0, ih1, ih2⟩ := tachographref09_Check.mono_l k
 unfold tachographref09_Check.f
 repeat' first
   | (with_reducible exact ih0 _ _)
   | (with_reducible exact ih1 _ _ _)
   | (with_reducible exact ih2 _ _ _)
   | (with_reducible exact tachographref09_Find.mono _ _ _)
   | (with_reducible exact tachographref09_Name.mono _ _)
   | (with_reducible exact LeO.refl _)
   | (with_reducible exact LeO.none _)
   | (with_reducible refine LeO.ite ?_ ?_)
   | (with_reducible refine LeO.bind ?_ (fun _ => ?_))
   | exact ih0 _ _
   | exact ih1 _ _ _
   | exact ih2 _ _ _
   | exact tachographref09_Find.mono _ _ _
   | exact tachographref09_Name.mono _ _
   | exact LeO.none _
   | refine LeO.ite ?_ ?_
   | refine LeO.bind ?_ (fun _ => ?_)
set_option maxHeartbeats 8000000 in
set_option maxRecDepth 100000 in
theorem tachographref09_Check.calls (k : Nat) (A0 : Option Addr) (c0 : Nat) (l0 : List (S106)) (r : Int) (w : World) (hr0 : Kd.C k106 w A0 l0.length l0) (hc0 : l0.length ≤ c0) (h : tachographref09_Check.f k l0 = some r) :
  Calls Try.prog 58 #[.slice A0 l0.length c0] w fun e w' => e = .returned (.int .i64 r) ∧ Drawn0 w w':=by
 have HR0:=Aside0.mk hr0
 have HC0:=Aside0.mk hc0
 clear hr0 hc0
 have H : (if (l0.length : Int) > 64 then (some 6) else (tachographref09_Check.l0 k l0 0)) = some r:=h
 clear h
 by_cases c2 : (l0.length : Int) > 64
 ·rw [if_pos c2] at H
  have c2b0 : decide (64 < (l0.length : Int)) = true:=decide_eq_true c2
  have c2b1 : decide (64 < l0.length) = true:=decide_eq_true (by omega)
  clear c2
  obtain rfl:=Option.some.inj H
  go_enter Try.func58,Try.ntmps58
  go_wp2
  go_ret
  exact ⟨by first | rfl | (simp;done) | (simp [*];done),by repeat (first | exact Drawn0.refl _ | apply Drawn0.step)⟩
 ·rw [if_neg c2] at H
  have c2b0 : decide (64 < (l0.length : Int)) = false:=decide_eq_false c2
  have c2b1 : decide (64 < l0.length) = false:=decide_eq_false (by omega)
  clear c2
  have H':=Aside0.mk H
  clear H
  go_enter Try.func58,Try.ntmps58
  go_wp2
  go_loopg [3] k (fun kq v3 w' => ∃ (x3_1 : Int),v3 = .int .i64 x3_1 ∧ Aside0 (tachographref09_Check.l0 kq l0 x3_1 = some r) ∧ Aside0 (kq ≤ k) ∧ Drawn0 w w')
  case atStart => exact ⟨(0),(by first | rfl | (simp;done) | (simp [*];done)),H',⟨Nat.le_refl _⟩,by repeat (first | exact Drawn0.refl _ | apply Drawn0.step)⟩
  case round =>
   clear H'
   try clear c2
   try clear c2b0
   try clear c2b1
   try clear p2
   obtain ⟨x3_1,rfl,HA,HK1,⟨m1,rfl⟩⟩:=hrel
   cases gk with
   | zero => exact absurd HA.out (by simp [tachographref09_Check.l0])
   | succ k1 =>
    have H:=HA.out
    clear HA
    simp only [tachographref09_Check.l0] at H
    by_cases c3 : x3_1 < (l0.length : Int)
    ·rw [if_pos c3] at H
     have c3b0 : decide (x3_1 < (l0.length : Int)) = true:=decide_eq_true c3
     clear c3
     have HC4:=Aside0.mk H
     clear H
     go_upto_region 6 with (fail)
     go_cut [31] (fun v31 wc => ∃ (kq : Nat) (x31_3 : Bool),v31 = .bool x31_3 ∧ Aside0 (tachographref09_Check.j1 kq l0 x3_1 x31_3 = some r) ∧ Aside0 (kq ≤ k1) ∧ Drawn0 w wc)
     case first =>
      have H:=HC4.out
      clear HC4
      by_cases c5 : 0 ≤ x3_1
      ·rw [if_pos c5] at H
       have c5b0 : decide (0 ≤ x3_1) = true:=decide_eq_true c5
       clear c5
       (first | rw [c5b0] | (simp only [i64_w,i32_w];rw [c5b0]) | skip)
       replace H:=Option.bind_eq_some_iff.mp H
       obtain ⟨t198,A60,H⟩:=H
       replace H : (if t198 = true then ((tachographref09_Find.f k1 l0 ((rd_T106 l0 x3_1).f0)).bind fun t200 => (tachographref09_Check.j1 k1 l0 x3_1 (decide (t200 < x3_1)))) else (tachographref09_Check.j1 k1 l0 x3_1 true)) = some r:=H
       have A6:=Aside0.mk A60
       clear A60
       by_cases c7 : t198 = true
       ·subst c7
        have H1 : ((tachographref09_Find.f k1 l0 ((rd_T106 l0 x3_1).f0)).bind fun t200 => (tachographref09_Check.j1 k1 l0 x3_1 (decide (t200 < x3_1)))) = some r:=by rw [if_pos rfl] at H;exact H
        clear H
        have H:=H1
        clear H1
        replace H:=Option.bind_eq_some_iff.mp H
        obtain ⟨t200,A80,H⟩:=H
        replace H : (tachographref09_Check.j1 k1 l0 x3_1 (decide (t200 < x3_1))) = some r:=H
        have A8:=Aside0.mk A80
        clear A80
        have H':=Aside0.mk H
        clear H
        have p197 : 0 ≤ (x3_1 : Int):=of_decide_eq_true (by first | (with_reducible assumption) | assumption)
        have q197 : x3_1 < (l0.length : Int):=of_decide_eq_true (by first | (with_reducible assumption) | assumption)
        obtain ⟨ad197,A197_1,c197_1,e197,hx197_0,hx197_1,hl197_1,hi197_1⟩:=at_T106 HR0.out x3_1 p197 q197
        cases e197
        have HR197_1:=Aside0.mk hi197_1
        have HC197_1:=Aside0.mk hl197_1
        clear hi197_1 hl197_1
        replace p197:=eq_true p197
        replace q197:=eq_true q197
        go_wp2_with (first | ((with_reducible refine gate_callee (f:=89) rfl ?_);refine goesL_ (some 19) rfl rfl Try.func89 (by kernel_rfl) rfl #[.string ((rd_T106 l0 x3_1).f0)] rfl (by (try simp only [List.map_toArray,List.map_cons,List.map_nil]);first | done | rfl | (simp only [List.length_drop,List.length_take];rfl)) ?_;(with_reducible refine (tachographref09_Name.calls k1 ((rd_T106 l0 x3_1).f0) true _ A6.out).mono ?_);rintro e w' ⟨rfl,⟨nd,rfl⟩⟩;refine ⟨_,rfl,?_⟩;have p199 : 0 ≤ (x3_1 : Int):=of_decide_eq_true (by first | (with_reducible assumption) | assumption);have q199 : x3_1 < (l0.length : Int):=of_decide_eq_true (by first | (with_reducible assumption) | assumption);obtain ⟨ad199,A199_1,c199_1,e199,hx199_0,hx199_1,hl199_1,hi199_1⟩:=at_T106 HR0.out x3_1 p199 q199;obtain rfl : ad197 = ad199:=(by injection e199);have HR199_1:=Aside0.mk hi199_1;have HC199_1:=Aside0.mk hl199_1;clear hi199_1 hl199_1;replace p199:=eq_true p199;replace q199:=eq_true q199;have ea_:=Option.some.inj (hx197_1.symm.trans hx199_1);injection ea_ with ea_ en_ ec_;subst ea_;subst ec_;clear en_) | (go_at_call 90;(with_reducible refine (tachographref09_Find.calls k1 _ _ l0 ((rd_T106 l0 x3_1).f0) t200 _ ?side1 ?side2 A8.out).mono ?_);(case side1 => repeat (first | exact HR0.out | (with_reducible refine Kd.C_alloc ?_ _) | (with_reducible refine Kd.C_drewN ?_ _) | (with_reducible refine Kd.C_drew ?_)));(case side2 => exact HC0.out);rintro e w' ⟨rfl,⟨nd,rfl⟩⟩))
        go_meet
        case rel => exact ⟨_,(decide (t200 < x3_1)),(by first | rfl | (simp;done) | (simp [*];done)),H',⟨by have:=HK1.out;first | omega | exact Nat.le_refl _⟩,by repeat (first | exact Drawn0.refl _ | apply Drawn0.step)⟩
       ·replace c7:=Bool.eq_false_iff.mpr c7
        subst c7
        have H1 : (tachographref09_Check.j1 k1 l0 x3_1 true) = some r:=by rw [if_neg (show ¬ (false = true) by decide)] at H;exact H
        clear H
        have H:=H1
        clear H1
        have H':=Aside0.mk H
        clear H
        have p197 : 0 ≤ (x3_1 : Int):=of_decide_eq_true (by first | (with_reducible assumption) | assumption)
        have q197 : x3_1 < (l0.length : Int):=of_decide_eq_true (by first | (with_reducible assumption) | assumption)
        obtain ⟨ad197,A197_1,c197_1,e197,hx197_0,hx197_1,hl197_1,hi197_1⟩:=at_T106 HR0.out x3_1 p197 q197
        cases e197
        have HR197_1:=Aside0.mk hi197_1
        have HC197_1:=Aside0.mk hl197_1
        clear hi197_1 hl197_1
        replace p197:=eq_true p197
        replace q197:=eq_true q197
        go_wp2_with (first | ((with_reducible refine gate_callee (f:=89) rfl ?_);refine goesL_ (some 19) rfl rfl Try.func89 (by kernel_rfl) rfl #[.string ((rd_T106 l0 x3_1).f0)] rfl (by (try simp only [List.map_toArray,List.map_cons,List.map_nil]);first | done | rfl | (simp only [List.length_drop,List.length_take];rfl)) ?_;(with_reducible refine (tachographref09_Name.calls k1 ((rd_T106 l0 x3_1).f0) false _ A6.out).mono ?_);rintro e w' ⟨rfl,⟨nd,rfl⟩⟩;refine ⟨_,rfl,?_⟩))
        go_meet
        case rel => exact ⟨_,(true),(by first | rfl | (simp;done) | (simp [*];done)),H',⟨by have:=HK1.out;first | omega | exact Nat.le_refl _⟩,by repeat (first | exact Drawn0.refl _ | apply Drawn0.step)⟩
      ·rw [if_neg c5] at H
       exact absurd H (by simp)
     case rest =>
      clear HC4
      try clear c1
      try clear p1
      try clear q1
      try clear hx1
      try clear c2
      try clear c2b0
      try clear c2b1
      try clear p2
      try clear c3
      try clear c3b0
      try clear c5
      try clear c5b0
      try clear c7
      try clear c8
      try clear hx197_0
      try clear hx197_1
      try clear hx199_0
      try clear hx199_1
      try clear p197
      try clear p199
      try clear p2
      try clear q197
      try clear q199
      obtain ⟨kq,x31_3,rfl,HA,HJ3,⟨mc3,rfl⟩⟩:=hcut
      cases kq with
      | zero => exact absurd HA.out (by simp [tachographref09_Check.j1])
      | succ kj3 =>
       have H:=HA.out
       clear HA
       simp only [tachographref09_Check.j1] at H
       by_cases c9 : x31_3 = true
       ·subst c9
        have H1 : (some 9) = some r:=by rw [if_pos rfl] at H;exact H
        clear H
        have H:=H1
        clear H1
        obtain rfl:=Option.some.inj H
        go_wp2
        go_ret
        exact ⟨by first | rfl | (simp;done) | (simp [*];done),by repeat (first | exact Drawn0.refl _ | apply Drawn0.step)⟩
       ·replace c9:=Bool.eq_false_iff.mpr c9
        subst c9
        have H1 : (if 0 ≤ x3_1 then (if x3_1 < (l0.length : Int) then (if (((rd_T106 l0 x3_1).f1).length : Int) > 8 then (some 6) else (tachographref09_Check.l1 kj3 l0 x3_1 0)) else (none)) else (none)) = some r:=by rw [if_neg (show ¬ (false = true) by decide)] at H;exact H
        clear H
        have H:=H1
        clear H1
        by_cases c10 : 0 ≤ x3_1
        ·rw [if_pos c10] at H
         have c10b0 : decide (0 ≤ x3_1) = true:=decide_eq_true c10
         clear c10
         by_cases c11 : x3_1 < (l0.length : Int)
         ·rw [if_pos c11] at H
          have c11b0 : decide (x3_1 < (l0.length : Int)) = true:=decide_eq_true c11
          clear c11
          by_cases c12 : (((rd_T106 l0 x3_1).f1).length : Int) > 8
          ·rw [if_pos c12] at H
           have c12b0 : decide (8 < (((rd_T106 l0 x3_1).f1).length : Int)) = true:=decide_eq_true c12
           have c12b1 : decide (8 < ((rd_T106 l0 x3_1).f1).length) = true:=decide_eq_true (by omega)
           clear c12
           obtain rfl:=Option.some.inj H
           have p201 : 0 ≤ (x3_1 : Int):=of_decide_eq_true (by first | (with_reducible assumption) | assumption)
           have q201 : x3_1 < (l0.length : Int):=of_decide_eq_true (by first | (with_reducible assumption) | assumption)
           obtain ⟨ad201,A201_1,c201_1,e201,hx201_0,hx201_1,hl201_1,hi201_1⟩:=at_T106 HR0.out x3_1 p201 q201
           cases e201
           have HR201_1:=Aside0.mk hi201_1
           have HC201_1:=Aside0.mk hl201_1
           clear hi201_1 hl201_1
           replace p201:=eq_true p201
           replace q201:=eq_true q201
           go_wp2
           go_ret
           exact ⟨by first | rfl | (simp;done) | (simp [*];done),by repeat (first | exact Drawn0.refl _ | apply Drawn0.step)⟩
          ·rw [if_neg c12] at H
           have c12b0 : decide (8 < (((rd_T106 l0 x3_1).f1).length : Int)) = false:=decide_eq_false c12
           have c12b1 : decide (8 < ((rd_T106 l0 x3_1).f1).length) = false:=decide_eq_false (by omega)
           clear c12
           have H':=Aside0.mk H
           clear H
           have p201 : 0 ≤ (x3_1 : Int):=of_decide_eq_true (by first | (with_reducible assumption) | assumption)
           have q201 : x3_1 < (l0.length : Int):=of_decide_eq_true (by first | (with_reducible assumption) | assumption)
           obtain ⟨ad201,A201_1,c201_1,e201,hx201_0,hx201_1,hl201_1,hi201_1⟩:=at_T106 HR0.out x3_1 p201 q201
           cases e201
           have HR201_1:=Aside0.mk hi201_1
           have HC201_1:=Aside0.mk hl201_1
           clear hi201_1 hl201_1
           replace p201:=eq_true p201
           replace q201:=eq_true q201
           go_wp2
           go_loopg [4] kj3 (fun kq v4 w' => ∃ (x4_3 : Int),v4 = .int .i64 x4_3 ∧ Aside0 (tachographref09_Check.l1 kq l0 x3_1 x4_3 = some r) ∧ Aside0 (kq ≤ kj3) ∧ Drawn0 w w')
           case atStart => exact ⟨(0),(by first | rfl | (simp;done) | (simp [*];done)),H',⟨Nat.le_refl _⟩,by repeat (first | exact Drawn0.refl _ | apply Drawn0.step)⟩
           case round =>
            clear H'
            try clear c1
            try clear p1
            try clear q1
            try clear hx1
            try clear c2
            try clear c2b0
            try clear c2b1
            try clear p2
            try clear q2
            try clear hx2
            try clear c3
            try clear c3b0
            try clear c5
            try clear c5b0
            try clear c7
            try clear c8
            try clear c9
            try clear c10
            try clear c10b0
            try clear c11
            try clear c11b0
            try clear c12
            try clear c12b0
            try clear c12b1
            try clear hx197_0
            try clear hx197_1
            try clear hx199_0
            try clear hx199_1
            try clear hx201_0
            try clear hx201_1
            try clear p1
            try clear p197
            try clear p199
            try clear p2
            try clear p201
            try clear q1
            try clear q197
            try clear q199
            try clear q201
            obtain ⟨x4_3,rfl,HA,HK3,⟨m3,rfl⟩⟩:=hrel
            cases gk with
            | zero => exact absurd HA.out (by simp [tachographref09_Check.l1])
            | succ k3 =>
             have H:=HA.out
             clear HA
             simp only [tachographref09_Check.l1] at H
             by_cases c13 : 0 ≤ x3_1
             ·rw [if_pos c13] at H
              have c13b0 : decide (0 ≤ x3_1) = true:=decide_eq_true c13
              clear c13
              by_cases c14 : x3_1 < (l0.length : Int)
              ·rw [if_pos c14] at H
               have c14b0 : decide (x3_1 < (l0.length : Int)) = true:=decide_eq_true c14
               clear c14
               by_cases c15 : x4_3 < (((rd_T106 l0 x3_1).f1).length : Int)
               ·rw [if_pos c15] at H
                have c15b0 : decide (x4_3 < (((rd_T106 l0 x3_1).f1).length : Int)) = true:=decide_eq_true c15
                clear c15
                by_cases c16 : 0 ≤ x4_3
                ·rw [if_pos c16] at H
                 have c16b0 : decide (0 ≤ x4_3) = true:=decide_eq_true c16
                 clear c16
                 by_cases c17 : (rd ((rd_T106 l0 x3_1).f1) x4_3) < 1
                 ·rw [if_pos c17] at H
                  have c17b0 : decide ((rd ((rd_T106 l0 x3_1).f1) x4_3) < 1) = true:=decide_eq_true c17
                  clear c17
                  obtain rfl:=Option.some.inj H
                  have p202 : 0 ≤ (x3_1 : Int):=of_decide_eq_true (by first | (with_reducible assumption) | assumption)
                  have q202 : x3_1 < (l0.length : Int):=of_decide_eq_true (by first | (with_reducible assumption) | assumption)
                  obtain ⟨ad202,A202_1,c202_1,e202,hx202_0,hx202_1,hl202_1,hi202_1⟩:=at_T106 HR0.out x3_1 p202 q202
                  obtain rfl : ad201 = ad202:=(by injection e202)
                  have HR202_1:=Aside0.mk hi202_1
                  have HC202_1:=Aside0.mk hl202_1
                  clear hi202_1 hl202_1
                  replace p202:=eq_true p202
                  replace q202:=eq_true q202
                  have p203 : 0 ≤ (x3_1 : Int):=of_decide_eq_true (by first | (with_reducible assumption) | assumption)
                  have q203 : x3_1 < (l0.length : Int):=of_decide_eq_true (by first | (with_reducible assumption) | assumption)
                  obtain ⟨ad203,A203_1,c203_1,e203,hx203_0,hx203_1,hl203_1,hi203_1⟩:=at_T106 HR0.out x3_1 p203 q203
                  obtain rfl : ad201 = ad203:=(by injection e203)
                  have HR203_1:=Aside0.mk hi203_1
                  have HC203_1:=Aside0.mk hl203_1
                  clear hi203_1 hl203_1
                  replace p203:=eq_true p203
                  replace q203:=eq_true q203
                  have ea_:=Option.some.inj (hx202_1.symm.trans hx203_1)
                  injection ea_ with ea_ en_ ec_
                  subst ea_
                  subst ec_
                  clear en_
                  have p204 : 0 ≤ (x4_3 : Int):=of_decide_eq_true (by first | (with_reducible assumption) | assumption)
                  have q204 : x4_3 < (((rd_T106 l0 x3_1).f1).length : Int):=of_decide_eq_true (by first | (with_reducible assumption) | assumption)
                  obtain ⟨ad204,e204,hx204_0⟩:=Kd.at_int HR203_1.out x4_3 p204 q204
                  cases e204
                  replace p204:=eq_true p204
                  replace q204:=eq_true q204
                  go_wp2
                  go_ret
                  exact ⟨by first | rfl | (simp;done) | (simp [*];done),by repeat (first | exact Drawn0.refl _ | apply Drawn0.step)⟩
                 ·rw [if_neg c17] at H
                  have c17b0 : decide ((rd ((rd_T106 l0 x3_1).f1) x4_3) < 1) = false:=decide_eq_false c17
                  clear c17
                  by_cases c18 : (rd ((rd_T106 l0 x3_1).f1) x4_3) > 2
                  ·rw [if_pos c18] at H
                   have c18b0 : decide (2 < (rd ((rd_T106 l0 x3_1).f1) x4_3)) = true:=decide_eq_true c18
                   clear c18
                   obtain rfl:=Option.some.inj H
                   have p202 : 0 ≤ (x3_1 : Int):=of_decide_eq_true (by first | (with_reducible assumption) | assumption)
                   have q202 : x3_1 < (l0.length : Int):=of_decide_eq_true (by first | (with_reducible assumption) | assumption)
                   obtain ⟨ad202,A202_1,c202_1,e202,hx202_0,hx202_1,hl202_1,hi202_1⟩:=at_T106 HR0.out x3_1 p202 q202
                   obtain rfl : ad201 = ad202:=(by injection e202)
                   have HR202_1:=Aside0.mk hi202_1
                   have HC202_1:=Aside0.mk hl202_1
                   clear hi202_1 hl202_1
                   replace p202:=eq_true p202
                   replace q202:=eq_true q202
                   have p203 : 0 ≤ (x3_1 : Int):=of_decide_eq_true (by first | (with_reducible assumption) | assumption)
                   have q203 : x3_1 < (l0.length : Int):=of_decide_eq_true (by first | (with_reducible assumption) | assumption)
                   obtain ⟨ad203,A203_1,c203_1,e203,hx203_0,hx203_1,hl203_1,hi203_1⟩:=at_T106 HR0.out x3_1 p203 q203
                   obtain rfl : ad201 = ad203:=(by injection e203)
                   have HR203_1:=Aside0.mk hi203_1
                   have HC203_1:=Aside0.mk hl203_1
                   clear hi203_1 hl203_1
                   replace p203:=eq_true p203
                   replace q203:=eq_true q203
                   have ea_:=Option.some.inj (hx202_1.symm.trans hx203_1)
                   injection ea_ with ea_ en_ ec_
                   subst ea_
                   subst ec_
                   clear en_
                   have p204 : 0 ≤ (x4_3 : Int):=of_decide_eq_true (by first | (with_reducible assumption) | assumption)
                   have q204 : x4_3 < (((rd_T106 l0 x3_1).f1).length : Int):=of_decide_eq_true (by first | (with_reducible assumption) | assumption)
                   obtain ⟨ad204,e204,hx204_0⟩:=Kd.at_int HR203_1.out x4_3 p204 q204
                   cases e204
                   replace p204:=eq_true p204
                   replace q204:=eq_true q204
                   have p205 : 0 ≤ (x3_1 : Int):=of_decide_eq_true (by first | (with_reducible assumption) | assumption)
                   have q205 : x3_1 < (l0.length : Int):=of_decide_eq_true (by first | (with_reducible assumption) | assumption)
                   obtain ⟨ad205,A205_1,c205_1,e205,hx205_0,hx205_1,hl205_1,hi205_1⟩:=at_T106 HR0.out x3_1 p205 q205
                   obtain rfl : ad201 = ad205:=(by injection e205)
                   have HR205_1:=Aside0.mk hi205_1
                   have HC205_1:=Aside0.mk hl205_1
                   clear hi205_1 hl205_1
                   replace p205:=eq_true p205
                   replace q205:=eq_true q205
                   have ea_:=Option.some.inj (hx202_1.symm.trans hx205_1)
                   injection ea_ with ea_ en_ ec_
                   subst ea_
                   subst ec_
                   clear en_
                   have p206 : 0 ≤ (x4_3 : Int):=of_decide_eq_true (by first | (with_reducible assumption) | assumption)
                   have q206 : x4_3 < (((rd_T106 l0 x3_1).f1).length : Int):=of_decide_eq_true (by first | (with_reducible assumption) | assumption)
                   obtain ⟨ad206,e206,hx206_0⟩:=Kd.at_int HR205_1.out x4_3 p206 q206
                   cases e206
                   replace p206:=eq_true p206
                   replace q206:=eq_true q206
                   go_wp2
                   go_ret
                   exact ⟨by first | rfl | (simp;done) | (simp [*];done),by repeat (first | exact Drawn0.refl _ | apply Drawn0.step)⟩
                  ·rw [if_neg c18] at H
                   have c18b0 : decide (2 < (rd ((rd_T106 l0 x3_1).f1) x4_3)) = false:=decide_eq_false c18
                   clear c18
                   have H':=Aside0.mk H
                   clear H
                   have p202 : 0 ≤ (x3_1 : Int):=of_decide_eq_true (by first | (with_reducible assumption) | assumption)
                   have q202 : x3_1 < (l0.length : Int):=of_decide_eq_true (by first | (with_reducible assumption) | assumption)
                   obtain ⟨ad202,A202_1,c202_1,e202,hx202_0,hx202_1,hl202_1,hi202_1⟩:=at_T106 HR0.out x3_1 p202 q202
                   obtain rfl : ad201 = ad202:=(by injection e202)
                   have HR202_1:=Aside0.mk hi202_1
                   have HC202_1:=Aside0.mk hl202_1
                   clear hi202_1 hl202_1
                   replace p202:=eq_true p202
                   replace q202:=eq_true q202
                   have p203 : 0 ≤ (x3_1 : Int):=of_decide_eq_true (by first | (with_reducible assumption) | assumption)
                   have q203 : x3_1 < (l0.length : Int):=of_decide_eq_true (by first | (with_reducible assumption) | assumption)
                   obtain ⟨ad203,A203_1,c203_1,e203,hx203_0,hx203_1,hl203_1,hi203_1⟩:=at_T106 HR0.out x3_1 p203 q203
                   obtain rfl : ad201 = ad203:=(by injection e203)
                   have HR203_1:=Aside0.mk hi203_1
                   have HC203_1:=Aside0.mk hl203_1
                   clear hi203_1 hl203_1
                   replace p203:=eq_true p203
                   replace q203:=eq_true q203
                   have ea_:=Option.some.inj (hx202_1.symm.trans hx203_1)
                   injection ea_ with ea_ en_ ec_
                   subst ea_
                   subst ec_
                   clear en_
                   have p204 : 0 ≤ (x4_3 : Int):=of_decide_eq_true (by first | (with_reducible assumption) | assumption)
                   have q204 : x4_3 < (((rd_T106 l0 x3_1).f1).length : Int):=of_decide_eq_true (by first | (with_reducible assumption) | assumption)
                   obtain ⟨ad204,e204,hx204_0⟩:=Kd.at_int HR203_1.out x4_3 p204 q204
                   cases e204
                   replace p204:=eq_true p204
                   replace q204:=eq_true q204
                   have p205 : 0 ≤ (x3_1 : Int):=of_decide_eq_true (by first | (with_reducible assumption) | assumption)
                   have q205 : x3_1 < (l0.length : Int):=of_decide_eq_true (by first | (with_reducible assumption) | assumption)
                   obtain ⟨ad205,A205_1,c205_1,e205,hx205_0,hx205_1,hl205_1,hi205_1⟩:=at_T106 HR0.out x3_1 p205 q205
                   obtain rfl : ad201 = ad205:=(by injection e205)
                   have HR205_1:=Aside0.mk hi205_1
                   have HC205_1:=Aside0.mk hl205_1
                   clear hi205_1 hl205_1
                   replace p205:=eq_true p205
                   replace q205:=eq_true q205
                   have ea_:=Option.some.inj (hx202_1.symm.trans hx205_1)
                   injection ea_ with ea_ en_ ec_
                   subst ea_
                   subst ec_
                   clear en_
                   have p206 : 0 ≤ (x4_3 : Int):=of_decide_eq_true (by first | (with_reducible assumption) | assumption)
                   have q206 : x4_3 < (((rd_T106 l0 x3_1).f1).length : Int):=of_decide_eq_true (by first | (with_reducible assumption) | assumption)
                   obtain ⟨ad206,e206,hx206_0⟩:=Kd.at_int HR205_1.out x4_3 p206 q206
                   cases e206
                   replace p206:=eq_true p206
                   replace q206:=eq_true q206
                   go_wp2
                   go_roundg k3
                   case measure => have:=HK1.out;have:=HJ3.out;have:=HK3.out;omega
                   case rel => exact ⟨(wrap64 (x4_3 + 1)),(by first | rfl | (simp;done) | (simp [*];done)),H',⟨by have:=HK1.out;have:=HJ3.out;have:=HK3.out;omega⟩,by repeat (first | exact Drawn0.refl _ | apply Drawn0.step)⟩
                ·rw [if_neg c16] at H
                 exact absurd H (by simp)
               ·rw [if_neg c15] at H
                have c15b0 : decide (x4_3 < (((rd_T106 l0 x3_1).f1).length : Int)) = false:=decide_eq_false c15
                clear c15
                have H':=Aside0.mk H
                clear H
                have p202 : 0 ≤ (x3_1 : Int):=of_decide_eq_true (by first | (with_reducible assumption) | assumption)
                have q202 : x3_1 < (l0.length : Int):=of_decide_eq_true (by first | (with_reducible assumption) | assumption)
                obtain ⟨ad202,A202_1,c202_1,e202,hx202_0,hx202_1,hl202_1,hi202_1⟩:=at_T106 HR0.out x3_1 p202 q202
                obtain rfl : ad201 = ad202:=(by injection e202)
                have HR202_1:=Aside0.mk hi202_1
                have HC202_1:=Aside0.mk hl202_1
                clear hi202_1 hl202_1
                replace p202:=eq_true p202
                replace q202:=eq_true q202
                go_wp2
                go_roundg k3
                case measure => have:=HK1.out;have:=HJ3.out;have:=HK3.out;omega
                case rel => exact ⟨(wrap64 (x3_1 + 1)),(by first | rfl | (simp;done) | (simp [*];done)),H',⟨by have:=HK1.out;have:=HJ3.out;have:=HK3.out;omega⟩,by repeat (first | exact Drawn0.refl _ | apply Drawn0.step)⟩
              ·rw [if_neg c14] at H
               exact absurd H (by simp)
             ·rw [if_neg c13] at H
              exact absurd H (by simp)
         ·rw [if_neg c11] at H
          exact absurd H (by simp)
        ·rw [if_neg c10] at H
         exact absurd H (by simp)
    ·rw [if_neg c3] at H
     have c3b0 : decide (x3_1 < (l0.length : Int)) = false:=decide_eq_false c3
     clear c3
     obtain rfl:=Option.some.inj H
     go_wp2
     go_ret
     exact ⟨by first | rfl | (simp;done) | (simp [*];done),by repeat (first | exact Drawn0.refl _ | apply Drawn0.step)⟩

/-! ### tachographref02_Get: function 73 -/
def tachographref02_Get.j0 : Nat → ByteArray → Int → Int → Int → Option (ByteArray × Int × Int)
  | 0, _, _, _, _ => none
  | k + 1, x0, x1, x7, x8 => if x7 > (IntKind.u64.wrap (x1)) then (some ((⟨#[]⟩ : ByteArray), 0, 6)) else (if x7 > (IntKind.u64.wrap ((x0.size : Int))) then (some ((⟨#[]⟩ : ByteArray), 0, 2)) else (if (wrap64 (x8 + (wrap64 (x7)))) > (x0.size : Int) then (some ((⟨#[]⟩ : ByteArray), 0, 2)) else (if 0 ≤ x8 then (if x8 ≤ (wrap64 (x8 + (wrap64 (x7)))) then (if (wrap64 (x8 + (wrap64 (x7)))) ≤ (x0.size : Int) then (some (x0.extract (x8 : Int).toNat ((wrap64 (x8 + (wrap64 (x7)))) : Int).toNat, wrap64 (x8 + (wrap64 (x7))), 0)) else (none)) else (none)) else (none))))
def tachographref02_Get.f (k : Nat) (a0 : ByteArray) (a1 : Int) : Option (ByteArray × Int × Int) := (tachographref01_Get.f k a0).bind fun bt207 => (if bt207.2.2 = 0 then (if a1 < 0 then (tachographref02_Get.j0 k a0 0 bt207.1 bt207.2.1) else (tachographref02_Get.j0 k a0 a1 bt207.1 bt207.2.1)) else (some ((⟨#[]⟩ : ByteArray), 0, bt207.2.2)))
theorem tachographref02_Get.mono_l : ∀ k, (∀ y0 y1 y2 y3, LeO (tachographref02_Get.j0 k y0 y1 y2 y3) (tachographref02_Get.j0 (k + 1) y0 y1 y2 y3))
  | 0 => fun _ _ _ _ r h => by simp [tachographref02_Get.j0] at h
  | k + 1 => by
    have ih0 := tachographref02_Get.mono_l k
    · intro y0 y1 y2 y3
      unfold tachographref02_Get.j0
      repeat' first
      | (with_reducible exact ih0 _ _ _ _)
      | (with_reducible exact tachographref01_Get.mono _ _)
      | (with_reducible exact LeO.refl _)
      | (with_reducible exact LeO.none _)
      | (with_reducible refine LeO.ite ?_ ?_)
      | (with_reducible refine LeO.bind ?_ (fun _ => ?_))
      | exact ih0 _ _ _ _
      | exact tachographref01_Get.mono _ _
      | exact LeO.none _
      | refine LeO.ite ?_ ?_
      | refine LeO.bind ?_ (fun _ => ?_)
theorem tachographref02_Get.mono : ∀ a0 a1 k, LeO (tachographref02_Get.f k a0 a1) (tachographref02_Get.f (k + 1) a0 a1) := by
  intro a0 a1 k
  have ih0 := tachographref02_Get.mono_l k
  unfold tachographref02_Get.f
  repeat' first
      | (with_reducible exact ih0 _ _ _ _)
      | (with_reducible exact tachographref01_Get.mono _ _)
      | (with_reducible exact LeO.refl _)
      | (with_reducible exact LeO.none _)
      | (with_reducible refine LeO.ite ?_ ?_)
      | (with_reducible refine LeO.bind ?_ (fun _ => ?_))
      | exact ih0 _ _ _ _
      | exact tachographref01_Get.mono _ _
      | exact LeO.none _
      | refine LeO.ite ?_ ?_
      | refine LeO.bind ?_ (fun _ => ?_)
set_option maxHeartbeats 8000000 in
set_option maxRecDepth 100000 in
theorem tachographref02_Get.calls (k : Nat) (a0 : ByteArray) (a1 : Int) (r1 : ByteArray) (r2 : Int) (r3 : Int) (w : World) (h : tachographref02_Get.f k a0 a1 = some (r1, r2, r3)) :
    Calls Try.prog 73 #[.string a0, .int .i64 a1] w fun e w' => e = .returned (.tuple #[.string r1, .int .i64 r2, .int .i64 r3]) ∧ Drawn0 w w' := by
  have H : ((tachographref01_Get.f k a0).bind fun bt207 => (if bt207.2.2 = 0 then (if a1 < 0 then (tachographref02_Get.j0 k a0 0 bt207.1 bt207.2.1) else (tachographref02_Get.j0 k a0 a1 bt207.1 bt207.2.1)) else (some ((⟨#[]⟩ : ByteArray), 0, bt207.2.2)))) = some (r1, r2, r3) := h
  clear h
  replace H := Option.bind_eq_some_iff.mp H
  obtain ⟨⟨t207, t208, t209⟩, A30, H⟩ := H
  replace H : (if t209 = 0 then (if a1 < 0 then (tachographref02_Get.j0 k a0 0 t207 t208) else (tachographref02_Get.j0 k a0 a1 t207 t208)) else (some ((⟨#[]⟩ : ByteArray), 0, t209))) = some (r1, r2, r3) := H
  have A3 := Aside0.mk A30
  clear A30
  by_cases c4 : t209 = 0
  · rw [if_pos c4] at H
    have c4b0 : (t209 == 0) = true := beq_iff_eq.mpr c4
    have c4b1 : (t209 != 0) = false := bne_eq_false_iff_eq.mpr c4
    clear c4
    have HC5 := Aside0.mk H
    clear H
    go_enter Try.func73, Try.ntmps73
    go_upto_if 20 with (first | ((with_reducible refine gate_callee (f := 52) rfl ?_); refine goesL_ (some 12) rfl rfl Try.func52 (by kernel_rfl) rfl #[.string a0] rfl (by (try simp only [List.map_toArray, List.map_cons, List.map_nil]); first | done | rfl | (simp only [List.length_drop, List.length_take]; rfl) | (refine congrArg (fun z_ => #[z_]) (congrArg (Value.int IntKind.u64) (Eq.symm (Go.Proofs.YtjfklfmfeghjnabAid.wrap_len _ (by omega)))))) ?_; (with_reducible refine (tachographref01_Get.calls k a0 t207 t208 t209 _ A3.out).mono ?_); rintro e w' ⟨rfl, ⟨nd, rfl⟩⟩; refine ⟨_, rfl, ?_⟩))
    (try simp only [Act.put, List.setIfInBounds_toArray, List.set_cons_zero, List.set_cons_succ])
    go_cut [1] (fun v1 wc => ∃ (kq : Nat) (x1_4 : Int), v1 = .int .i64 x1_4 ∧ Aside0 (tachographref02_Get.j0 kq a0 x1_4 t207 t208 = some (r1, r2, r3)) ∧ Aside0 (kq ≤ k) ∧ Drawn0 w wc)
    case first =>
      have H := HC5.out
      clear HC5
      by_cases c6 : a1 < 0
      · rw [if_pos c6] at H
        have c6b0 : decide (a1 < 0) = true := decide_eq_true c6
        clear c6
        (first | rw [c6b0] | (simp only [i64_w, i32_w]; rw [c6b0]) | skip)
        have H' := Aside0.mk H
        clear H
        go_wp2
        go_meet
        case rel => exact ⟨_, (0), (by first | rfl | (simp; done) | (simp [*]; done)), H', ⟨by first | omega | exact Nat.le_refl _⟩, by repeat (first | exact Drawn0.refl _ | apply Drawn0.step)⟩
      · rw [if_neg c6] at H
        have c6b0 : decide (a1 < 0) = false := decide_eq_false c6
        clear c6
        (first | rw [c6b0] | (simp only [i64_w, i32_w]; rw [c6b0]) | skip)
        have H' := Aside0.mk H
        clear H
        go_wp2
        go_meet
        case rel => exact ⟨_, (a1), (by first | rfl | (simp; done) | (simp [*]; done)), H', ⟨by first | omega | exact Nat.le_refl _⟩, by repeat (first | exact Drawn0.refl _ | apply Drawn0.step)⟩
    case rest =>
      clear HC5
      try clear p2
      try clear c4
      try clear c4b0
      try clear c4b1
      try clear c5
      try clear c6
      try clear c6b0
      obtain ⟨kq, x1_4, rfl, HA, HJ4, ⟨mc4, rfl⟩⟩ := hcut
      cases kq with
      | zero => exact absurd HA.out (by simp [tachographref02_Get.j0])
      | succ kj4 =>
        have H := HA.out
        clear HA
        simp only [tachographref02_Get.j0] at H
        by_cases c7 : t207 > (IntKind.u64.wrap (x1_4))
        · rw [if_pos c7] at H
          have c7b0 : decide ((IntKind.u64.wrap (x1_4)) < t207) = true := decide_eq_true c7
          clear c7
          simp only [Option.some.injEq, Prod.mk.injEq] at H
          obtain ⟨rfl, rfl, rfl⟩ := H
          go_wp2
          go_ret3
          exact ⟨by first | rfl | (simp; done) | (simp [*]; done), by repeat (first | exact Drawn0.refl _ | apply Drawn0.step)⟩
        · rw [if_neg c7] at H
          have c7b0 : decide ((IntKind.u64.wrap (x1_4)) < t207) = false := decide_eq_false c7
          clear c7
          by_cases c8 : t207 > (IntKind.u64.wrap ((a0.size : Int)))
          · rw [if_pos c8] at H
            have c8b0 : decide ((IntKind.u64.wrap ((a0.size : Int))) < t207) = true := decide_eq_true c8
            clear c8
            simp only [Option.some.injEq, Prod.mk.injEq] at H
            obtain ⟨rfl, rfl, rfl⟩ := H
            go_wp2
            go_ret3
            exact ⟨by first | rfl | (simp; done) | (simp [*]; done), by repeat (first | exact Drawn0.refl _ | apply Drawn0.step)⟩
          · rw [if_neg c8] at H
            have c8b0 : decide ((IntKind.u64.wrap ((a0.size : Int))) < t207) = false := decide_eq_false c8
            clear c8
            by_cases c9 : (wrap64 (t208 + (wrap64 (t207)))) > (a0.size : Int)
            · rw [if_pos c9] at H
              have c9b0 : decide ((a0.size : Int) < (wrap64 (t208 + (wrap64 (t207))))) = true := decide_eq_true c9
              clear c9
              simp only [Option.some.injEq, Prod.mk.injEq] at H
              obtain ⟨rfl, rfl, rfl⟩ := H
              go_wp2
              go_ret3
              exact ⟨by first | rfl | (simp; done) | (simp [*]; done), by repeat (first | exact Drawn0.refl _ | apply Drawn0.step)⟩
            · rw [if_neg c9] at H
              have c9b0 : decide ((a0.size : Int) < (wrap64 (t208 + (wrap64 (t207))))) = false := decide_eq_false c9
              clear c9
              by_cases c10 : 0 ≤ t208
              · rw [if_pos c10] at H
                have c10b0 := eq_true c10
                have c10b1 : decide (0 ≤ t208) = true := decide_eq_true c10
                clear c10
                by_cases c11 : t208 ≤ (wrap64 (t208 + (wrap64 (t207))))
                · rw [if_pos c11] at H
                  have c11b0 := eq_true c11
                  have c11b1 : decide (t208 ≤ (wrap64 (t208 + (wrap64 (t207))))) = true := decide_eq_true c11
                  by_cases c12 : (wrap64 (t208 + (wrap64 (t207)))) ≤ (a0.size : Int)
                  · rw [if_pos c12] at H
                    have c12b0 := eq_true c12
                    have c12b1 : decide ((wrap64 (t208 + (wrap64 (t207)))) ≤ (a0.size : Int)) = true := decide_eq_true c12
                    simp only [Option.some.injEq, Prod.mk.injEq] at H
                    obtain ⟨rfl, rfl, rfl⟩ := H
                    go_wp2
                    go_ret3
                    exact ⟨by first | rfl | (simp; done) | (simp [*]; done), by repeat (first | exact Drawn0.refl _ | apply Drawn0.step)⟩
                  · rw [if_neg c12] at H
                    exact absurd H (by simp)
                · rw [if_neg c11] at H
                  exact absurd H (by simp)
              · rw [if_neg c10] at H
                exact absurd H (by simp)
  · rw [if_neg c4] at H
    have c4b0 : (t209 == 0) = false := beq_eq_false_iff_ne.mpr c4
    have c4b1 : (t209 != 0) = true := bne_iff_ne.mpr c4
    simp only [Option.some.injEq, Prod.mk.injEq] at H
    obtain ⟨rfl, rfl, rfl⟩ := H
    go_enter Try.func73, Try.ntmps73
    go_wp2_with (first | ((with_reducible refine gate_callee (f := 52) rfl ?_); refine goesL_ (some 12) rfl rfl Try.func52 (by kernel_rfl) rfl #[.string a0] rfl (by (try simp only [List.map_toArray, List.map_cons, List.map_nil]); first | done | rfl | (simp only [List.length_drop, List.length_take]; rfl) | (refine congrArg (fun z_ => #[z_]) (congrArg (Value.int IntKind.u64) (Eq.symm (Go.Proofs.YtjfklfmfeghjnabAid.wrap_len _ (by omega)))))) ?_; (with_reducible refine (tachographref01_Get.calls k a0 t207 t208 t209 _ A3.out).mono ?_); rintro e w' ⟨rfl, ⟨nd, rfl⟩⟩; refine ⟨_, rfl, ?_⟩))
    go_ret3
    exact ⟨by first | rfl | (simp; done) | (simp [*]; done), by repeat (first | exact Drawn0.refl _ | apply Drawn0.step)⟩

end Go.Proofs.Ytjfklfmfeghjnab.PG
