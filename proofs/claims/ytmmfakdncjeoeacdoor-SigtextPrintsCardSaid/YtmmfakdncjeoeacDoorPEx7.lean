-- Contracts of Go functions, each with its plain Lean function: written by wip/tools/myprint.py of this work (the kit's print, with contracts proved by hand spliced in).
import Derived.Test.YtmmfakdncjeoeacDoorPEx0
import Derived.Test.YtmmfakdncjeoeacDoorPEx6
namespace Go.Proofs.YtmmfakdncjeoeacDoor.PE
open Go.RowKit Go.Proofs.YtmmfakdncjeoeacDoorW.PrintWords Go.Proofs.YtmmfakdncjeoeacDoorW.PrintLast Go.Proofs.YtmmfakdncjeoeacDoorW.PrintMore
attribute [local go_sem] max2_int min2_int max_two min_two max_three min_three max_four min_four   -- for this text's walks alone
set_option linter.unusedVariables false
set_option linter.unusedSimpArgs false

/-! ### tachographref09_Name: function 26 -/
mutual
def tachographref09_Name.j0 : Nat → ByteArray → Bool → Option (Bool)
 | 0, _, _ => none
 | k + 1, x0, x15 => if x15 = true then (some false) else (tachographref09_Name.l0 k x0 0)
def tachographref09_Name.l0 : Nat → ByteArray → Int → Option (Bool)
 | 0, _, _ => none
 | k + 1, x0, x3 => if x3 < (x0.size : Int) then (if 0 ≤ x3 then ((tachographref09_in.f (bt x0 x3) 65 90).bind fun t177 => (if t177 = true then (tachographref09_Name.l0 k x0 (wrap64 (x3 + 1))) else ((tachographref09_in.f (bt x0 x3) 97 122).bind fun t178 => (if t178 = true then (tachographref09_Name.l0 k x0 (wrap64 (x3 + 1))) else ((tachographref09_in.f (bt x0 x3) 48 57).bind fun t179 => (if t179 = true then (tachographref09_Name.l0 k x0 (wrap64 (x3 + 1))) else (if (bt x0 x3) = 95 then (tachographref09_Name.l0 k x0 (wrap64 (x3 + 1))) else (some false)))))))) else (none)) else (some true)
end
def tachographref09_Name.f (k : Nat) (a0 : ByteArray) : Option (Bool) := if a0.toList = ([] : List UInt8) then (tachographref09_Name.j0 k a0 true) else (if (a0.size : Int) > 32 then (tachographref09_Name.j0 k a0 true) else (if 0 < (a0.size : Int) then ((tachographref09_in.f (bt a0 0) 48 57).bind fun t176 => (tachographref09_Name.j0 k a0 t176)) else (none)))
theorem tachographref09_Name.mono_l : ∀ k, (∀ y0 y1, LeO (tachographref09_Name.j0 k y0 y1) (tachographref09_Name.j0 (k + 1) y0 y1)) ∧ (∀ y0 y1, LeO (tachographref09_Name.l0 k y0 y1) (tachographref09_Name.l0 (k + 1) y0 y1))
 | 0 => ⟨fun _ _ r h => by simp [tachographref09_Name.j0] at h, fun _ _ r h => by simp [tachographref09_Name.l0] at h⟩
 | k + 1 => by
  obtain ⟨ih0, ih1⟩ := tachographref09_Name.mono_l k
  refine ⟨?_, ?_⟩
  ·intro y0 y1
   unfold tachographref09_Name.j0
   repeat' first
   | (with_reducible exact ih0 _ _)
   | (with_reducible exact ih1 _ _)
   | (with_reducible exact LeO.refl _)
   | (with_reducible exact LeO.none _)
   | (with_reducible refine LeO.ite ?_ ?_)
   | (with_reducible refine LeO.bind ?_ (fun _ => ?_))
   | exact ih0 _ _
   | exact ih1 _ _
   | exact LeO.none _
   | refine LeO.ite ?_ ?_
   | refine LeO.bind ?_ (fun _ => ?_)
  ·intro y0 y1
   unfold tachographref09_Name.l0
   repeat' first
   | (with_reducible exact ih0 _ _)
   | (with_reducible exact ih1 _ _)
   | (with_reducible exact LeO.refl _)
   | (with_reducible exact LeO.none _)
   | (with_reducible refine LeO.ite ?_ ?_)
   | (with_reducible refine LeO.bind ?_ (fun _ => ?_))
   | exact ih0 _ _
   | exact ih1 _ _
   | exact LeO.none _
   | refine LeO.ite ?_ ?_
   | refine LeO.bind ?_ (fun _ => ?_)
theorem tachographref09_Name.mono : ∀ a0 k, LeO (tachographref09_Name.f k a0) (tachographref09_Name.f (k + 1) a0) := by
 intro a0 k
 obtain ⟨ih0, ih1⟩ := tachographref09_Name.mono_l k
 unfold tachographref09_Name.f
 repeat' first
   | (with_reducible exact ih0 _ _)
   | (with_reducible exact ih1 _ _)
   | (with_reducible exact LeO.refl _)
   | (with_reducible exact LeO.none _)
   | (with_reducible refine LeO.ite ?_ ?_)
   | (with_reducible refine LeO.bind ?_ (fun _ => ?_))
   | exact ih0 _ _
   | exact ih1 _ _
   | exact LeO.none _
   | refine LeO.ite ?_ ?_
   | refine LeO.bind ?_ (fun _ => ?_)
set_option maxHeartbeats 8000000 in
set_option maxRecDepth 100000 in
theorem tachographref09_Name.calls (k : Nat) (a0 : ByteArray) (r : Bool) (w : World) (h : tachographref09_Name.f k a0 = some r) :
  Calls Tryd.prog 26 #[.string a0] w fun e w' => e = .returned (.bool r) ∧ Drawn0 w w':=by
 have H : (if a0.toList = ([] : List UInt8) then (tachographref09_Name.j0 k a0 true) else (if (a0.size : Int) > 32 then (tachographref09_Name.j0 k a0 true) else (if 0 < (a0.size : Int) then ((tachographref09_in.f (bt a0 0) 48 57).bind fun t176 => (tachographref09_Name.j0 k a0 t176)) else (none)))) = some r:=h
 clear h
 have HC2:=Aside0.mk H
 clear H
 go_enter Tryd.func26,Tryd.ntmps26
 go_upto_region 1 with (fail)
 go_cut [15] (fun v15 wc => ∃ (kq : Nat) (x15_1 : Bool),v15 = .bool x15_1 ∧ Aside0 (tachographref09_Name.j0 kq a0 x15_1 = some r) ∧ Aside0 (kq ≤ k) ∧ Drawn0 w wc)
 case first =>
  have H:=HC2.out
  clear HC2
  by_cases c3 : a0.toList = ([] : List UInt8)
  ·rw [if_pos c3] at H
   have c3b0 : (a0.toList == ([] : List UInt8)) = true:=beq_iff_eq.mpr c3
   have c3b1 : (a0.toList != ([] : List UInt8)) = false:=bne_eq_false_iff_eq.mpr c3
   clear c3
   (first | rw [c3b0] | (simp only [i64_w,i32_w];rw [c3b0]) | skip)
   have H':=Aside0.mk H
   clear H
   go_wp2
   go_meet
   case rel => exact ⟨_,(true),(by first | rfl | (simp;done) | (simp [*];done)),H',⟨by first | omega | exact Nat.le_refl _⟩,by repeat (first | exact Drawn0.refl _ | apply Drawn0.step)⟩
  ·rw [if_neg c3] at H
   have c3b0 : (a0.toList == ([] : List UInt8)) = false:=beq_eq_false_iff_ne.mpr c3
   have c3b1 : (a0.toList != ([] : List UInt8)) = true:=bne_iff_ne.mpr c3
   (first | rw [c3b0] | (simp only [i64_w,i32_w];rw [c3b0]) | skip)
   by_cases c4 : (a0.size : Int) > 32
   ·rw [if_pos c4] at H
    have c4b0 : decide (32 < (a0.size : Int)) = true:=decide_eq_true c4
    have c4b1 : decide (32 < a0.size) = true:=decide_eq_true (by omega)
    clear c4
    have H':=Aside0.mk H
    clear H
    go_wp2
    go_meet
    case rel => exact ⟨_,(true),(by first | rfl | (simp;done) | (simp [*];done)),H',⟨by first | omega | exact Nat.le_refl _⟩,by repeat (first | exact Drawn0.refl _ | apply Drawn0.step)⟩
   ·rw [if_neg c4] at H
    have c4b0 : decide (32 < (a0.size : Int)) = false:=decide_eq_false c4
    have c4b1 : decide (32 < a0.size) = false:=decide_eq_false (by omega)
    clear c4
    by_cases c5 : 0 < (a0.size : Int)
    ·rw [if_pos c5] at H
     have c5b0 : decide (0 < (a0.size : Int)) = true:=decide_eq_true c5
     have c5b1 : decide (0 < a0.size) = true:=decide_eq_true (by omega)
     clear c5
     replace H:=Option.bind_eq_some_iff.mp H
     obtain ⟨t176,A70,H⟩:=H
     replace H : (tachographref09_Name.j0 k a0 t176) = some r:=H
     have A7:=Aside0.mk A70
     clear A70
     have H':=Aside0.mk H
     clear H
     have p6 : 0 ≤ (0 : Int):=(by omega)
     have q6 : 0 < a0.size:=(by have : (0 : Int) < (a0.size : Int):=of_decide_eq_true (by first | (with_reducible assumption) | assumption);omega)
     have hx6 : ∀ h : 0 < a0.size,((a0[0]'h).toNat : Int) = bt a0 0:=bt_at a0 0
     clear p6
     have qi6 : (0 < (a0.size : Int)) = True:=eq_true (of_decide_eq_true (by first | (with_reducible assumption) | assumption))
     replace q6:=eq_true q6
     go_wp2_with (first | (go_at_call 34;(with_reducible refine (tachographref09_in.calls (bt a0 0) 48 57 t176 _ A7.out).mono ?_);rintro e w' ⟨rfl,⟨nd,rfl⟩⟩))
     go_meet
     case rel => exact ⟨_,(t176),(by first | rfl | (simp;done) | (simp [*];done)),H',⟨by first | omega | exact Nat.le_refl _⟩,by repeat (first | exact Drawn0.refl _ | apply Drawn0.step)⟩
    ·rw [if_neg c5] at H
     exact absurd H (by simp)
 case rest =>
  clear HC2
  try clear c2
  try clear p2
  try clear c3
  try clear c3b0
  try clear c3b1
  try clear c4
  try clear c4b0
  try clear c4b1
  try clear c5
  try clear c5b0
  try clear c5b1
  try clear p6
  try clear q6
  try clear hx6
  try clear qi6
  try clear p6
  try clear q6
  obtain ⟨kq,x15_1,rfl,HA,HJ1,⟨mc1,rfl⟩⟩:=hcut
  cases kq with
  | zero => exact absurd HA.out (by simp [tachographref09_Name.j0])
  | succ kj1 =>
   have H:=HA.out
   clear HA
   simp only [tachographref09_Name.j0] at H
   by_cases c8 : x15_1 = true
   ·subst c8
    have H1 : (some false) = some r:=by rw [if_pos rfl] at H;exact H
    clear H
    have H:=H1
    clear H1
    obtain rfl:=Option.some.inj H
    go_wp2
    go_ret
    exact ⟨by first | rfl | (simp;done) | (simp [*];done),by repeat (first | exact Drawn0.refl _ | apply Drawn0.step)⟩
   ·replace c8:=Bool.eq_false_iff.mpr c8
    subst c8
    have H1 : (tachographref09_Name.l0 kj1 a0 0) = some r:=by rw [if_neg (show ¬ (false = true) by decide)] at H;exact H
    clear H
    have H:=H1
    clear H1
    have H':=Aside0.mk H
    clear H
    go_wp2
    go_loopg [3] kj1 (fun kq v3 w' => ∃ (x3_2 : Int),v3 = .int .i64 x3_2 ∧ Aside0 (tachographref09_Name.l0 kq a0 x3_2 = some r) ∧ Aside0 (kq ≤ kj1) ∧ Drawn0 w w')
    case atStart => exact ⟨(0),(by first | rfl | (simp;done) | (simp [*];done)),H',⟨Nat.le_refl _⟩,by repeat (first | exact Drawn0.refl _ | apply Drawn0.step)⟩
    case round =>
     clear H'
     try clear c1
     try clear c2
     try clear p2
     try clear c3
     try clear c3b0
     try clear c3b1
     try clear c4
     try clear c4b0
     try clear c4b1
     try clear c5
     try clear c5b0
     try clear c5b1
     try clear p6
     try clear q6
     try clear hx6
     try clear qi6
     try clear c8
     try clear p2
     try clear p6
     try clear q6
     obtain ⟨x3_2,rfl,HA,HK2,⟨m2,rfl⟩⟩:=hrel
     cases gk with
     | zero => exact absurd HA.out (by simp [tachographref09_Name.l0])
     | succ k2 =>
      have H:=HA.out
      clear HA
      simp only [tachographref09_Name.l0] at H
      by_cases c9 : x3_2 < (a0.size : Int)
      ·rw [if_pos c9] at H
       have c9b0 : decide (x3_2 < (a0.size : Int)) = true:=decide_eq_true c9
       clear c9
       by_cases c10 : 0 ≤ x3_2
       ·rw [if_pos c10] at H
        have c10b0 : decide (0 ≤ x3_2) = true:=decide_eq_true c10
        clear c10
        replace H:=Option.bind_eq_some_iff.mp H
        obtain ⟨t177,A120,H⟩:=H
        replace H : (if t177 = true then (tachographref09_Name.l0 k2 a0 (wrap64 (x3_2 + 1))) else ((tachographref09_in.f (bt a0 x3_2) 97 122).bind fun t178 => (if t178 = true then (tachographref09_Name.l0 k2 a0 (wrap64 (x3_2 + 1))) else ((tachographref09_in.f (bt a0 x3_2) 48 57).bind fun t179 => (if t179 = true then (tachographref09_Name.l0 k2 a0 (wrap64 (x3_2 + 1))) else (if (bt a0 x3_2) = 95 then (tachographref09_Name.l0 k2 a0 (wrap64 (x3_2 + 1))) else (some false))))))) = some r:=H
        have A12:=Aside0.mk A120
        clear A120
        by_cases c13 : t177 = true
        ·subst c13
         have H1 : (tachographref09_Name.l0 k2 a0 (wrap64 (x3_2 + 1))) = some r:=by rw [if_pos rfl] at H;exact H
         clear H
         have H:=H1
         clear H1
         have H':=Aside0.mk H
         clear H
         have p11 : 0 ≤ (x3_2 : Int):=of_decide_eq_true (by first | (with_reducible assumption) | assumption)
         have q11 : x3_2 < (a0.size : Int):=of_decide_eq_true (by first | (with_reducible assumption) | assumption)
         have hx11:=bt_at a0 x3_2
         replace p11:=eq_true p11
         replace q11:=eq_true q11
         go_wp2_with (first | ((with_reducible refine gate_callee (f:=34) rfl ?_);refine goesL_ (some 25) rfl rfl Tryd.func34 (by kernel_rfl) rfl #[.int .u8 (bt a0 x3_2),.int .u8 65,.int .u8 90] rfl (by (try simp only [List.map_toArray,List.map_cons,List.map_nil]);first | done | rfl | (simp only [List.length_drop,List.length_take];rfl)) ?_;(with_reducible refine (tachographref09_in.calls (bt a0 x3_2) 65 90 true _ A12.out).mono ?_);rintro e w' ⟨rfl,⟨nd,rfl⟩⟩;refine ⟨_,rfl,?_⟩))
         go_roundg k2
         case measure => have:=HJ1.out;have:=HK2.out;omega
         case rel => exact ⟨(wrap64 (x3_2 + 1)),(by first | rfl | (simp;done) | (simp [*];done)),H',⟨by have:=HJ1.out;have:=HK2.out;omega⟩,by repeat (first | exact Drawn0.refl _ | apply Drawn0.step)⟩
        ·replace c13:=Bool.eq_false_iff.mpr c13
         subst c13
         have H1 : ((tachographref09_in.f (bt a0 x3_2) 97 122).bind fun t178 => (if t178 = true then (tachographref09_Name.l0 k2 a0 (wrap64 (x3_2 + 1))) else ((tachographref09_in.f (bt a0 x3_2) 48 57).bind fun t179 => (if t179 = true then (tachographref09_Name.l0 k2 a0 (wrap64 (x3_2 + 1))) else (if (bt a0 x3_2) = 95 then (tachographref09_Name.l0 k2 a0 (wrap64 (x3_2 + 1))) else (some false)))))) = some r:=by rw [if_neg (show ¬ (false = true) by decide)] at H;exact H
         clear H
         have H:=H1
         clear H1
         replace H:=Option.bind_eq_some_iff.mp H
         obtain ⟨t178,A150,H⟩:=H
         replace H : (if t178 = true then (tachographref09_Name.l0 k2 a0 (wrap64 (x3_2 + 1))) else ((tachographref09_in.f (bt a0 x3_2) 48 57).bind fun t179 => (if t179 = true then (tachographref09_Name.l0 k2 a0 (wrap64 (x3_2 + 1))) else (if (bt a0 x3_2) = 95 then (tachographref09_Name.l0 k2 a0 (wrap64 (x3_2 + 1))) else (some false))))) = some r:=H
         have A15:=Aside0.mk A150
         clear A150
         by_cases c16 : t178 = true
         ·subst c16
          have H1 : (tachographref09_Name.l0 k2 a0 (wrap64 (x3_2 + 1))) = some r:=by rw [if_pos rfl] at H;exact H
          clear H
          have H:=H1
          clear H1
          have H':=Aside0.mk H
          clear H
          have p11 : 0 ≤ (x3_2 : Int):=of_decide_eq_true (by first | (with_reducible assumption) | assumption)
          have q11 : x3_2 < (a0.size : Int):=of_decide_eq_true (by first | (with_reducible assumption) | assumption)
          have hx11:=bt_at a0 x3_2
          replace p11:=eq_true p11
          replace q11:=eq_true q11
          go_wp2_with (first | ((with_reducible refine gate_callee (f:=34) rfl ?_);refine goesL_ (some 25) rfl rfl Tryd.func34 (by kernel_rfl) rfl #[.int .u8 (bt a0 x3_2),.int .u8 65,.int .u8 90] rfl (by (try simp only [List.map_toArray,List.map_cons,List.map_nil]);first | done | rfl | (simp only [List.length_drop,List.length_take];rfl)) ?_;(with_reducible refine (tachographref09_in.calls (bt a0 x3_2) 65 90 false _ A12.out).mono ?_);rintro e w' ⟨rfl,⟨nd,rfl⟩⟩;refine ⟨_,rfl,?_⟩;have p14 : 0 ≤ (x3_2 : Int):=of_decide_eq_true (by first | (with_reducible assumption) | assumption);have q14 : x3_2 < (a0.size : Int):=of_decide_eq_true (by first | (with_reducible assumption) | assumption);have hx14:=bt_at a0 x3_2;replace p14:=eq_true p14;replace q14:=eq_true q14) | (go_at_call 34;(with_reducible refine (tachographref09_in.calls (bt a0 x3_2) 97 122 true _ A15.out).mono ?_);rintro e w' ⟨rfl,⟨nd,rfl⟩⟩))
          go_roundg k2
          case measure => have:=HJ1.out;have:=HK2.out;omega
          case rel => exact ⟨(wrap64 (x3_2 + 1)),(by first | rfl | (simp;done) | (simp [*];done)),H',⟨by have:=HJ1.out;have:=HK2.out;omega⟩,by repeat (first | exact Drawn0.refl _ | apply Drawn0.step)⟩
         ·replace c16:=Bool.eq_false_iff.mpr c16
          subst c16
          have H1 : ((tachographref09_in.f (bt a0 x3_2) 48 57).bind fun t179 => (if t179 = true then (tachographref09_Name.l0 k2 a0 (wrap64 (x3_2 + 1))) else (if (bt a0 x3_2) = 95 then (tachographref09_Name.l0 k2 a0 (wrap64 (x3_2 + 1))) else (some false)))) = some r:=by rw [if_neg (show ¬ (false = true) by decide)] at H;exact H
          clear H
          have H:=H1
          clear H1
          replace H:=Option.bind_eq_some_iff.mp H
          obtain ⟨t179,A180,H⟩:=H
          replace H : (if t179 = true then (tachographref09_Name.l0 k2 a0 (wrap64 (x3_2 + 1))) else (if (bt a0 x3_2) = 95 then (tachographref09_Name.l0 k2 a0 (wrap64 (x3_2 + 1))) else (some false))) = some r:=H
          have A18:=Aside0.mk A180
          clear A180
          by_cases c19 : t179 = true
          ·subst c19
           have H1 : (tachographref09_Name.l0 k2 a0 (wrap64 (x3_2 + 1))) = some r:=by rw [if_pos rfl] at H;exact H
           clear H
           have H:=H1
           clear H1
           have H':=Aside0.mk H
           clear H
           have p11 : 0 ≤ (x3_2 : Int):=of_decide_eq_true (by first | (with_reducible assumption) | assumption)
           have q11 : x3_2 < (a0.size : Int):=of_decide_eq_true (by first | (with_reducible assumption) | assumption)
           have hx11:=bt_at a0 x3_2
           replace p11:=eq_true p11
           replace q11:=eq_true q11
           go_wp2_with (first | ((with_reducible refine gate_callee (f:=34) rfl ?_);refine goesL_ (some 25) rfl rfl Tryd.func34 (by kernel_rfl) rfl #[.int .u8 (bt a0 x3_2),.int .u8 65,.int .u8 90] rfl (by (try simp only [List.map_toArray,List.map_cons,List.map_nil]);first | done | rfl | (simp only [List.length_drop,List.length_take];rfl)) ?_;(with_reducible refine (tachographref09_in.calls (bt a0 x3_2) 65 90 false _ A12.out).mono ?_);rintro e w' ⟨rfl,⟨nd,rfl⟩⟩;refine ⟨_,rfl,?_⟩;have p14 : 0 ≤ (x3_2 : Int):=of_decide_eq_true (by first | (with_reducible assumption) | assumption);have q14 : x3_2 < (a0.size : Int):=of_decide_eq_true (by first | (with_reducible assumption) | assumption);have hx14:=bt_at a0 x3_2;replace p14:=eq_true p14;replace q14:=eq_true q14) | (go_at_call 34;(with_reducible refine (tachographref09_in.calls (bt a0 x3_2) 97 122 false _ A15.out).mono ?_);rintro e w' ⟨rfl,⟨nd,rfl⟩⟩;have p17 : 0 ≤ (x3_2 : Int):=of_decide_eq_true (by first | (with_reducible assumption) | assumption);have q17 : x3_2 < (a0.size : Int):=of_decide_eq_true (by first | (with_reducible assumption) | assumption);have hx17:=bt_at a0 x3_2;replace p17:=eq_true p17;replace q17:=eq_true q17) | (go_at_call 34;(with_reducible refine (tachographref09_in.calls (bt a0 x3_2) 48 57 true _ A18.out).mono ?_);rintro e w' ⟨rfl,⟨nd,rfl⟩⟩))
           go_roundg k2
           case measure => have:=HJ1.out;have:=HK2.out;omega
           case rel => exact ⟨(wrap64 (x3_2 + 1)),(by first | rfl | (simp;done) | (simp [*];done)),H',⟨by have:=HJ1.out;have:=HK2.out;omega⟩,by repeat (first | exact Drawn0.refl _ | apply Drawn0.step)⟩
          ·replace c19:=Bool.eq_false_iff.mpr c19
           subst c19
           have H1 : (if (bt a0 x3_2) = 95 then (tachographref09_Name.l0 k2 a0 (wrap64 (x3_2 + 1))) else (some false)) = some r:=by rw [if_neg (show ¬ (false = true) by decide)] at H;exact H
           clear H
           have H:=H1
           clear H1
           by_cases c21 : (bt a0 x3_2) = 95
           ·rw [if_pos c21] at H
            have c21b0 : ((bt a0 x3_2) == 95) = true:=beq_iff_eq.mpr c21
            have c21b1 : ((bt a0 x3_2) != 95) = false:=bne_eq_false_iff_eq.mpr c21
            clear c21
            have H':=Aside0.mk H
            clear H
            have p11 : 0 ≤ (x3_2 : Int):=of_decide_eq_true (by first | (with_reducible assumption) | assumption)
            have q11 : x3_2 < (a0.size : Int):=of_decide_eq_true (by first | (with_reducible assumption) | assumption)
            have hx11:=bt_at a0 x3_2
            replace p11:=eq_true p11
            replace q11:=eq_true q11
            go_wp2_with (first | ((with_reducible refine gate_callee (f:=34) rfl ?_);refine goesL_ (some 25) rfl rfl Tryd.func34 (by kernel_rfl) rfl #[.int .u8 (bt a0 x3_2),.int .u8 65,.int .u8 90] rfl (by (try simp only [List.map_toArray,List.map_cons,List.map_nil]);first | done | rfl | (simp only [List.length_drop,List.length_take];rfl)) ?_;(with_reducible refine (tachographref09_in.calls (bt a0 x3_2) 65 90 false _ A12.out).mono ?_);rintro e w' ⟨rfl,⟨nd,rfl⟩⟩;refine ⟨_,rfl,?_⟩;have p14 : 0 ≤ (x3_2 : Int):=of_decide_eq_true (by first | (with_reducible assumption) | assumption);have q14 : x3_2 < (a0.size : Int):=of_decide_eq_true (by first | (with_reducible assumption) | assumption);have hx14:=bt_at a0 x3_2;replace p14:=eq_true p14;replace q14:=eq_true q14) | (go_at_call 34;(with_reducible refine (tachographref09_in.calls (bt a0 x3_2) 97 122 false _ A15.out).mono ?_);rintro e w' ⟨rfl,⟨nd,rfl⟩⟩;have p17 : 0 ≤ (x3_2 : Int):=of_decide_eq_true (by first | (with_reducible assumption) | assumption);have q17 : x3_2 < (a0.size : Int):=of_decide_eq_true (by first | (with_reducible assumption) | assumption);have hx17:=bt_at a0 x3_2;replace p17:=eq_true p17;replace q17:=eq_true q17) | (go_at_call 34;(with_reducible refine (tachographref09_in.calls (bt a0 x3_2) 48 57 false _ A18.out).mono ?_);rintro e w' ⟨rfl,⟨nd,rfl⟩⟩;have p20 : 0 ≤ (x3_2 : Int):=of_decide_eq_true (by first | (with_reducible assumption) | assumption);have q20 : x3_2 < (a0.size : Int):=of_decide_eq_true (by first | (with_reducible assumption) | assumption);have hx20:=bt_at a0 x3_2;replace p20:=eq_true p20;replace q20:=eq_true q20))
            go_roundg k2
            case measure => have:=HJ1.out;have:=HK2.out;omega
            case rel => exact ⟨(wrap64 (x3_2 + 1)),(by first | rfl | (simp;done) | (simp [*];done)),H',⟨by have:=HJ1.out;have:=HK2.out;omega⟩,by repeat (first | exact Drawn0.refl _ | apply Drawn0.step)⟩
           ·rw [if_neg c21] at H
            have c21b0 : ((bt a0 x3_2) == 95) = false:=beq_eq_false_iff_ne.mpr c21
            have c21b1 : ((bt a0 x3_2) != 95) = true:=bne_iff_ne.mpr c21
            obtain rfl:=Option.some.inj H
            have p11 : 0 ≤ (x3_2 : Int):=of_decide_eq_true (by first | (with_reducible assumption) | assumption)
            have q11 : x3_2 < (a0.size : Int):=of_decide_eq_true (by first | (with_reducible assumption) | assumption)
            have hx11:=bt_at a0 x3_2
            replace p11:=eq_true p11
            replace q11:=eq_true q11
            go_wp2_with (first | ((with_reducible refine gate_callee (f:=34) rfl ?_);refine goesL_ (some 25) rfl rfl Tryd.func34 (by kernel_rfl) rfl #[.int .u8 (bt a0 x3_2),.int .u8 65,.int .u8 90] rfl (by (try simp only [List.map_toArray,List.map_cons,List.map_nil]);first | done | rfl | (simp only [List.length_drop,List.length_take];rfl)) ?_;(with_reducible refine (tachographref09_in.calls (bt a0 x3_2) 65 90 false _ A12.out).mono ?_);rintro e w' ⟨rfl,⟨nd,rfl⟩⟩;refine ⟨_,rfl,?_⟩;have p14 : 0 ≤ (x3_2 : Int):=of_decide_eq_true (by first | (with_reducible assumption) | assumption);have q14 : x3_2 < (a0.size : Int):=of_decide_eq_true (by first | (with_reducible assumption) | assumption);have hx14:=bt_at a0 x3_2;replace p14:=eq_true p14;replace q14:=eq_true q14) | (go_at_call 34;(with_reducible refine (tachographref09_in.calls (bt a0 x3_2) 97 122 false _ A15.out).mono ?_);rintro e w' ⟨rfl,⟨nd,rfl⟩⟩;have p17 : 0 ≤ (x3_2 : Int):=of_decide_eq_true (by first | (with_reducible assumption) | assumption);have q17 : x3_2 < (a0.size : Int):=of_decide_eq_true (by first | (with_reducible assumption) | assumption);have hx17:=bt_at a0 x3_2;replace p17:=eq_true p17;replace q17:=eq_true q17) | (go_at_call 34;(with_reducible refine (tachographref09_in.calls (bt a0 x3_2) 48 57 false _ A18.out).mono ?_);rintro e w' ⟨rfl,⟨nd,rfl⟩⟩;have p20 : 0 ≤ (x3_2 : Int):=of_decide_eq_true (by first | (with_reducible assumption) | assumption);have q20 : x3_2 < (a0.size : Int):=of_decide_eq_true (by first | (with_reducible assumption) | assumption);have hx20:=bt_at a0 x3_2;replace p20:=eq_true p20;replace q20:=eq_true q20))
            go_ret
            exact ⟨by first | rfl | (simp;done) | (simp [*];done),by repeat (first | exact Drawn0.refl _ | apply Drawn0.step)⟩
       ·rw [if_neg c10] at H
        exact absurd H (by simp)
      ·rw [if_neg c9] at H
       have c9b0 : decide (x3_2 < (a0.size : Int)) = false:=decide_eq_false c9
       clear c9
       obtain rfl:=Option.some.inj H
       go_wp2
       go_ret
       exact ⟨by first | rfl | (simp;done) | (simp [*];done),by repeat (first | exact Drawn0.refl _ | apply Drawn0.step)⟩

end Go.Proofs.YtmmfakdncjeoeacDoor.PE
