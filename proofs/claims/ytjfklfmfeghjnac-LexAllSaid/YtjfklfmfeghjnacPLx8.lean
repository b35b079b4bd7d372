-- Contracts of Go functions, each with its plain Lean function: written by wip/tools/myprint.py of this work (the kit's print, with contracts proved by hand spliced in).
import Derived.Test.YtjfklfmfeghjnacPLx0
import Derived.Test.YtjfklfmfeghjnacPLx7
namespace Go.Proofs.Ytjfklfmfeghjnac.PL
open Go.RowKit Go.Proofs.YtjfklfmfeghjnacW.PrintWords Go.Proofs.YtjfklfmfeghjnacW.PrintLast Go.Proofs.YtjfklfmfeghjnacW.PrintMore
attribute [local go_sem] max2_int min2_int max_two min_two max_three min_three max_four min_four   -- for this text's walks alone
set_option linter.unusedVariables false
set_option linter.unusedSimpArgs false

/-! ### tachographref09_Name: function 68 -/
mutual
def tachographref09_Name.j0 : Nat → ByteArray → Bool → Option (Bool)
 | 0, _, _ => none
 | k + 1, x0, x15 => if x15 = true then (some false) else (tachographref09_Name.l0 k x0 0)
def tachographref09_Name.l0 : Nat → ByteArray → Int → Option (Bool)
 | 0, _, _ => none
 | k + 1, x0, x3 => if x3 < (x0.size : Int) then (if 0 ≤ x3 then ((tachographref09_in.f (bt x0 x3) 65 90).bind fun t184 => (if t184 = true then (tachographref09_Name.l0 k x0 (wrap64 (x3 + 1))) else ((tachographref09_in.f (bt x0 x3) 97 122).bind fun t185 => (if t185 = true then (tachographref09_Name.l0 k x0 (wrap64 (x3 + 1))) else ((tachographref09_in.f (bt x0 x3) 48 57).bind fun t186 => (if t186 = true then (tachographref09_Name.l0 k x0 (wrap64 (x3 + 1))) else (if (bt x0 x3) = 95 then (tachographref09_Name.l0 k x0 (wrap64 (x3 + 1))) else (some false)))))))) else (none)) else (some true)
end
def tachographref09_Name.f (k : Nat) (a0 : ByteArray) : Option (Bool) := if a0.toList = ([] : List UInt8) then (tachographref09_Name.j0 k a0 true) else (if (a0.size : Int) > 32 then (tachographref09_Name.j0 k a0 true) else (if 0 < (a0.size : Int) then ((tachographref09_in.f (bt a0 0) 48 57).bind fun t183 => (tachographref09_Name.j0 k a0 t183)) else (none)))
theorem tachographref09_Name.mono_l : ∀ k, (∀ y0 y1, LeO (tachographref09_Name.j0 k y0 y1) (tachographref09_Name.j0 (k + 1) y0 y1)) ∧ (∀ y0 y1, LeO (tachographref09_Name.l0 k y0 y1) (tachographref09_Name.l0 (k + 1) y0 y1))
 | 0 => ⟨fun _ _ r h => by simp [tachographref09_Name.j0] at h, fun _ _ r h => by simp [tachographref09_Name.l0] at h⟩
 | k + 1 => by
  obtain ⟨ih0, ih1⟩ := tachographref09_Name.mono_l k
  refine ⟨?_, ?_⟩
  ·intro y0 y1
   unfold tachographref09_Name.j0
   repeat' first
   | (with_reducible exact ih0 _ _)
   | (with_reducible exact ih1 _ _)
   | (with_reducible exact LeO.refl _)
   | (with_reducible exact LeO.none _)
   | (with_reducible refine LeO.ite ?_ ?_)
   | (with_reducible refine LeO.bind ?_ (fun _ => ?_))
   | exact ih0 _ _
   | exact ih1 _ _
   | exact LeO.none _
   | refine LeO.ite ?_ ?_
   | refine LeO.bind ?_ (fun _ => ?_)
  ·intro y0 y1
   unfold tachographref09_Name.l0
   repeat' first
   | (with_reducible exact ih0 _ _)
   | (with_reducible exact ih1 _ _)
   | (with_reducible exact LeO.refl _)
   | (with_reducible exact LeO.none _)
   | (with_reducible refine LeO.ite ?_ ?_)
   | (with_reducible refine LeO.bind ?_ (fun _ => ?_))
   | exact ih0 _ _
   | exact ih1 _ _
   | exact LeO.none _
   | refine LeO.ite ?_ ?_
   | refine LeO.bind ?_ (fun _ => ?_)
theorem tachographref09_Name.mono : ∀ a0 k, LeO (tachographref09_Name.f k a0) (tachographref09_Name.f (k + 1) a0) := by
 intro a0 k
 obtain ⟨ih0, ih1⟩ := tachographref09_Name.mono_l k
 unfold tachographref09_Name.f
 repeat' first
   | (with_reducible exact ih0 _ _)
   | (with_reducible exact ih1 _ _)
   | (with_reducible exact LeO.refl _)
   | (with_reducible exact LeO.none _)
   | (with_reducible refine LeO.ite ?_ ?_)
   | (with_reducible refine LeO.bind ?_ (fun _ => ?_))
   | exact ih0 _ _
   | exact ih1 _ _
   | exact LeO.none _
   | refine LeO.ite ?_ ?_
   | refine LeO.bind ?_ (fun _ => ?_)
set_option maxHeartbeats 8000000 in
set_option maxRecDepth 100000 in
theorem tachographref09_Name.calls (k : Nat) (a0 : ByteArray) (r : Bool) (w : World) (h : tachographref09_Name.f k a0 = some r) :
  Calls Try.prog 68 #[.string a0] w fun e w' => e = .returned (.bool r) ∧ Drawn0 w w':=by
 have H : (if a0.toList = ([] : List UInt8) then (tachographref09_Name.j0 k a0 true) else (if (a0.size : Int) > 32 then (tachographref09_Name.j0 k a0 true) else (if 0 < (a0.size : Int) then ((tachographref09_in.f (bt a0 0) 48 57).bind fun t183 => (tachographref09_Name.j0 k a0 t183)) else (none)))) = some r:=h
 clear h
 have HC2:=Aside0.mk H
 clear H
 go_enter Try.func68,Try.ntmps68
 go_upto_region 1 with (fail)
 go_cut [15] (fun v15 wc => ∃ (kq : Nat) (x15_1 : Bool),v15 = .bool x15_1 ∧ Aside0 (tachographref09_Name.j0 kq a0 x15_1 = some r) ∧ Aside0 (kq ≤ k) ∧ Drawn0 w wc)
 case first =>
  have H:=HC2.out
  clear HC2
  by_cases c3 : a0.toList = ([] : List UInt8)
  ·rw [if_pos c3] at H
   have c3b0 : (a0.toList == ([] : List UInt8)) = true:=beq_iff_eq.mpr c3
   have c3b1 : (a0.toList != ([] : List UInt8)) = false:=bne_eq_false_iff_eq.mpr c3
   clear c3
   (first | rw [c3b0] | (simp only [i64_w,i32_w];rw [c3b0]) | skip)
   have H':=Aside0.mk H
   clear H
   go_wp2
   go_meet
   case rel => exact ⟨_,(true),(by first | rfl | (simp;done) | (simp [*];done)),H',⟨by first | omega | exact Nat.le_refl _⟩,by repeat (first | exact Drawn0.refl _ | apply Drawn0.step)⟩
  ·rw [if_neg c3] at H
   have c3b0 : (a0.toList == ([] : List UInt8)) = false:=beq_eq_false_iff_ne.mpr c3
   have c3b1 : (a0.toList != ([] : List UInt8)) = true:=bne_iff_ne.mpr c3
   (first | rw [c3b0] | (simp only [i64_w,i32_w];rw [c3b0]) | skip)
   by_cases c4 : (a0.size : Int) > 32
   ·rw [if_pos c4] at H
    have c4b0 : decide (32 < (a0.size : Int)) = true:=decide_eq_true c4
    have c4b1 : decide (32 < a0.size) = true:=decide_eq_true (by omega)
    clear c4
    have H':=Aside0.mk H
    clear H
    go_wp2
    go_meet
    case rel => exact ⟨_,(true),(by first | rfl | (simp;done) | (simp [*];done)),H',⟨by first | omega | exact Nat.le_refl _⟩,by repeat (first | exact Drawn0.refl _ | apply Drawn0.step)⟩
   ·rw [if_neg c4] at H
    have c4b0 : decide (32 < (a0.size : Int)) = false:=decide_eq_false c4
    have c4b1 : decide (32 < a0.size) = false:=decide_eq_false (by omega)
    clear c4
    by_cases c5 : 0 < (a0.size : Int)
    ·rw [if_pos c5] at H
     have c5b0 : decide (0 < (a0.size : Int)) = true:=decide_eq_true c5
     have c5b1 : decide (0 < a0.size) = true:=decide_eq_true (by omega)
     clear c5
     replace H:=Option.bind_eq_some_iff.mp H
     obtain ⟨t183,A70,H⟩:=H
     replace H : (tachographref09_Name.j0 k a0 t183) = some r:=H
     have A7:=Aside0.mk A70
     clear A70
     have H':=Aside0.mk H
     clear H
     have p6 : 0 ≤ (0 : Int):=(by omega)
     have q6 : 0 < a0.size:=(by have : (0 : Int) < (a0.size : Int):=of_decide_eq_true (by first | (with_reducible assumption) | assumption);omega)
     have hx6 : ∀ h : 0 < a0.size,((a0[0]'h).toNat : Int) = bt a0 0:=bt_at a0 0
     clear p6
     have qi6 : (0 < (a0.size : Int)) = True:=eq_true (of_decide_eq_true (by first | (with_reducible assumption) | assumption))
     replace q6:=eq_true q6
     go_wp2_with (first | (go_at_call 72;(with_reducible refine (tachographref09_in.calls (bt a0 0) 48 57 t183 _ A7.out).mono ?_);rintro e w' ⟨rfl,⟨nd,rfl⟩⟩))
     go_meet
     case rel => exact ⟨_,(t183),(by first | rfl | (simp;done) | (simp [*];done)),H',⟨by first | omega | exact Nat.le_refl _⟩,by repeat (first | exact Drawn0.refl _ | apply Drawn0.step)⟩
    ·rw [if_neg c5] at H
     exact absurd H (by simp)
 case rest =>
  clear HC2
  try clear p2
  try clear c3
  try clear c3b0
  try clear c3b1
  try clear c4
  try clear c4b0
  try clear c4b1
  try clear c5
  try clear c5b0
  try clear c5b1
  try clear c6
  try clear p6
  try clear q6
  try clear hx6
  try clear qi6
  try clear p6
  try clear q6
  obtain ⟨kq,x15_1,rfl,HA,HJ1,⟨mc1,rfl⟩⟩:=hcut
  cases kq with
  | zero => exact absurd HA.out (by simp [tachographref09_Name.j0])
  | succ kj1 =>
   have H:=HA.out
   clear HA
   simp only [tachographref09_Name.j0] at H
   by_cases c8 : x15_1 = true
   ·subst c8
    have H1 : (some false) = some r:=by rw [if_pos rfl] at H;exact H
    clear H
    have H:=H1
    clear H1
    obtain rfl:=Option.some.inj H
    go_wp2
    go_ret
    exact ⟨by first | rfl | (simp;done) | (simp [*];done),by repeat (first | exact Drawn0.refl _ | apply Drawn0.step)⟩
   ·replace c8:=Bool.eq_false_iff.mpr c8
    subst c8
    have H1 : (tachographref09_Name.l0 kj1 a0 0) = some r:=by rw [if_neg (show ¬ (false = true) by decide)] at H;exact H
    clear H
    have H:=H1
    clear H1
    have H':=Aside0.mk H
    clear H
    go_wp2
    go_loopg [3] kj1 (fun kq v3 w' => ∃ (x3_2 : Int),v3 = .int .i64 x3_2 ∧ Aside0 (tachographref09_Name.l0 kq a0 x3_2 = some r) ∧ Aside0 (kq ≤ kj1) ∧ Drawn0 w w')
    case atStart => exact ⟨(0),(by first | rfl | (simp;done) | (simp [*];done)),H',⟨Nat.le_refl _⟩,by repeat (first | exact Drawn0.refl _ | apply Drawn0.step)⟩
    case round =>
     clear H'
     try clear c1
     try clear p2
     try clear c3
     try clear c3b0
     try clear c3b1
     try clear c4
     try clear c4b0
     try clear c4b1
     try clear c5
     try clear c5b0
     try clear c5b1
     try clear c6
     try clear p6
     try clear q6
     try clear hx6
     try clear qi6
     try clear c8
     try clear p2
     try clear p6
     try clear q6
     obtain ⟨x3_2,rfl,HA,HK2,⟨m2,rfl⟩⟩:=hrel
     cases gk with
     | zero => exact absurd HA.out (by simp [tachographref09_Name.l0])
     | succ k2 =>
      have H:=HA.out
      clear HA
      simp only [tachographref09_Name.l0] at H
      by_cases c9 : x3_2 < (a0.size : Int)
      ·rw [if_pos c9] at H
       have c9b0 : decide (x3_2 < (a0.size : Int)) = true:=decide_eq_true c9
       clear c9
       by_cases c10 : 0 ≤ x3_2
       ·rw [if_pos c10] at H
        have c10b0 : decide (0 ≤ x3_2) = true:=decide_eq_true c10
        clear c10
        replace H:=Option.bind_eq_some_iff.mp H
        obtain ⟨t184,A120,H⟩:=H
        replace H : (if t184 = true then (tachographref09_Name.l0 k2 a0 (wrap64 (x3_2 + 1))) else ((tachographref09_in.f (bt a0 x3_2) 97 122).bind fun t185 => (if t185 = true then (tachographref09_Name.l0 k2 a0 (wrap64 (x3_2 + 1))) else ((tachographref09_in.f (bt a0 x3_2) 48 57).bind fun t186 => (if t186 = true then (tachographref09_Name.l0 k2 a0 (wrap64 (x3_2 + 1))) else (if (bt a0 x3_2) = 95 then (tachographref09_Name.l0 k2 a0 (wrap64 (x3_2 + 1))) else (some false))))))) = some r:=H
        have A12:=Aside0.mk A120
        clear A120
        by_cases c13 : t184 = true
        ·subst c13
         have H1 : (tachographref09_Name.l0 k2 a0 (wrap64 (x3_2 + 1))) = some r:=by rw [if_pos rfl] at H;exact H
         clear H
         have H:=H1
         clear H1
         have H':=Aside0.mk H
         clear H
         have p11 : 0 ≤ (x3_2 : Int):=of_decide_eq_true (by first | (with_reducible assumption) | assumption)
         have q11 : x3_2 < (a0.size : Int):=of_decide_eq_true (by first | (with_reducible assumption) | assumption)
         have hx11:=bt_at a0 x3_2
         replace p11:=eq_true p11
         replace q11:=eq_true q11
         go_wp2_with (first | ((with_reducible refine gate_callee (f:=72) rfl ?_);refine goesL_ (some 25) rfl rfl Try.func72 (by kernel_rfl) rfl #[.int .u8 (bt a0 x3_2),.int .u8 65,.int .u8 90] rfl (by (try simp only [List.map_toArray,List.map_cons,List.map_nil]);first | done | rfl | (simp only [List.length_drop,List.length_take];rfl)) ?_;(with_reducible refine (tachographref09_in.calls (bt a0 x3_2) 65 90 true _ A12.out).mono ?_);rintro e w' ⟨rfl,⟨nd,rfl⟩⟩;refine ⟨_,rfl,?_⟩))
         go_roundg k2
         case measure => have:=HJ1.out;have:=HK2.out;omega
         case rel => exact ⟨(wrap64 (x3_2 + 1)),(by first | rfl | (simp;done) | (simp [*];done)),H',⟨by have:=HJ1.out;have:=HK2.out;omega⟩,by repeat (first | exact Drawn0.refl _ | apply Drawn0.step)⟩
        ·replace c13:=Bool.eq_false_iff.mpr c13
         subst c13
         have H1 : ((tachographref09_in.f (bt a0 x3_2) 97 122).bind fun t185 => (if t185 = true then (tachographref09_Name.l0 k2 a0 (wrap64 (x3_2 + 1))) else ((tachographref09_in.f (bt a0 x3_2) 48 57).bind fun t186 => (if t186 = true then (tachographref09_Name.l0 k2 a0 (wrap64 (x3_2 + 1))) else (if (bt a0 x3_2) = 95 then (tachographref09_Name.l0 k2 a0 (wrap64 (x3_2 + 1))) else (some false)))))) = some r:=by rw [if_neg (show ¬ (false = true) by decide)] at H;exact H
         clear H
         have H:=H1
         clear H1
         replace H:=Option.bind_eq_some_iff.mp H
         obtain ⟨t185,A150,H⟩:=H
         replace H : (if t185 = true then (tachographref09_Name.l0 k2 a0 (wrap64 (x3_2 + 1))) else ((tachographref09_in.f (bt a0 x3_2) 48 57).bind fun t186 => (if t186 = true then (tachographref09_Name.l0 k2 a0 (wrap64 (x3_2 + 1))) else (if (bt a0 x3_2) = 95 then (tachographref09_Name.l0 k2 a0 (wrap64 (x3_2 + 1))) else (some false))))) = some r:=H
         have A15:=Aside0.mk A150
         clear A150
         by_cases c16 : t185 = true
         ·subst c16
          have H1 : (tachographref09_Name.l0 k2 a0 (wrap64 (x3_2 + 1))) = some r:=by rw [if_pos rfl] at H;exact H
          clear H
          have H:=H1
          clear H1
          have H':=Aside0.mk H
          clear H
          have p11 : 0 ≤ (x3_2 : Int):=of_decide_eq_true (by first | (with_reducible assumption) | assumption)
          have q11 : x3_2 < (a0.size : Int):=of_decide_eq_true (by first | (with_reducible assumption) | assumption)
          have hx11:=bt_at a0 x3_2
          replace p11:=eq_true p11
          replace q11:=eq_true q11
          go_wp2_with (first | ((with_reducible refine gate_callee (f:=72) rfl ?_);refine goesL_ (some 25) rfl rfl Try.func72 (by kernel_rfl) rfl #[.int .u8 (bt a0 x3_2),.int .u8 65,.int .u8 90] rfl (by (try simp only [List.map_toArray,List.map_cons,List.map_nil]);first | done | rfl | (simp only [List.length_drop,List.length_take];rfl)) ?_;(with_reducible refine (tachographref09_in.calls (bt a0 x3_2) 65 90 false _ A12.out).mono ?_);rintro e w' ⟨rfl,⟨nd,rfl⟩⟩;refine ⟨_,rfl,?_⟩;have p14 : 0 ≤ (x3_2 : Int):=of_decide_eq_true (by first | (with_reducible assumption) | assumption);have q14 : x3_2 < (a0.size : Int):=of_decide_eq_true (by first | (with_reducible assumption) | assumption);have hx14:=bt_at a0 x3_2;replace p14:=eq_true p14;replace q14:=eq_true q14) | (go_at_call 72;(with_reducible refine (tachographref09_in.calls (bt a0 x3_2) 97 122 true _ A15.out).mono ?_);rintro e w' ⟨rfl,⟨nd,rfl⟩⟩))
          go_roundg k2
          case measure => have:=HJ1.out;have:=HK2.out;omega
          case rel => exact ⟨(wrap64 (x3_2 + 1)),(by first | rfl | (simp;done) | (simp [*];done)),H',⟨by have:=HJ1.out;have:=HK2.out;omega⟩,by repeat (first | exact Drawn0.refl _ | apply Drawn0.step)⟩
         ·replace c16:=Bool.eq_false_iff.mpr c16
          subst c16
          have H1 : ((tachographref09_in.f (bt a0 x3_2) 48 57).bind fun t186 => (if t186 = true then (tachographref09_Name.l0 k2 a0 (wrap64 (x3_2 + 1))) else (if (bt a0 x3_2) = 95 then (tachographref09_Name.l0 k2 a0 (wrap64 (x3_2 + 1))) else (some false)))) = some r:=by rw [if_neg (show ¬ (false = true) by decide)] at H;exact H
          clear H
          have H:=H1
          clear H1
          replace H:=Option.bind_eq_some_iff.mp H
          obtain ⟨t186,A180,H⟩:=H
          replace H : (if t186 = true then (tachographref09_Name.l0 k2 a0 (wrap64 (x3_2 + 1))) else (if (bt a0 x3_2) = 95 then (tachographref09_Name.l0 k2 a0 (wrap64 (x3_2 + 1))) else (some false))) = some r:=H
          have A18:=Aside0.mk A180
          clear A180
          by_cases c19 : t186 = true
          ·subst c19
           have H1 : (tachographref09_Name.l0 k2 a0 (wrap64 (x3_2 + 1))) = some r:=by rw [if_pos rfl] at H;exact H
           clear H
           have H:=H1
           clear H1
           have H':=Aside0.mk H
           clear H
           have p11 : 0 ≤ (x3_2 : Int):=of_decide_eq_true (by first | (with_reducible assumption) | assumption)
           have q11 : x3_2 < (a0.size : Int):=of_decide_eq_true (by first | (with_reducible assumption) | assumption)
           have hx11:=bt_at a0 x3_2
           replace p11:=eq_true p11
           replace q11:=eq_true q11
           go_wp2_with (first | ((with_reducible refine gate_callee (f:=72) rfl ?_);refine goesL_ (some 25) rfl rfl Try.func72 (by kernel_rfl) rfl #[.int .u8 (bt a0 x3_2),.int .u8 65,.int .u8 90] rfl (by (try simp only [List.map_toArray,List.map_cons,List.map_nil]);first | done | rfl | (simp only [List.length_drop,List.length_take];rfl)) ?_;(with_reducible refine (tachographref09_in.calls (bt a0 x3_2) 65 90 false _ A12.out).mono ?_);rintro e w' ⟨rfl,⟨nd,rfl⟩⟩;refine ⟨_,rfl,?_⟩;have p14 : 0 ≤ (x3_2 : Int):=of_decide_eq_true (by first | (with_reducible assumption) | assumption);have q14 : x3_2 < (a0.size : Int):=of_decide_eq_true (by first | (with_reducible assumption) | assumption);have hx14:=bt_at a0 x3_2;replace p14:=eq_true p14;replace q14:=eq_true q14) | (go_at_call 72;(with_reducible refine (tachographref09_in.calls (bt a0 x3_2) 97 122 false _ A15.out).mono ?_);rintro e w' ⟨rfl,⟨nd,rfl⟩⟩;have p17 : 0 ≤ (x3_2 : Int):=of_decide_eq_true (by first | (with_reducible assumption) | assumption);have q17 : x3_2 < (a0.size : Int):=of_decide_eq_true (by first | (with_reducible assumption) | assumption);have hx17:=bt_at a0 x3_2;replace p17:=eq_true p17;replace q17:=eq_true q17) | (go_at_call 72;(with_reducible refine (tachographref09_in.calls (bt a0 x3_2) 48 57 true _ A18.out).mono ?_);rintro e w' ⟨rfl,⟨nd,rfl⟩⟩))
           go_roundg k2
           case measure => have:=HJ1.out;have:=HK2.out;omega
           case rel => exact ⟨(wrap64 (x3_2 + 1)),(by first | rfl | (simp;done) | (simp [*];done)),H',⟨by have:=HJ1.out;have:=HK2.out;omega⟩,by repeat (first | exact Drawn0.refl _ | apply Drawn0.step)⟩
          ·replace c19:=Bool.eq_false_iff.mpr c19
           subst c19
           have H1 : (if (bt a0 x3_2) = 95 then (tachographref09_Name.l0 k2 a0 (wrap64 (x3_2 + 1))) else (some false)) = some r:=by rw [if_neg (show ¬ (false = true) by decide)] at H;exact H
           clear H
           have H:=H1
           clear H1
           by_cases c21 : (bt a0 x3_2) = 95
           ·rw [if_pos c21] at H
            have c21b0 : ((bt a0 x3_2) == 95) = true:=beq_iff_eq.mpr c21
            have c21b1 : ((bt a0 x3_2) != 95) = false:=bne_eq_false_iff_eq.mpr c21
            clear c21
            have H':=Aside0.mk H
            clear H
            have p11 : 0 ≤ (x3_2 : Int):=of_decide_eq_true (by first | (with_reducible assumption) | assumption)
            have q11 : x3_2 < (a0.size : Int):=of_decide_eq_true (by first | (with_reducible assumption) | assumption)
            have hx11:=bt_at a0 x3_2
            replace p11:=eq_true p11
            replace q11:=eq_true q11
            go_wp2_with (first | ((with_reducible refine gate_callee (f:=72) rfl ?_);refine goesL_ (some 25) rfl rfl Try.func72 (by kernel_rfl) rfl #[.int .u8 (bt a0 x3_2),.int .u8 65,.int .u8 90] rfl (by (try simp only [List.map_toArray,List.map_cons,List.map_nil]);first | done | rfl | (simp only [List.length_drop,List.length_take];rfl)) ?_;(with_reducible refine (tachographref09_in.calls (bt a0 x3_2) 65 90 false _ A12.out).mono ?_);rintro e w' ⟨rfl,⟨nd,rfl⟩⟩;refine ⟨_,rfl,?_⟩;have p14 : 0 ≤ (x3_2 : Int):=of_decide_eq_true (by first | (with_reducible assumption) | assumption);have q14 : x3_2 < (a0.size : Int):=of_decide_eq_true (by first | (with_reducible assumption) | assumption);have hx14:=bt_at a0 x3_2;replace p14:=eq_true p14;replace q14:=eq_true q14) | (go_at_call 72;(with_reducible refine (tachographref09_in.calls (bt a0 x3_2) 97 122 false _ A15.out).mono ?_);rintro e w' ⟨rfl,⟨nd,rfl⟩⟩;have p17 : 0 ≤ (x3_2 : Int):=of_decide_eq_true (by first | (with_reducible assumption) | assumption);have q17 : x3_2 < (a0.size : Int):=of_decide_eq_true (by first | (with_reducible assumption) | assumption);have hx17:=bt_at a0 x3_2;replace p17:=eq_true p17;replace q17:=eq_true q17) | (go_at_call 72;(with_reducible refine (tachographref09_in.calls (bt a0 x3_2) 48 57 false _ A18.out).mono ?_);rintro e w' ⟨rfl,⟨nd,rfl⟩⟩;have p20 : 0 ≤ (x3_2 : Int):=of_decide_eq_true (by first | (with_reducible assumption) | assumption);have q20 : x3_2 < (a0.size : Int):=of_decide_eq_true (by first | (with_reducible assumption) | assumption);have hx20:=bt_at a0 x3_2;replace p20:=eq_true p20;replace q20:=eq_true q20))
            go_roundg k2
            case measure => have:=HJ1.out;have:=HK2.out;omega
            case rel => exact ⟨(wrap64 (x3_2 + 1)),(by first | rfl | (simp;done) | (simp [*];done)),H',⟨by have:=HJ1.out;have:=HK2.out;omega⟩,by repeat (first | exact Drawn0.refl _ | apply Drawn0.step)⟩
           ·rw [if_neg c21] at H
            have c21b0 : ((bt a0 x3_2) == 95) = false:=beq_eq_false_iff_ne.mpr c21
            have c21b1 : ((bt a0 x3_2) != 95) = true:=bne_iff_ne.mpr c21
            obtain rfl:=Option.some.inj H
            have p11 : 0 ≤ (x3_2 : Int):=of_decide_eq_true (by first | (with_reducible assumption) | assumption)
            have q11 : x3_2 < (a0.size : Int):=of_decide_eq_true (by first | (with_reducible assumption) | assumption)
            have hx11:=bt_at a0 x3_2
            replace p11:=eq_true p11
            replace q11:=eq_true q11
            go_wp2_with (first | ((with_reducible refine gate_callee (f:=72) rfl ?_);refine goesL_ (some 25) rfl rfl Try.func72 (by kernel_rfl) rfl #[.int .u8 (bt a0 x3_2),.int .u8 65,.int .u8 90] rfl (by (try simp only [List.map_toArray,List.map_cons,List.map_nil]);first | done | rfl | (simp only [List.length_drop,List.length_take];rfl)) ?_;(with_reducible refine (tachographref09_in.calls (bt a0 x3_2) 65 90 false _ A12.out).mono ?_);rintro e w' ⟨rfl,⟨nd,rfl⟩⟩;refine ⟨_,rfl,?_⟩;have p14 : 0 ≤ (x3_2 : Int):=of_decide_eq_true (by first | (with_reducible assumption) | assumption);have q14 : x3_2 < (a0.size : Int):=of_decide_eq_true (by first | (with_reducible assumption) | assumption);have hx14:=bt_at a0 x3_2;replace p14:=eq_true p14;replace q14:=eq_true q14) | (go_at_call 72;(with_reducible refine (tachographref09_in.calls (bt a0 x3_2) 97 122 false _ A15.out).mono ?_);rintro e w' ⟨rfl,⟨nd,rfl⟩⟩;have p17 : 0 ≤ (x3_2 : Int):=of_decide_eq_true (by first | (with_reducible assumption) | assumption);have q17 : x3_2 < (a0.size : Int):=of_decide_eq_true (by first | (with_reducible assumption) | assumption);have hx17:=bt_at a0 x3_2;replace p17:=eq_true p17;replace q17:=eq_true q17) | (go_at_call 72;(with_reducible refine (tachographref09_in.calls (bt a0 x3_2) 48 57 false _ A18.out).mono ?_);rintro e w' ⟨rfl,⟨nd,rfl⟩⟩;have p20 : 0 ≤ (x3_2 : Int):=of_decide_eq_true (by first | (with_reducible assumption) | assumption);have q20 : x3_2 < (a0.size : Int):=of_decide_eq_true (by first | (with_reducible assumption) | assumption);have hx20:=bt_at a0 x3_2;replace p20:=eq_true p20;replace q20:=eq_true q20))
            go_ret
            exact ⟨by first | rfl | (simp;done) | (simp [*];done),by repeat (first | exact Drawn0.refl _ | apply Drawn0.step)⟩
       ·rw [if_neg c10] at H
        exact absurd H (by simp)
      ·rw [if_neg c9] at H
       have c9b0 : decide (x3_2 < (a0.size : Int)) = false:=decide_eq_false c9
       clear c9
       obtain rfl:=Option.some.inj H
       go_wp2
       go_ret
       exact ⟨by first | rfl | (simp;done) | (simp [*];done),by repeat (first | exact Drawn0.refl _ | apply Drawn0.step)⟩

/-! ### tachographref21_is: function 53 -/
def tachographref21_is.f (k : Nat) (a0 : Int) (a1 : Bool) : Option (Bool) := if a1 = true then (if a0 ≥ 48 then (some (decide (a0 ≤ 57))) else (some false)) else ((some (([a0] : List Int) : List Int)).bind fun y187 => (if 1 + (strOfNums y187).size ≤ 9223372036854775807 then ((tachographref09_Name.f k ((⟨#[97]⟩ : ByteArray) ++ (strOfNums y187))).bind fun t190 => (some t190)) else (none)))
theorem tachographref21_is.mono : ∀ a0 a1 k, LeO (tachographref21_is.f k a0 a1) (tachographref21_is.f (k + 1) a0 a1) := by
 intro a0 a1 k
 unfold tachographref21_is.f
 repeat' first
   | (with_reducible exact tachographref09_Name.mono _ _)
   | (with_reducible exact LeO.refl _)
   | (with_reducible exact LeO.none _)
   | (with_reducible refine LeO.ite ?_ ?_)
   | (with_reducible refine LeO.bind ?_ (fun _ => ?_))
   | exact tachographref09_Name.mono _ _
   | exact LeO.none _
   | refine LeO.ite ?_ ?_
   | refine LeO.bind ?_ (fun _ => ?_)
set_option maxHeartbeats 8000000 in
set_option maxRecDepth 100000 in
theorem tachographref21_is.calls (k : Nat) (a0 : Int) (a1 : Bool) (r : Bool) (w : World) (h : tachographref21_is.f k a0 a1 = some r) :
  Calls Try.prog 53 #[.int .u8 a0,.bool a1] w fun e w' => e = .returned (.bool r) ∧ Below w.heap.size w w':=by
 have HB:=Aside0.mk (Below.refl w.heap.size w)
 have H : (if a1 = true then (if a0 ≥ 48 then (some (decide (a0 ≤ 57))) else (some false)) else ((some (([a0] : List Int) : List Int)).bind fun y187 => (if 1 + (strOfNums y187).size ≤ 9223372036854775807 then ((tachographref09_Name.f k ((⟨#[97]⟩ : ByteArray) ++ (strOfNums y187))).bind fun t190 => (some t190)) else (none)))) = some r:=h
 clear h
 by_cases c3 : a1 = true
 ·subst c3
  have H1 : (if a0 ≥ 48 then (some (decide (a0 ≤ 57))) else (some false)) = some r:=by rw [if_pos rfl] at H;exact H
  clear H
  have H:=H1
  clear H1
  by_cases c4 : a0 ≥ 48
  ·rw [if_pos c4] at H
   have c4b0 : decide (48 ≤ a0) = true:=decide_eq_true c4
   clear c4
   obtain rfl:=Option.some.inj H
   go_enter Try.func53,Try.ntmps53
   go_wp2
   go_ret
   exact ⟨by first | rfl | (simp [errW_none,errW_some] <;> rfl) | (simp [*,errW_none,errW_some] <;> rfl),by repeat (first | (with_reducible first | exact HB.out | apply below_alloc | apply pw_below_drewN | apply below_drew1) | exact HB.out)⟩
  ·rw [if_neg c4] at H
   have c4b0 : decide (48 ≤ a0) = false:=decide_eq_false c4
   clear c4
   obtain rfl:=Option.some.inj H
   go_enter Try.func53,Try.ntmps53
   go_wp2
   go_ret
   exact ⟨by first | rfl | (simp [errW_none,errW_some] <;> rfl) | (simp [*,errW_none,errW_some] <;> rfl),by repeat (first | (with_reducible first | exact HB.out | apply below_alloc | apply pw_below_drewN | apply below_drew1) | exact HB.out)⟩
 ·replace c3:=Bool.eq_false_iff.mpr c3
  subst c3
  have H1 : ((some (([a0] : List Int) : List Int)).bind fun y187 => (if 1 + (strOfNums y187).size ≤ 9223372036854775807 then ((tachographref09_Name.f k ((⟨#[97]⟩ : ByteArray) ++ (strOfNums y187))).bind fun t190 => (some t190)) else (none))) = some r:=by rw [if_neg (show ¬ (false = true) by decide)] at H;exact H
  clear H
  have H:=H1
  clear H1
  obtain ⟨y187,hy187⟩ : ∃ y_ : List Int,y_ = (([a0] : List Int)):=⟨_,rfl⟩
  replace H : (if 1 + (strOfNums y187).size ≤ 9223372036854775807 then ((tachographref09_Name.f k ((⟨#[97]⟩ : ByteArray) ++ (strOfNums y187))).bind fun t190 => (some t190)) else (none)) = some r:=by first | (rw [hy187];with_reducible exact H) | (have H2_:=(Option.bind_some _ _).symm.trans H;rw [hy187];with_reducible exact H2_) | (have H2_:=(Option.bind_some _ _).symm.trans H;with_reducible exact H2_) | with_reducible exact H | (rw [hy187];exact H) | exact H
  have Ny187:=Aside0.mk hy187
  clear hy187
  by_cases c5 : 1 + (strOfNums y187).size ≤ 9223372036854775807
  ·rw [if_pos c5] at H
   have c5b0:=eq_true c5
   have c5b1 : decide (1 + (strOfNums y187).size ≤ 9223372036854775807) = true:=decide_eq_true c5
   try have c5b2 : (9223372036854775807 < 1 + (strOfNums y187).size) = False:=eq_false (Nat.not_lt.2 c5)
   replace H:=Option.bind_eq_some_iff.mp H
   obtain ⟨t190,A60,H⟩:=H
   replace H : (some t190) = some r:=H
   have A6:=Aside0.mk A60
   clear A60
   obtain rfl:=Option.some.inj H
   go_enter Try.func53,Try.ntmps53
   go_wp2_with (first | ((with_reducible refine gate_dst (N:=13) rfl ?_);refine Kd.R_lit (Kd.int .u8) _ 5 ?hg (N:=13) ?hd (xs:=([a0] : List Int)) (inner:=[.int .u8 a0]) (ok:=fun _ => True) (okp:=fun _ => True) ?hr ?hp (fun _ hk => hk) trivial (Below.refl _ _) (Nat.le_refl _) (by simp) ?_;(case hd => rfl);(case hg => rfl);(case hr => first | (go_simp;done) | (go_simp;rfl));(case hp => exact (Reps.one (show Kd.M (Kd.int .u8) _ _ _ a0 [.int .u8 a0] from rfl) (Reps.none _ _)));intro v188 w7 ho8 hb hg_ hnew_;clear hg_ hnew_;(first | rw [← Ny187.out] at ho8 | (simp only [Int.reduceToNat] at ho8;rw [← Ny187.out] at ho8));have n0_:=Aside0.mk (Kd.R_lower ho8 (below_size (by repeat (first | (with_reducible first | exact HB.out | apply below_alloc | apply pw_below_drewN | apply below_drew1) | exact HB.out))));have n1_:=Aside0.mk (below_step (by repeat (first | (with_reducible first | exact HB.out | apply below_alloc | apply pw_below_drewN | apply below_drew1) | exact HB.out)) hb);clear HB;have HO189:=n0_;have HB:=n1_;clear n0_ n1_;clear hb ho8;have hcv9:=own_string (P:=Try.prog) Try.underlying49 Try.underlying5 Try.underlying9 (Kd.own_of_R HO189.out)) | ((with_reducible refine gate_callee (f:=68) rfl ?_);refine goesL_ (some 16) rfl rfl Try.func68 (by kernel_rfl) rfl #[.string ((⟨#[97]⟩ : ByteArray) ++ (strOfNums y187))] rfl (by (try simp only [List.map_toArray,List.map_cons,List.map_nil]);first | done | rfl | (simp only [List.length_drop,List.length_take];rfl)) ?_;(with_reducible refine (tachographref09_Name.calls k ((⟨#[97]⟩ : ByteArray) ++ (strOfNums y187)) t190 _ A6.out).mono ?_);rintro e w' ⟨rfl,⟨nd,rfl⟩⟩;refine ⟨_,rfl,?_⟩))
   go_ret
   exact ⟨by first | rfl | (simp [errW_none,errW_some] <;> rfl) | (simp [*,errW_none,errW_some] <;> rfl),by repeat (first | (with_reducible first | exact HB.out | apply below_alloc | apply pw_below_drewN | apply below_drew1) | exact HB.out)⟩
  ·rw [if_neg c5] at H
   exact absurd H (by simp)

/-! ### tachographref21_run: function 54 -/
def tachographref21_run.l0 : Nat → ByteArray → Int → Bool → Option (Int)
 | 0, _, _, _ => none
 | k + 1, x0, x1, x2 => if x1 < (x0.size : Int) then (if 0 ≤ x1 then ((tachographref21_is.f k (bt x0 x1) x2).bind fun t191 => (if t191 = true then (tachographref21_run.l0 k x0 (wrap64 (x1 + 1)) x2) else (some x1))) else (none)) else (some x1)
def tachographref21_run.f (k : Nat) (a0 : ByteArray) (a1 : Int) (a2 : Bool) : Option (Int) := tachographref21_run.l0 k a0 a1 a2
theorem tachographref21_run.mono_l : ∀ k, (∀ y0 y1 y2, LeO (tachographref21_run.l0 k y0 y1 y2) (tachographref21_run.l0 (k + 1) y0 y1 y2))
 | 0 => fun _ _ _ r h => by simp [tachographref21_run.l0] at h
 | k + 1 => by
  have ih0 := tachographref21_run.mono_l k
  ·intro y0 y1 y2
   unfold tachographref21_run.l0
   repeat' first
   | (with_reducible exact ih0 _ _ _)
   | (with_reducible exact tachographref21_is.mono _ _ _)
   | (with_reducible exact LeO.refl _)
   | (with_reducible exact LeO.none _)
   | (with_reducible refine LeO.ite ?_ ?_)
   | (with_reducible refine LeO.bind ?_ (fun _ => ?_))
   | exact ih0 _ _ _
   | exact tachographref21_is.mono _ _ _
   | exact LeO.none _
   | refine LeO.ite ?_ ?_
   | refine LeO.bind ?_ (fun _ => ?_)
theorem tachographref21_run.mono : ∀ a0 a1 a2 k, LeO (tachographref21_run.f k a0 a1 a2) (tachographref21_run.f (k + 1) a0 a1 a2) := by
 intro a0 a1 a2 k
 have ih0 := tachographref21_run.mono_l k
 unfold tachographref21_run.f
 repeat' first
   | (with_reducible exact ih0 _ _ _)
   | (with_reducible exact tachographref21_is.mono _ _ _)
   | (with_reducible exact LeO.refl _)
   | (with_reducible exact LeO.none _)
   | (with_reducible refine LeO.ite ?_ ?_)
   | (with_reducible refine LeO.bind ?_ (fun _ => ?_))
   | exact ih0 _ _ _
   | exact tachographref21_is.mono _ _ _
   | exact LeO.none _
   | refine LeO.ite ?_ ?_
   | refine LeO.bind ?_ (fun _ => ?_)
set_option maxHeartbeats 8000000 in
set_option maxRecDepth 100000 in
theorem tachographref21_run.calls (k : Nat) (a0 : ByteArray) (a1 : Int) (a2 : Bool) (r : Int) (w : World) (h : tachographref21_run.f k a0 a1 a2 = some r) :
  Calls Try.prog 54 #[.string a0,.int .i64 a1,.bool a2] w fun e w' => e = .returned (.int .i64 r) ∧ Below w.heap.size w w':=by
 have HB:=Aside0.mk (Below.refl w.heap.size w)
 have H : (tachographref21_run.l0 k a0 a1 a2) = some r:=h
 clear h
 have H':=Aside0.mk H
 clear H
 go_enter Try.func54,Try.ntmps54
 go_wp2
 go_loopg [1] k (fun kq v1 w' => ∃ (x1_1 : Int),v1 = .int .i64 x1_1 ∧ Aside0 (tachographref21_run.l0 kq a0 x1_1 a2 = some r) ∧ Aside0 (kq ≤ k) ∧ Aside0 (Below w.heap.size w w'))
 case atStart => exact ⟨(a1),(by first | rfl | (simp;done) | (simp [*];done)),H',⟨Nat.le_refl _⟩,⟨by repeat (first | (with_reducible first | exact HB.out | apply below_alloc | apply pw_below_drewN | apply below_drew1) | exact HB.out)⟩⟩
 case round =>
  clear H'
  try clear p2
  obtain ⟨x1_1,rfl,HA,HK1,HB⟩:=hrel
  cases gk with
  | zero => exact absurd HA.out (by simp [tachographref21_run.l0])
  | succ k1 =>
   have H:=HA.out
   clear HA
   simp only [tachographref21_run.l0] at H
   by_cases c4 : x1_1 < (a0.size : Int)
   ·rw [if_pos c4] at H
    have c4b0 : decide (x1_1 < (a0.size : Int)) = true:=decide_eq_true c4
    clear c4
    by_cases c5 : 0 ≤ x1_1
    ·rw [if_pos c5] at H
     have c5b0 : decide (0 ≤ x1_1) = true:=decide_eq_true c5
     clear c5
     replace H:=Option.bind_eq_some_iff.mp H
     obtain ⟨t191,A70,H⟩:=H
     replace H : (if t191 = true then (tachographref21_run.l0 k1 a0 (wrap64 (x1_1 + 1)) a2) else (some x1_1)) = some r:=H
     have A7:=Aside0.mk A70
     clear A70
     by_cases c8 : t191 = true
     ·subst c8
      have H1 : (tachographref21_run.l0 k1 a0 (wrap64 (x1_1 + 1)) a2) = some r:=by rw [if_pos rfl] at H;exact H
      clear H
      have H:=H1
      clear H1
      have H':=Aside0.mk H
      clear H
      have p6 : 0 ≤ (x1_1 : Int):=of_decide_eq_true (by first | (with_reducible assumption) | assumption)
      have q6 : x1_1 < (a0.size : Int):=of_decide_eq_true (by first | (with_reducible assumption) | assumption)
      have hx6:=bt_at a0 x1_1
      replace p6:=eq_true p6
      replace q6:=eq_true q6
      go_wp2_with (first | (go_at_call 53;(with_reducible refine (tachographref21_is.calls k1 (bt a0 x1_1) a2 true _ A7.out).mono ?_);rintro e w9 ⟨rfl,hb⟩;have n0_:=Aside0.mk (below_step (by repeat (first | (with_reducible first | exact HB.out | apply below_alloc | apply pw_below_drewN | apply below_drew1) | exact HB.out)) hb);clear HB;have HB:=n0_;clear n0_;(try clear hb);(try clear hb2);(try clear hk);(try clear hi)))
      go_roundg k1
      case measure => have:=HK1.out;omega
      case rel => exact ⟨(wrap64 (x1_1 + 1)),(by first | rfl | (simp;done) | (simp [*];done)),H',⟨by have:=HK1.out;omega⟩,⟨by repeat (first | (with_reducible first | exact HB.out | apply below_alloc | apply pw_below_drewN | apply below_drew1) | exact HB.out)⟩⟩
     ·replace c8:=Bool.eq_false_iff.mpr c8
      subst c8
      have H1 : (some x1_1) = some r:=by rw [if_neg (show ¬ (false = true) by decide)] at H;exact H
      clear H
      have H:=H1
      clear H1
      obtain rfl:=Option.some.inj H
      have p6 : 0 ≤ (x1_1 : Int):=of_decide_eq_true (by first | (with_reducible assumption) | assumption)
      have q6 : x1_1 < (a0.size : Int):=of_decide_eq_true (by first | (with_reducible assumption) | assumption)
      have hx6:=bt_at a0 x1_1
      replace p6:=eq_true p6
      replace q6:=eq_true q6
      go_wp2_with (first | (go_at_call 53;(with_reducible refine (tachographref21_is.calls k1 (bt a0 x1_1) a2 false _ A7.out).mono ?_);rintro e w10 ⟨rfl,hb⟩;have n0_:=Aside0.mk (below_step (by repeat (first | (with_reducible first | exact HB.out | apply below_alloc | apply pw_below_drewN | apply below_drew1) | exact HB.out)) hb);clear HB;have HB:=n0_;clear n0_;(try clear hb);(try clear hb2);(try clear hk);(try clear hi)))
      go_ret
      exact ⟨by first | rfl | (simp [errW_none,errW_some] <;> rfl) | (simp [*,errW_none,errW_some] <;> rfl),by repeat (first | (with_reducible first | exact HB.out | apply below_alloc | apply pw_below_drewN | apply below_drew1) | exact HB.out)⟩
    ·rw [if_neg c5] at H
     exact absurd H (by simp)
   ·rw [if_neg c4] at H
    have c4b0 : decide (x1_1 < (a0.size : Int)) = false:=decide_eq_false c4
    clear c4
    obtain rfl:=Option.some.inj H
    go_wp2
    go_ret
    exact ⟨by first | rfl | (simp [errW_none,errW_some] <;> rfl) | (simp [*,errW_none,errW_some] <;> rfl),by repeat (first | (with_reducible first | exact HB.out | apply below_alloc | apply pw_below_drewN | apply below_drew1) | exact HB.out)⟩

/-! ### tachographref21_next: function 39 -/
def tachographref21_next.j0 : Nat → ByteArray → Int → Int → Bool → Option (Int × Int × Int)
 | 0, _, _, _, _ => none
 | k + 1, x0, x1, x7, x26 => if x26 = true then ((tachographref21_run.f k x0 x1 false).bind fun t195 => (some (5, t195, 0))) else (if x7 = 45 then ((tachographref21_run.f k x0 (wrap64 (x1 + 1)) true).bind fun t196 => (if t196 > (wrap64 (x1 + 1)) then (some (6, t196, 0)) else (some (0, x1, 4)))) else ((tachographref21_run.f k x0 x1 true).bind fun t197 => (if t197 > x1 then (some (6, t197, 0)) else (some (0, x1, 4)))))
def tachographref21_next.f (k : Nat) (a0 : ByteArray) (a1 : Int) : Option (Int × Int × Int) := if 0 ≤ a1 then (if a1 < (a0.size : Int) then ((tachographref21_sign.f k (bt a0 a1)).bind fun t192 => (if t192 > 0 then (some (t192, wrap64 (a1 + 1), 0)) else ((tachographref21_is.f k (bt a0 a1) false).bind fun t193 => (if t193 = true then ((tachographref21_is.f k (bt a0 a1) true).bind fun t194 => (tachographref21_next.j0 k a0 a1 (bt a0 a1) (!t194))) else (tachographref21_next.j0 k a0 a1 (bt a0 a1) false))))) else (none)) else (none)
theorem tachographref21_next.mono_l : ∀ k, (∀ y0 y1 y2 y3, LeO (tachographref21_next.j0 k y0 y1 y2 y3) (tachographref21_next.j0 (k + 1) y0 y1 y2 y3))
 | 0 => fun _ _ _ _ r h => by simp [tachographref21_next.j0] at h
 | k + 1 => by
  have ih0 := tachographref21_next.mono_l k
  ·intro y0 y1 y2 y3
   unfold tachographref21_next.j0
   repeat' first
   | (with_reducible exact ih0 _ _ _ _)
   | (with_reducible exact tachographref21_is.mono _ _ _)
   | (with_reducible exact tachographref21_run.mono _ _ _ _)
   | (with_reducible exact tachographref21_sign.mono _ _)
   | (with_reducible exact LeO.refl _)
   | (with_reducible exact LeO.none _)
   | (with_reducible refine LeO.ite ?_ ?_)
   | (with_reducible refine LeO.bind ?_ (fun _ => ?_))
   | exact ih0 _ _ _ _
   | exact tachographref21_is.mono _ _ _
   | exact tachographref21_run.mono _ _ _ _
   | exact tachographref21_sign.mono _ _
   | exact LeO.none _
   | refine LeO.ite ?_ ?_
   | refine LeO.bind ?_ (fun _ => ?_)
theorem tachographref21_next.mono : ∀ a0 a1 k, LeO (tachographref21_next.f k a0 a1) (tachographref21_next.f (k + 1) a0 a1) := by
 intro a0 a1 k
 have ih0 := tachographref21_next.mono_l k
 unfold tachographref21_next.f
 repeat' first
   | (with_reducible exact ih0 _ _ _ _)
   | (with_reducible exact tachographref21_is.mono _ _ _)
   | (with_reducible exact tachographref21_run.mono _ _ _ _)
   | (with_reducible exact tachographref21_sign.mono _ _)
   | (with_reducible exact LeO.refl _)
   | (with_reducible exact LeO.none _)
   | (with_reducible refine LeO.ite ?_ ?_)
   | (with_reducible refine LeO.bind ?_ (fun _ => ?_))
   | exact ih0 _ _ _ _
   | exact tachographref21_is.mono _ _ _
   | exact tachographref21_run.mono _ _ _ _
   | exact tachographref21_sign.mono _ _
   | exact LeO.none _
   | refine LeO.ite ?_ ?_
   | refine LeO.bind ?_ (fun _ => ?_)
set_option maxHeartbeats 8000000 in
set_option maxRecDepth 100000 in
theorem tachographref21_next.calls (k : Nat) (a0 : ByteArray) (a1 : Int) (r1 : Int) (r2 : Int) (r3 : Int) (w : World) (h : tachographref21_next.f k a0 a1 = some (r1,r2,r3)) :
  Calls Try.prog 39 #[.string a0,.int .i64 a1] w fun e w' => e = .returned (.tuple #[.int .i64 r1,.int .i64 r2,.int .i64 r3]) ∧ Below w.heap.size w w':=by
 have HB:=Aside0.mk (Below.refl w.heap.size w)
 have H : (if 0 ≤ a1 then (if a1 < (a0.size : Int) then ((tachographref21_sign.f k (bt a0 a1)).bind fun t192 => (if t192 > 0 then (some (t192,wrap64 (a1 + 1),0)) else ((tachographref21_is.f k (bt a0 a1) false).bind fun t193 => (if t193 = true then ((tachographref21_is.f k (bt a0 a1) true).bind fun t194 => (tachographref21_next.j0 k a0 a1 (bt a0 a1) (!t194))) else (tachographref21_next.j0 k a0 a1 (bt a0 a1) false))))) else (none)) else (none)) = some (r1,r2,r3):=h
 clear h
 by_cases c3 : 0 ≤ a1
 ·rw [if_pos c3] at H
  have c3b0 : decide (0 ≤ a1) = true:=decide_eq_true c3
  clear c3
  by_cases c4 : a1 < (a0.size : Int)
  ·rw [if_pos c4] at H
   have c4b0 : decide (a1 < (a0.size : Int)) = true:=decide_eq_true c4
   clear c4
   replace H:=Option.bind_eq_some_iff.mp H
   obtain ⟨t192,A60,H⟩:=H
   replace H : (if t192 > 0 then (some (t192,wrap64 (a1 + 1),0)) else ((tachographref21_is.f k (bt a0 a1) false).bind fun t193 => (if t193 = true then ((tachographref21_is.f k (bt a0 a1) true).bind fun t194 => (tachographref21_next.j0 k a0 a1 (bt a0 a1) (!t194))) else (tachographref21_next.j0 k a0 a1 (bt a0 a1) false)))) = some (r1,r2,r3):=H
   have A6:=Aside0.mk A60
   clear A60
   by_cases c7 : t192 > 0
   ·rw [if_pos c7] at H
    have c7b0 : decide (0 < t192) = true:=decide_eq_true c7
    clear c7
    simp only [Option.some.injEq,Prod.mk.injEq] at H
    obtain ⟨rfl,rfl,rfl⟩:=H
    have p5 : 0 ≤ (a1 : Int):=of_decide_eq_true (by first | (with_reducible assumption) | assumption)
    have q5 : a1 < (a0.size : Int):=of_decide_eq_true (by first | (with_reducible assumption) | assumption)
    have hx5:=bt_at a0 a1
    replace p5:=eq_true p5
    replace q5:=eq_true q5
    go_enter Try.func39,Try.ntmps39
    go_wp2_with (first | ((with_reducible refine gate_callee (f:=52) rfl ?_);refine goesL_ (some 14) rfl rfl Try.func52 (by kernel_rfl) rfl #[.int .u8 (bt a0 a1)] rfl (by (try simp only [List.map_toArray,List.map_cons,List.map_nil]);first | done | rfl | (simp only [List.length_drop,List.length_take];rfl)) ?_;(with_reducible refine (tachographref21_sign.calls k (bt a0 a1) t192 _ A6.out).mono ?_);rintro e w' ⟨rfl,⟨nd,rfl⟩⟩;refine ⟨_,rfl,?_⟩) | ((with_reducible refine gate_callee (f:=52) rfl ?_);refine goesL_ (some 17) rfl rfl Try.func52 (by kernel_rfl) rfl #[.int .u8 (bt a0 a1)] rfl (by (try simp only [List.map_toArray,List.map_cons,List.map_nil]);first | done | rfl | (simp only [List.length_drop,List.length_take];rfl)) ?_;(with_reducible refine (tachographref21_sign.calls k (bt a0 a1) t192 _ A6.out).mono ?_);rintro e w' ⟨rfl,⟨nd,rfl⟩⟩;refine ⟨_,rfl,?_⟩))
    go_ret3
    exact ⟨by first | rfl | (simp [errW_none,errW_some] <;> rfl) | (simp [*,errW_none,errW_some] <;> rfl),by repeat (first | (with_reducible first | exact HB.out | apply below_alloc | apply pw_below_drewN | apply below_drew1) | exact HB.out)⟩
   ·rw [if_neg c7] at H
    have c7b0 : decide (0 < t192) = false:=decide_eq_false c7
    clear c7
    have HC8:=Aside0.mk H
    clear H
    have p5 : 0 ≤ (a1 : Int):=of_decide_eq_true (by first | (with_reducible assumption) | assumption)
    have q5 : a1 < (a0.size : Int):=of_decide_eq_true (by first | (with_reducible assumption) | assumption)
    have hx5:=bt_at a0 a1
    replace p5:=eq_true p5
    replace q5:=eq_true q5
    go_enter Try.func39,Try.ntmps39
    go_upto_region 4 with (first | ((with_reducible refine gate_callee (f:=52) rfl ?_);refine goesL_ (some 14) rfl rfl Try.func52 (by kernel_rfl) rfl #[.int .u8 (bt a0 a1)] rfl (by (try simp only [List.map_toArray,List.map_cons,List.map_nil]);first | done | rfl | (simp only [List.length_drop,List.length_take];rfl)) ?_;(with_reducible refine (tachographref21_sign.calls k (bt a0 a1) t192 _ A6.out).mono ?_);rintro e w' ⟨rfl,⟨nd,rfl⟩⟩;refine ⟨_,rfl,?_⟩) | ((with_reducible refine gate_callee (f:=52) rfl ?_);refine goesL_ (some 17) rfl rfl Try.func52 (by kernel_rfl) rfl #[.int .u8 (bt a0 a1)] rfl (by (try simp only [List.map_toArray,List.map_cons,List.map_nil]);first | done | rfl | (simp only [List.length_drop,List.length_take];rfl)) ?_;(with_reducible refine (tachographref21_sign.calls k (bt a0 a1) t192 _ A6.out).mono ?_);rintro e w' ⟨rfl,⟨nd,rfl⟩⟩;refine ⟨_,rfl,?_⟩))
    (try simp only [Act.put,List.setIfInBounds_toArray,List.set_cons_zero,List.set_cons_succ])
    go_cut [26] (fun v26 wc => ∃ (kq : Nat) (x26_7 : Bool),v26 = .bool x26_7 ∧ Aside0 (tachographref21_next.j0 kq a0 a1 (bt a0 a1) x26_7 = some (r1,r2,r3)) ∧ Aside0 (kq ≤ k) ∧ Aside0 (Below w.heap.size w wc))
    case first =>
     have H:=HC8.out
     clear HC8
     replace H:=Option.bind_eq_some_iff.mp H
     obtain ⟨t193,A90,H⟩:=H
     replace H : (if t193 = true then ((tachographref21_is.f k (bt a0 a1) true).bind fun t194 => (tachographref21_next.j0 k a0 a1 (bt a0 a1) (!t194))) else (tachographref21_next.j0 k a0 a1 (bt a0 a1) false)) = some (r1,r2,r3):=H
     have A9:=Aside0.mk A90
     clear A90
     by_cases c10 : t193 = true
     ·subst c10
      have H1 : ((tachographref21_is.f k (bt a0 a1) true).bind fun t194 => (tachographref21_next.j0 k a0 a1 (bt a0 a1) (!t194))) = some (r1,r2,r3):=by rw [if_pos rfl] at H;exact H
      clear H
      have H:=H1
      clear H1
      replace H:=Option.bind_eq_some_iff.mp H
      obtain ⟨t194,A110,H⟩:=H
      replace H : (tachographref21_next.j0 k a0 a1 (bt a0 a1) (!t194)) = some (r1,r2,r3):=H
      have A11:=Aside0.mk A110
      clear A110
      have H':=Aside0.mk H
      clear H
      go_wp2_with (first | ((with_reducible refine gate_callee (f:=53) rfl ?_);refine goesL_ (some 21) rfl rfl Try.func53 (by kernel_rfl) rfl #[.int .u8 (bt a0 a1),.bool false] rfl (by (try simp only [List.map_toArray,List.map_cons,List.map_nil]);first | done | rfl | (simp only [List.length_drop,List.length_take];rfl)) ?_;(with_reducible refine (tachographref21_is.calls k (bt a0 a1) false true _ A9.out).mono ?_);rintro e w12 ⟨rfl,hb⟩;refine ⟨_,rfl,?_⟩;have n0_:=Aside0.mk (below_step (by repeat (first | (with_reducible first | exact HB.out | apply below_alloc | apply pw_below_drewN | apply below_drew1) | exact HB.out)) hb);clear HB;have HB:=n0_;clear n0_;(try clear hb);(try clear hb2);(try clear hk);(try clear hi)) | (go_at_call 53;(with_reducible refine (tachographref21_is.calls k (bt a0 a1) true t194 _ A11.out).mono ?_);rintro e w13 ⟨rfl,hb⟩;have n0_:=Aside0.mk (below_step (by repeat (first | (with_reducible first | exact HB.out | apply below_alloc | apply pw_below_drewN | apply below_drew1) | exact HB.out)) hb);clear HB;have HB:=n0_;clear n0_;(try clear hb);(try clear hb2);(try clear hk);(try clear hi)))
      go_meet
      case rel => exact ⟨_,(!t194),(by first | rfl | (simp;done) | (simp [*];done)),H',⟨by first | omega | exact Nat.le_refl _⟩,⟨by repeat (first | (with_reducible first | exact HB.out | apply below_alloc | apply pw_below_drewN | apply below_drew1) | exact HB.out)⟩⟩
     ·replace c10:=Bool.eq_false_iff.mpr c10
      subst c10
      have H1 : (tachographref21_next.j0 k a0 a1 (bt a0 a1) false) = some (r1,r2,r3):=by rw [if_neg (show ¬ (false = true) by decide)] at H;exact H
      clear H
      have H:=H1
      clear H1
      have H':=Aside0.mk H
      clear H
      go_wp2_with (first | ((with_reducible refine gate_callee (f:=53) rfl ?_);refine goesL_ (some 21) rfl rfl Try.func53 (by kernel_rfl) rfl #[.int .u8 (bt a0 a1),.bool false] rfl (by (try simp only [List.map_toArray,List.map_cons,List.map_nil]);first | done | rfl | (simp only [List.length_drop,List.length_take];rfl)) ?_;(with_reducible refine (tachographref21_is.calls k (bt a0 a1) false false _ A9.out).mono ?_);rintro e w14 ⟨rfl,hb⟩;refine ⟨_,rfl,?_⟩;have n0_:=Aside0.mk (below_step (by repeat (first | (with_reducible first | exact HB.out | apply below_alloc | apply pw_below_drewN | apply below_drew1) | exact HB.out)) hb);clear HB;have HB:=n0_;clear n0_;(try clear hb);(try clear hb2);(try clear hk);(try clear hi)))
      go_meet
      case rel => exact ⟨_,(false),(by first | rfl | (simp;done) | (simp [*];done)),H',⟨by first | omega | exact Nat.le_refl _⟩,⟨by repeat (first | (with_reducible first | exact HB.out | apply below_alloc | apply pw_below_drewN | apply below_drew1) | exact HB.out)⟩⟩
    case rest =>
     clear HC8
     try clear c1
     try clear p2
     try clear c3
     try clear c3b0
     try clear c4
     try clear c4b0
     try clear c5
     try clear p5
     try clear q5
     try clear hx5
     try clear p6
     try clear c7
     try clear c7b0
     try clear c10
     try clear p5
     try clear q5
     obtain ⟨kq,x26_7,rfl,HA,HJ7,HB⟩:=hcut
     cases kq with
     | zero => exact absurd HA.out (by simp [tachographref21_next.j0])
     | succ kj7 =>
      have H:=HA.out
      clear HA
      simp only [tachographref21_next.j0] at H
      by_cases c15 : x26_7 = true
      ·subst c15
       have H1 : ((tachographref21_run.f kj7 a0 a1 false).bind fun t195 => (some (5,t195,0))) = some (r1,r2,r3):=by rw [if_pos rfl] at H;exact H
       clear H
       have H:=H1
       clear H1
       replace H:=Option.bind_eq_some_iff.mp H
       obtain ⟨t195,A160,H⟩:=H
       replace H : (some (5,t195,0)) = some (r1,r2,r3):=H
       have A16:=Aside0.mk A160
       clear A160
       simp only [Option.some.injEq,Prod.mk.injEq] at H
       obtain ⟨rfl,rfl,rfl⟩:=H
       go_wp2_with (first | ((with_reducible refine gate_callee (f:=54) rfl ?_);refine goesL_ (some 29) rfl rfl Try.func54 (by kernel_rfl) rfl #[.string a0,.int .i64 a1,.bool false] rfl (by (try simp only [List.map_toArray,List.map_cons,List.map_nil]);first | done | rfl | (simp only [List.length_drop,List.length_take];rfl)) ?_;(with_reducible refine (tachographref21_run.calls kj7 a0 a1 false t195 _ A16.out).mono ?_);rintro e w17 ⟨rfl,hb⟩;refine ⟨_,rfl,?_⟩;have n0_:=Aside0.mk (below_step (by repeat (first | (with_reducible first | exact HB.out | apply below_alloc | apply pw_below_drewN | apply below_drew1) | exact HB.out)) hb);clear HB;have HB:=n0_;clear n0_;(try clear hb);(try clear hb2);(try clear hk);(try clear hi)))
       go_ret3
       exact ⟨by first | rfl | (simp [errW_none,errW_some] <;> rfl) | (simp [*,errW_none,errW_some] <;> rfl),by repeat (first | (with_reducible first | exact HB.out | apply below_alloc | apply pw_below_drewN | apply below_drew1) | exact HB.out)⟩
      ·replace c15:=Bool.eq_false_iff.mpr c15
       subst c15
       have H1 : (if (bt a0 a1) = 45 then ((tachographref21_run.f kj7 a0 (wrap64 (a1 + 1)) true).bind fun t196 => (if t196 > (wrap64 (a1 + 1)) then (some (6,t196,0)) else (some (0,a1,4)))) else ((tachographref21_run.f kj7 a0 a1 true).bind fun t197 => (if t197 > a1 then (some (6,t197,0)) else (some (0,a1,4))))) = some (r1,r2,r3):=by rw [if_neg (show ¬ (false = true) by decide)] at H;exact H
       clear H
       have H:=H1
       clear H1
       by_cases c18 : (bt a0 a1) = 45
       ·rw [if_pos c18] at H
        have c18b0 : ((bt a0 a1) == 45) = true:=beq_iff_eq.mpr c18
        have c18b1 : ((bt a0 a1) != 45) = false:=bne_eq_false_iff_eq.mpr c18
        clear c18
        replace H:=Option.bind_eq_some_iff.mp H
        obtain ⟨t196,A190,H⟩:=H
        replace H : (if t196 > (wrap64 (a1 + 1)) then (some (6,t196,0)) else (some (0,a1,4))) = some (r1,r2,r3):=H
        have A19:=Aside0.mk A190
        clear A190
        by_cases c20 : t196 > (wrap64 (a1 + 1))
        ·rw [if_pos c20] at H
         have c20b0 : decide ((wrap64 (a1 + 1)) < t196) = true:=decide_eq_true c20
         clear c20
         simp only [Option.some.injEq,Prod.mk.injEq] at H
         obtain ⟨rfl,rfl,rfl⟩:=H
         go_wp2_with (first | ((with_reducible refine gate_callee (f:=54) rfl ?_);refine goesL_ (some 37) rfl rfl Try.func54 (by kernel_rfl) rfl #[.string a0,.int .i64 (wrap64 (a1 + 1)),.bool true] rfl (by (try simp only [List.map_toArray,List.map_cons,List.map_nil]);first | done | rfl | (simp only [List.length_drop,List.length_take];rfl)) ?_;(with_reducible refine (tachographref21_run.calls kj7 a0 (wrap64 (a1 + 1)) true t196 _ A19.out).mono ?_);rintro e w21 ⟨rfl,hb⟩;refine ⟨_,rfl,?_⟩;have n0_:=Aside0.mk (below_step (by repeat (first | (with_reducible first | exact HB.out | apply below_alloc | apply pw_below_drewN | apply below_drew1) | exact HB.out)) hb);clear HB;have HB:=n0_;clear n0_;(try clear hb);(try clear hb2);(try clear hk);(try clear hi)))
         go_ret3
         exact ⟨by first | rfl | (simp [errW_none,errW_some] <;> rfl) | (simp [*,errW_none,errW_some] <;> rfl),by repeat (first | (with_reducible first | exact HB.out | apply below_alloc | apply pw_below_drewN | apply below_drew1) | exact HB.out)⟩
        ·rw [if_neg c20] at H
         have c20b0 : decide ((wrap64 (a1 + 1)) < t196) = false:=decide_eq_false c20
         clear c20
         simp only [Option.some.injEq,Prod.mk.injEq] at H
         obtain ⟨rfl,rfl,rfl⟩:=H
         go_wp2_with (first | ((with_reducible refine gate_callee (f:=54) rfl ?_);refine goesL_ (some 37) rfl rfl Try.func54 (by kernel_rfl) rfl #[.string a0,.int .i64 (wrap64 (a1 + 1)),.bool true] rfl (by (try simp only [List.map_toArray,List.map_cons,List.map_nil]);first | done | rfl | (simp only [List.length_drop,List.length_take];rfl)) ?_;(with_reducible refine (tachographref21_run.calls kj7 a0 (wrap64 (a1 + 1)) true t196 _ A19.out).mono ?_);rintro e w22 ⟨rfl,hb⟩;refine ⟨_,rfl,?_⟩;have n0_:=Aside0.mk (below_step (by repeat (first | (with_reducible first | exact HB.out | apply below_alloc | apply pw_below_drewN | apply below_drew1) | exact HB.out)) hb);clear HB;have HB:=n0_;clear n0_;(try clear hb);(try clear hb2);(try clear hk);(try clear hi)))
         go_ret3
         exact ⟨by first | rfl | (simp [errW_none,errW_some] <;> rfl) | (simp [*,errW_none,errW_some] <;> rfl),by repeat (first | (with_reducible first | exact HB.out | apply below_alloc | apply pw_below_drewN | apply below_drew1) | exact HB.out)⟩
       ·rw [if_neg c18] at H
        have c18b0 : ((bt a0 a1) == 45) = false:=beq_eq_false_iff_ne.mpr c18
        have c18b1 : ((bt a0 a1) != 45) = true:=bne_iff_ne.mpr c18
        replace H:=Option.bind_eq_some_iff.mp H
        obtain ⟨t197,A230,H⟩:=H
        replace H : (if t197 > a1 then (some (6,t197,0)) else (some (0,a1,4))) = some (r1,r2,r3):=H
        have A23:=Aside0.mk A230
        clear A230
        by_cases c24 : t197 > a1
        ·rw [if_pos c24] at H
         have c24b0 : decide (a1 < t197) = true:=decide_eq_true c24
         clear c24
         simp only [Option.some.injEq,Prod.mk.injEq] at H
         obtain ⟨rfl,rfl,rfl⟩:=H
         go_wp2_with (first | ((with_reducible refine gate_callee (f:=54) rfl ?_);refine goesL_ (some 37) rfl rfl Try.func54 (by kernel_rfl) rfl #[.string a0,.int .i64 a1,.bool true] rfl (by (try simp only [List.map_toArray,List.map_cons,List.map_nil]);first | done | rfl | (simp only [List.length_drop,List.length_take];rfl)) ?_;(with_reducible refine (tachographref21_run.calls kj7 a0 a1 true t197 _ A23.out).mono ?_);rintro e w25 ⟨rfl,hb⟩;refine ⟨_,rfl,?_⟩;have n0_:=Aside0.mk (below_step (by repeat (first | (with_reducible first | exact HB.out | apply below_alloc | apply pw_below_drewN | apply below_drew1) | exact HB.out)) hb);clear HB;have HB:=n0_;clear n0_;(try clear hb);(try clear hb2);(try clear hk);(try clear hi)))
         go_ret3
         exact ⟨by first | rfl | (simp [errW_none,errW_some] <;> rfl) | (simp [*,errW_none,errW_some] <;> rfl),by repeat (first | (with_reducible first | exact HB.out | apply below_alloc | apply pw_below_drewN | apply below_drew1) | exact HB.out)⟩
        ·rw [if_neg c24] at H
         have c24b0 : decide (a1 < t197) = false:=decide_eq_false c24
         clear c24
         simp only [Option.some.injEq,Prod.mk.injEq] at H
         obtain ⟨rfl,rfl,rfl⟩:=H
         go_wp2_with (first | ((with_reducible refine gate_callee (f:=54) rfl ?_);refine goesL_ (some 37) rfl rfl Try.func54 (by kernel_rfl) rfl #[.string a0,.int .i64 a1,.bool true] rfl (by (try simp only [List.map_toArray,List.map_cons,List.map_nil]);first | done | rfl | (simp only [List.length_drop,List.length_take];rfl)) ?_;(with_reducible refine (tachographref21_run.calls kj7 a0 a1 true t197 _ A23.out).mono ?_);rintro e w26 ⟨rfl,hb⟩;refine ⟨_,rfl,?_⟩;have n0_:=Aside0.mk (below_step (by repeat (first | (with_reducible first | exact HB.out | apply below_alloc | apply pw_below_drewN | apply below_drew1) | exact HB.out)) hb);clear HB;have HB:=n0_;clear n0_;(try clear hb);(try clear hb2);(try clear hk);(try clear hi)))
         go_ret3
         exact ⟨by first | rfl | (simp [errW_none,errW_some] <;> rfl) | (simp [*,errW_none,errW_some] <;> rfl),by repeat (first | (with_reducible first | exact HB.out | apply below_alloc | apply pw_below_drewN | apply below_drew1) | exact HB.out)⟩
  ·rw [if_neg c4] at H
   exact absurd H (by simp)
 ·rw [if_neg c3] at H
  exact absurd H (by simp)

end Go.Proofs.Ytjfklfmfeghjnac.PL
