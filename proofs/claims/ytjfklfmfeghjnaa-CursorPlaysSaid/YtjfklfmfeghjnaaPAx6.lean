-- Contracts of Go functions, each with its plain Lean function: written by wip/tools/myprint.py of this work (the kit's print, with contracts proved by hand spliced in).
import Derived.Test.YtjfklfmfeghjnaaPAx0
import Derived.Test.YtjfklfmfeghjnaaPAx2
import Derived.Test.YtjfklfmfeghjnaaPAx5
namespace Go.Proofs.Ytjfklfmfeghjnaa.PA
open Go.RowKit Go.Proofs.YtjfklfmfeghjnaaW.PrintWords Go.Proofs.YtjfklfmfeghjnaaW.PrintLast Go.Proofs.YtjfklfmfeghjnaaW.PrintMore
attribute [local go_sem] max2_int min2_int max_two min_two max_three min_three max_four min_four   -- for this text's walks alone
set_option linter.unusedVariables false
set_option linter.unusedSimpArgs false

/-! ### tachographref02_Get: function 29 -/
def tachographref02_Get.j0 : Nat → ByteArray → Int → Int → Int → Option (ByteArray × Int × Int)
 | 0, _, _, _, _ => none
 | k + 1, x0, x1, x7, x8 => if x7 > (IntKind.u64.wrap (x1)) then (some ((⟨#[]⟩ : ByteArray), 0, 6)) else (if x7 > (IntKind.u64.wrap ((x0.size : Int))) then (some ((⟨#[]⟩ : ByteArray), 0, 2)) else (if (wrap64 (x8 + (wrap64 (x7)))) > (x0.size : Int) then (some ((⟨#[]⟩ : ByteArray), 0, 2)) else (if 0 ≤ x8 then (if x8 ≤ (wrap64 (x8 + (wrap64 (x7)))) then (if (wrap64 (x8 + (wrap64 (x7)))) ≤ (x0.size : Int) then (some (x0.extract (x8 : Int).toNat ((wrap64 (x8 + (wrap64 (x7)))) : Int).toNat, wrap64 (x8 + (wrap64 (x7))), 0)) else (none)) else (none)) else (none))))
def tachographref02_Get.f (k : Nat) (a0 : ByteArray) (a1 : Int) : Option (ByteArray × Int × Int) := (tachographref01_Get.f k a0).bind fun bt137 => (if bt137.2.2 = 0 then (if a1 < 0 then (tachographref02_Get.j0 k a0 0 bt137.1 bt137.2.1) else (tachographref02_Get.j0 k a0 a1 bt137.1 bt137.2.1)) else (some ((⟨#[]⟩ : ByteArray), 0, bt137.2.2)))
theorem tachographref02_Get.mono_l : ∀ k, (∀ y0 y1 y2 y3, LeO (tachographref02_Get.j0 k y0 y1 y2 y3) (tachographref02_Get.j0 (k + 1) y0 y1 y2 y3))
 | 0 => fun _ _ _ _ r h => by simp [tachographref02_Get.j0] at h
 | k + 1 => by
  have ih0 := tachographref02_Get.mono_l k
  ·intro y0 y1 y2 y3
   unfold tachographref02_Get.j0
   repeat' first
   | (with_reducible exact ih0 _ _ _ _)
   | (with_reducible exact tachographref01_Get.mono _ _)
   | (with_reducible exact LeO.refl _)
   | (with_reducible exact LeO.none _)
   | (with_reducible refine LeO.ite ?_ ?_)
   | (with_reducible refine LeO.bind ?_ (fun _ => ?_))
   | exact ih0 _ _ _ _
   | exact tachographref01_Get.mono _ _
   | exact LeO.none _
   | refine LeO.ite ?_ ?_
   | refine LeO.bind ?_ (fun _ => ?_)
theorem tachographref02_Get.mono : ∀ a0 a1 k, LeO (tachographref02_Get.f k a0 a1) (tachographref02_Get.f (k + 1) a0 a1) := by
 intro a0 a1 k
 have ih0 := tachographref02_Get.mono_l k
 unfold tachographref02_Get.f
 repeat' first
   | (with_reducible exact ih0 _ _ _ _)
   | (with_reducible exact tachographref01_Get.mono _ _)
   | (with_reducible exact LeO.refl _)
   | (with_reducible exact LeO.none _)
   | (with_reducible refine LeO.ite ?_ ?_)
   | (with_reducible refine LeO.bind ?_ (fun _ => ?_))
   | exact ih0 _ _ _ _
   | exact tachographref01_Get.mono _ _
   | exact LeO.none _
   | refine LeO.ite ?_ ?_
   | refine LeO.bind ?_ (fun _ => ?_)
set_option maxHeartbeats 8000000 in
set_option maxRecDepth 100000 in
theorem tachographref02_Get.calls (k : Nat) (a0 : ByteArray) (a1 : Int) (r1 : ByteArray) (r2 : Int) (r3 : Int) (w : World) (h : tachographref02_Get.f k a0 a1 = some (r1,r2,r3)) :
  Calls Try.prog 29 #[.string a0,.int .i64 a1] w fun e w' => e = .returned (.tuple #[.string r1,.int .i64 r2,.int .i64 r3]) ∧ Drawn0 w w':=by
 have H : ((tachographref01_Get.f k a0).bind fun bt137 => (if bt137.2.2 = 0 then (if a1 < 0 then (tachographref02_Get.j0 k a0 0 bt137.1 bt137.2.1) else (tachographref02_Get.j0 k a0 a1 bt137.1 bt137.2.1)) else (some ((⟨#[]⟩ : ByteArray),0,bt137.2.2)))) = some (r1,r2,r3):=h
 clear h
 replace H:=Option.bind_eq_some_iff.mp H
 obtain ⟨⟨t137,t138,t139⟩,A30,H⟩:=H
 replace H : (if t139 = 0 then (if a1 < 0 then (tachographref02_Get.j0 k a0 0 t137 t138) else (tachographref02_Get.j0 k a0 a1 t137 t138)) else (some ((⟨#[]⟩ : ByteArray),0,t139))) = some (r1,r2,r3):=H
 have A3:=Aside0.mk A30
 clear A30
 by_cases c4 : t139 = 0
 ·rw [if_pos c4] at H
  have c4b0 : (t139 == 0) = true:=beq_iff_eq.mpr c4
  have c4b1 : (t139 != 0) = false:=bne_eq_false_iff_eq.mpr c4
  clear c4
  have HC5:=Aside0.mk H
  clear H
  go_enter Try.func29,Try.ntmps29
  go_upto_if 20 with (first | ((with_reducible refine gate_callee (f:=21) rfl ?_);refine goesL_ (some 12) rfl rfl Try.func21 (by kernel_rfl) rfl #[.string a0] rfl (by (try simp only [List.map_toArray,List.map_cons,List.map_nil]);first | done | rfl | (simp only [List.length_drop,List.length_take];rfl) | (refine congrArg (fun z_ => #[z_]) (congrArg (Value.int IntKind.u64) (Eq.symm (Go.Proofs.YtjfklfmfeghjnaaAid.wrap_len _ (by omega)))))) ?_;(with_reducible refine (tachographref01_Get.calls k a0 t137 t138 t139 _ A3.out).mono ?_);rintro e w' ⟨rfl,⟨nd,rfl⟩⟩;refine ⟨_,rfl,?_⟩))
  (try simp only [Act.put,List.setIfInBounds_toArray,List.set_cons_zero,List.set_cons_succ])
  go_cut [1] (fun v1 wc => ∃ (kq : Nat) (x1_4 : Int),v1 = .int .i64 x1_4 ∧ Aside0 (tachographref02_Get.j0 kq a0 x1_4 t137 t138 = some (r1,r2,r3)) ∧ Aside0 (kq ≤ k) ∧ Drawn0 w wc)
  case first =>
   have H:=HC5.out
   clear HC5
   by_cases c6 : a1 < 0
   ·rw [if_pos c6] at H
    have c6b0 : decide (a1 < 0) = true:=decide_eq_true c6
    clear c6
    (first | rw [c6b0] | (simp only [i64_w,i32_w];rw [c6b0]) | skip)
    have H':=Aside0.mk H
    clear H
    go_wp2
    go_meet
    case rel => exact ⟨_,(0),(by first | rfl | (simp;done) | (simp [*];done)),H',⟨by first | omega | exact Nat.le_refl _⟩,by repeat (first | exact Drawn0.refl _ | apply Drawn0.step)⟩
   ·rw [if_neg c6] at H
    have c6b0 : decide (a1 < 0) = false:=decide_eq_false c6
    clear c6
    (first | rw [c6b0] | (simp only [i64_w,i32_w];rw [c6b0]) | skip)
    have H':=Aside0.mk H
    clear H
    go_wp2
    go_meet
    case rel => exact ⟨_,(a1),(by first | rfl | (simp;done) | (simp [*];done)),H',⟨by first | omega | exact Nat.le_refl _⟩,by repeat (first | exact Drawn0.refl _ | apply Drawn0.step)⟩
  case rest =>
   clear HC5
   try clear c2
   try clear p2
   try clear c4
   try clear c4b0
   try clear c4b1
   try clear c6
   try clear c6b0
   obtain ⟨kq,x1_4,rfl,HA,HJ4,⟨mc4,rfl⟩⟩:=hcut
   cases kq with
   | zero => exact absurd HA.out (by simp [tachographref02_Get.j0])
   | succ kj4 =>
    have H:=HA.out
    clear HA
    simp only [tachographref02_Get.j0] at H
    by_cases c7 : t137 > (IntKind.u64.wrap (x1_4))
    ·rw [if_pos c7] at H
     have c7b0 : decide ((IntKind.u64.wrap (x1_4)) < t137) = true:=decide_eq_true c7
     clear c7
     simp only [Option.some.injEq,Prod.mk.injEq] at H
     obtain ⟨rfl,rfl,rfl⟩:=H
     go_wp2
     go_ret3
     exact ⟨by first | rfl | (simp;done) | (simp [*];done),by repeat (first | exact Drawn0.refl _ | apply Drawn0.step)⟩
    ·rw [if_neg c7] at H
     have c7b0 : decide ((IntKind.u64.wrap (x1_4)) < t137) = false:=decide_eq_false c7
     clear c7
     by_cases c8 : t137 > (IntKind.u64.wrap ((a0.size : Int)))
     ·rw [if_pos c8] at H
      have c8b0 : decide ((IntKind.u64.wrap ((a0.size : Int))) < t137) = true:=decide_eq_true c8
      clear c8
      simp only [Option.some.injEq,Prod.mk.injEq] at H
      obtain ⟨rfl,rfl,rfl⟩:=H
      go_wp2
      go_ret3
      exact ⟨by first | rfl | (simp;done) | (simp [*];done),by repeat (first | exact Drawn0.refl _ | apply Drawn0.step)⟩
     ·rw [if_neg c8] at H
      have c8b0 : decide ((IntKind.u64.wrap ((a0.size : Int))) < t137) = false:=decide_eq_false c8
      clear c8
      by_cases c9 : (wrap64 (t138 + (wrap64 (t137)))) > (a0.size : Int)
      ·rw [if_pos c9] at H
       have c9b0 : decide ((a0.size : Int) < (wrap64 (t138 + (wrap64 (t137))))) = true:=decide_eq_true c9
       clear c9
       simp only [Option.some.injEq,Prod.mk.injEq] at H
       obtain ⟨rfl,rfl,rfl⟩:=H
       go_wp2
       go_ret3
       exact ⟨by first | rfl | (simp;done) | (simp [*];done),by repeat (first | exact Drawn0.refl _ | apply Drawn0.step)⟩
      ·rw [if_neg c9] at H
       have c9b0 : decide ((a0.size : Int) < (wrap64 (t138 + (wrap64 (t137))))) = false:=decide_eq_false c9
       clear c9
       by_cases c10 : 0 ≤ t138
       ·rw [if_pos c10] at H
        have c10b0:=eq_true c10
        have c10b1 : decide (0 ≤ t138) = true:=decide_eq_true c10
        clear c10
        by_cases c11 : t138 ≤ (wrap64 (t138 + (wrap64 (t137))))
        ·rw [if_pos c11] at H
         have c11b0:=eq_true c11
         have c11b1 : decide (t138 ≤ (wrap64 (t138 + (wrap64 (t137))))) = true:=decide_eq_true c11
         by_cases c12 : (wrap64 (t138 + (wrap64 (t137)))) ≤ (a0.size : Int)
         ·rw [if_pos c12] at H
          have c12b0:=eq_true c12
          have c12b1 : decide ((wrap64 (t138 + (wrap64 (t137)))) ≤ (a0.size : Int)) = true:=decide_eq_true c12
          simp only [Option.some.injEq,Prod.mk.injEq] at H
          obtain ⟨rfl,rfl,rfl⟩:=H
          go_wp2
          go_ret3
          exact ⟨by first | rfl | (simp;done) | (simp [*];done),by repeat (first | exact Drawn0.refl _ | apply Drawn0.step)⟩
         ·rw [if_neg c12] at H
          exact absurd H (by simp)
        ·rw [if_neg c11] at H
         exact absurd H (by simp)
       ·rw [if_neg c10] at H
        exact absurd H (by simp)
 ·rw [if_neg c4] at H
  have c4b0 : (t139 == 0) = false:=beq_eq_false_iff_ne.mpr c4
  have c4b1 : (t139 != 0) = true:=bne_iff_ne.mpr c4
  simp only [Option.some.injEq,Prod.mk.injEq] at H
  obtain ⟨rfl,rfl,rfl⟩:=H
  go_enter Try.func29,Try.ntmps29
  go_wp2_with (first | ((with_reducible refine gate_callee (f:=21) rfl ?_);refine goesL_ (some 12) rfl rfl Try.func21 (by kernel_rfl) rfl #[.string a0] rfl (by (try simp only [List.map_toArray,List.map_cons,List.map_nil]);first | done | rfl | (simp only [List.length_drop,List.length_take];rfl) | (refine congrArg (fun z_ => #[z_]) (congrArg (Value.int IntKind.u64) (Eq.symm (Go.Proofs.YtjfklfmfeghjnaaAid.wrap_len _ (by omega)))))) ?_;(with_reducible refine (tachographref01_Get.calls k a0 t137 t138 t139 _ A3.out).mono ?_);rintro e w' ⟨rfl,⟨nd,rfl⟩⟩;refine ⟨_,rfl,?_⟩))
  go_ret3
  exact ⟨by first | rfl | (simp;done) | (simp [*];done),by repeat (first | exact Drawn0.refl _ | apply Drawn0.step)⟩

/-! ### blob_All: function 30 -/
def blob_All.l0 : Nat → List Int → Int → List ByteArray → Option (List ByteArray × Int)
  | 0, _, _, _ => none
  | k + 1, x0, x1, x6 => if (x0.length : Int) > 0 then ((blob_Get.f k x0 x1).bind fun bt140 => (if bt140.2.2 = 0 then (if x6.length < 8796093022208 then ((some (x6 ++ [bt140.1] : List ByteArray)).bind fun y143 => (if 0 ≤ bt140.2.1 then (if bt140.2.1 ≤ (x0.length : Int) then ((some (x0.drop (bt140.2.1 : Int).toNat : List Int)).bind fun y146 => (if (y146.length : Int) > 0 then (blob_All.l0 k y146 x1 y143) else (blob_All.l0 k y146 x1 y143))) else (none)) else (none))) else (none)) else (some (([] : List ByteArray), bt140.2.2)))) else (some (x6, 0))
def blob_All.f (k : Nat) (l0 : List Int) (a1 : Int) : Option (List ByteArray × Int) := blob_All.l0 k l0 a1 ([] : List ByteArray)
theorem blob_All.mono_l : ∀ k, (∀ y0 y1 y2, LeO (blob_All.l0 k y0 y1 y2) (blob_All.l0 (k + 1) y0 y1 y2))
  | 0 => fun _ _ _ r h => by simp [blob_All.l0] at h
  | k + 1 => by
    have ih0 := blob_All.mono_l k
    · intro y0 y1 y2
      unfold blob_All.l0
      repeat' first
      | (with_reducible exact ih0 _ _ _)
      | (with_reducible exact blob_Get.mono _ _ _)
      | (with_reducible exact LeO.refl _)
      | (with_reducible exact LeO.none _)
      | (with_reducible refine LeO.ite ?_ ?_)
      | (with_reducible refine LeO.bind ?_ (fun _ => ?_))
      | exact ih0 _ _ _
      | exact blob_Get.mono _ _ _
      | exact LeO.none _
      | refine LeO.ite ?_ ?_
      | refine LeO.bind ?_ (fun _ => ?_)
theorem blob_All.mono : ∀ a0 a1 k, LeO (blob_All.f k a0 a1) (blob_All.f (k + 1) a0 a1) := by
  intro a0 a1 k
  have ih0 := blob_All.mono_l k
  unfold blob_All.f
  repeat' first
      | (with_reducible exact ih0 _ _ _)
      | (with_reducible exact blob_Get.mono _ _ _)
      | (with_reducible exact LeO.refl _)
      | (with_reducible exact LeO.none _)
      | (with_reducible refine LeO.ite ?_ ?_)
      | (with_reducible refine LeO.bind ?_ (fun _ => ?_))
      | exact ih0 _ _ _
      | exact blob_Get.mono _ _ _
      | exact LeO.none _
      | refine LeO.ite ?_ ?_
      | refine LeO.bind ?_ (fun _ => ?_)
def blob_All.T6 : Bool × List (List Nat × List Nat) := (true, [([], []), ([], []), ([1], [1]), ([0, 2], [0, 2]), ([], []), ([], []), ([4, 5], [4, 5]), ([3, 3, 0, 1, 2, 3], [0, 3]), ([6, 7, 0, 1, 2, 3, 4, 5, 6, 7], [4, 6])])
def blob_All.B6 : List Nat := [0, 0, 2, 7, 0, 0, 48, 15, 255]
theorem blob_All.tab6 : rtab .any (opsOf Try.f30 6) = blob_All.T6 := by kernel_rfl
theorem blob_All.bits6 : waitsOk blob_All.T6.2 blob_All.B6 = true := by kernel_rfl
set_option maxHeartbeats 8000000 in
set_option maxRecDepth 100000 in
theorem blob_All.callsV (k : Nat) (P0_ : Nat → Prop) (A0 : Option Addr) (c0 : Nat) (l0 : List Int) (a1 : Int) (r1 : List ByteArray) (r2 : Int) (w : World) (hs0 : Kd.V (Kd.int .u8) 5 w w.heap.size (fun k_ => P0_ k_) (.slice A0 l0.length c0) l0) (h : blob_All.f k l0 a1 = some (r1, r2)) :
    Calls Try.prog 30 #[.slice A0 l0.length c0, .int .i64 a1] w fun e w' => ∃ v0_ : Value, e = .returned (.tuple #[v0_, .int .i64 r2]) ∧ Kd.R Kd.string 9 w' w.heap.size (fun k_ => (w.heap.size ≤ k_)) v0_ r1 ∧ Below w.heap.size w w' := by
  have HO0 := Aside0.mk (show Kd.V (Kd.int .u8) 5 w w.heap.size (fun k_ => (P0_ k_ ∨ w.heap.size ≤ k_)) (.slice A0 l0.length c0) l0 from Kd.V_mono hs0 (fun k_ hk => .inl hk))
  have HB := Aside0.mk (Below.refl w.heap.size w)
  have H : (blob_All.l0 k l0 a1 ([] : List ByteArray)) = some (r1, r2) := h
  clear h
  have H' := Aside0.mk H
  clear H
  go_enter Try.func30, Try.ntmps30
  try go_step3
  go_wp2
  try (go_step3; go_wp2)
  try (go_step3; go_wp2)
  try (go_step3; go_wp2)
  go_loopg [0, 6] k (fun kq v0 v6 w' => ∃ (x0_1 : List Int) (x6_1 : List ByteArray), Aside0 (blob_All.l0 kq x0_1 a1 x6_1 = some (r1, r2)) ∧ Aside0 (kq ≤ k) ∧ Aside0 (Kd.V (Kd.int .u8) 5 w' w.heap.size (fun k_ => (P0_ k_ ∨ w.heap.size ≤ k_) ∧ some k_ ≠ (v6 : Value).ownBlock) v0 x0_1) ∧ Aside0 (Kd.R Kd.string 9 w' w.heap.size (fun k_ => (w.heap.size ≤ k_)) v6 x6_1) ∧ Aside0 (Below w.heap.size w w'))
  case atStart => exact ⟨(l0), (([] : List ByteArray)), H', ⟨Nat.le_refl _⟩, ⟨by (with_reducible repeat (first | apply Kd.V_alloc | apply Kd.V_drewN | apply Kd.V_drew)); exact Kd.V_mono HO0.out (fun _ hk => ⟨hk, (by simp [Value.ownBlock])⟩)⟩, ⟨by first | exact Kd.R_nil _ _ _ _ _ | exact Kd.N_nil _ _ _ _ _ | exact Kd.V_nil _ _ _ _ _ | exact Kd.Q_nil _ _ _ _ _ | exact Kd.S_nil _ _ _ _ _⟩, ⟨by repeat (first | (with_reducible first | exact HB.out | apply below_alloc | apply pw_below_drewN | apply below_drew1) | exact HB.out)⟩⟩
  case round =>
    clear H'
    try clear p2
    obtain ⟨x0_1, x6_1, HA, HK1, HO_0, HO_6, HB⟩ := hrel
    cases gk with
    | zero => exact absurd HA.out (by simp [blob_All.l0])
    | succ k1 =>
      have H := HA.out
      clear HA
      simp only [blob_All.l0] at H
      by_cases c3 : (x0_1.length : Int) > 0
      · rw [if_pos c3] at H
        have c3b0 : decide (0 < (x0_1.length : Int)) = true := decide_eq_true c3
        have c3b1 : decide (0 < x0_1.length) = true := decide_eq_true (by omega)
        clear c3
        replace H := Option.bind_eq_some_iff.mp H
        obtain ⟨⟨t140, t141, t142⟩, A40, H⟩ := H
        replace H : (if t142 = 0 then (if x6_1.length < 8796093022208 then ((some (x6_1 ++ [t140] : List ByteArray)).bind fun y143 => (if 0 ≤ t141 then (if t141 ≤ (x0_1.length : Int) then ((some (x0_1.drop (t141 : Int).toNat : List Int)).bind fun y146 => (if (y146.length : Int) > 0 then (blob_All.l0 k1 y146 a1 y143) else (blob_All.l0 k1 y146 a1 y143))) else (none)) else (none))) else (none)) else (some (([] : List ByteArray), t142))) = some (r1, r2) := H
        have A4 := Aside0.mk A40
        clear A40
        by_cases c5 : t142 = 0
        · rw [if_pos c5] at H
          have c5b0 : (t142 == 0) = true := beq_iff_eq.mpr c5
          have c5b1 : (t142 != 0) = false := bne_eq_false_iff_eq.mpr c5
          clear c5
          by_cases c6 : x6_1.length < 8796093022208
          · rw [if_pos c6] at H
            have LMc6 := Aside0.mk c6
            clear c6
            obtain ⟨y143, hy143⟩ : ∃ y_ : List ByteArray, y_ = (x6_1 ++ [t140]) := ⟨_, rfl⟩
            replace H : (if 0 ≤ t141 then (if t141 ≤ (x0_1.length : Int) then ((some (x0_1.drop (t141 : Int).toNat : List Int)).bind fun y146 => (if (y146.length : Int) > 0 then (blob_All.l0 k1 y146 a1 y143) else (blob_All.l0 k1 y146 a1 y143))) else (none)) else (none)) = some (r1, r2) := by first | (rw [hy143]; with_reducible exact H) | (have H2_ := (Option.bind_some _ _).symm.trans H; rw [hy143]; with_reducible exact H2_) | (have H2_ := (Option.bind_some _ _).symm.trans H; with_reducible exact H2_) | with_reducible exact H | (rw [hy143]; exact H) | exact H
            have Ny143 := Aside0.mk hy143
            clear hy143
            by_cases c7 : 0 ≤ t141
            · rw [if_pos c7] at H
              have c7b0 := eq_true c7
              have c7b1 : decide (0 ≤ t141) = true := decide_eq_true c7
              clear c7
              by_cases c8 : t141 ≤ (x0_1.length : Int)
              · rw [if_pos c8] at H
                have c8b0 := eq_true c8
                have c8b1 : decide (t141 ≤ (x0_1.length : Int)) = true := decide_eq_true c8
                clear c8
                obtain ⟨y146, hy146⟩ : ∃ y_ : List Int, y_ = (x0_1.drop (t141 : Int).toNat) := ⟨_, rfl⟩
                replace H : (if (y146.length : Int) > 0 then (blob_All.l0 k1 y146 a1 y143) else (blob_All.l0 k1 y146 a1 y143)) = some (r1, r2) := by first | (rw [hy146]; with_reducible exact H) | (have H2_ := (Option.bind_some _ _).symm.trans H; rw [hy146]; with_reducible exact H2_) | (have H2_ := (Option.bind_some _ _).symm.trans H; with_reducible exact H2_) | with_reducible exact H | (rw [hy146]; exact H) | exact H
                have Ny146 := Aside0.mk hy146
                clear hy146
                by_cases c9 : (y146.length : Int) > 0
                · rw [if_pos c9] at H
                  have c9b0 : decide (0 < (y146.length : Int)) = true := decide_eq_true c9
                  have c9b1 : decide (0 < y146.length) = true := decide_eq_true (by omega)
                  clear c9
                  have H' := Aside0.mk H
                  clear H
                  obtain ⟨Ao10, co10, eo10⟩ := Kd.V_slice HO_0.out
                  subst eo10
                  try go_wp2_with (first | ((with_reducible refine gate_callee (f := 27) rfl ?_); refine goesL_ (some 16) rfl rfl Try.func27 (by kernel_rfl) rfl #[.slice Ao10 x0_1.length co10, .int .i64 a1] rfl (by (try simp only [List.map_toArray, List.map_cons, List.map_nil]); first | done | rfl | (simp only [List.length_drop, List.length_take]; rfl)) ?_; (with_reducible refine (blob_Get.calls k1 _ _ x0_1 a1 t140 t141 t142 _ ?side1 ?side2 A4.out).mono ?_); (case side1 => repeat (first | exact (Kd.V_reads' HO_0.out).2.2 | (with_reducible refine Kd.C_alloc ?_ _) | (with_reducible refine Kd.C_drewN ?_ _) | (with_reducible refine Kd.C_drew ?_))); (case side2 => exact (Kd.V_reads' HO_0.out).2.1); rintro e w11 ⟨rfl, hb⟩; refine ⟨_, rfl, ?_⟩; have n0_ := Aside0.mk (Kd.V_below (by (with_reducible repeat (first | apply Kd.V_alloc | apply Kd.V_drewN | apply Kd.V_drew)); exact HO_0.out) hb); have n1_ := Aside0.mk (Kd.R_below (by (with_reducible repeat (first | apply Kd.R_alloc | apply Kd.R_drewN | apply Kd.R_drew)); exact HO_6.out) hb); have n2_ := Aside0.mk (below_step (by repeat (first | (with_reducible first | exact HB.out | apply below_alloc | apply pw_below_drewN | apply below_drew1) | exact HB.out)) hb); clear HO_0; clear HO_6; clear HB; have HO_0 := n0_; have HO_6 := n1_; have HB := n2_; clear n0_ n1_ n2_; (try clear hb); (try clear hb2); (try clear hk); (try clear hi)))
                  have n0_ := Aside0.mk (Kd.V_drew HO_0.out)
                  have n1_ := Aside0.mk (Kd.R_drew HO_6.out)
                  have n2_ := Aside0.mk (below_drew1 HB.out)
                  clear HO_0
                  clear HO_6
                  clear HB
                  have HO_0 := n0_
                  have HO_6 := n1_
                  have HB := n2_
                  clear n0_ n1_ n2_
                  have q13 : (t141 : Int) ≤ ((x0_1.length : Int) : Int) := of_decide_eq_true (by first | (with_reducible assumption) | assumption)
                  obtain ⟨i013, hi013, _, hsz13, _⟩ := info_parts info5
                  have hroom13 : x0_1.length ≤ co10 := (Kd.V_reads' HO_0.out).2.1
                  have hC13 : Kd.F (Kd.int .u8) _ _ Ao10 x0_1.length x0_1 := (Kd.V_at (base := w.heap.size) HO_0.out).2.2
                  have q013 : (0 : Int) ≤ (t141 : Int) := of_decide_eq_true (by first | (with_reducible assumption) | assumption)
                  have hcut13 := cut_from (P := Try.prog) 27 5 .i64 Try.underlying27 hi013 1 hsz13 Ao10 x0_1.length co10 t141 q013 q13
                  have hr13 := Kd.F_cut (m := (t141 : Int).toNat) (c := co10) hC13 (by omega) hroom13
                  obtain ⟨A13, hA13⟩ : ∃ A1, A1 = (if co10 = (t141 : Int).toNat then Ao10 else (Ao10 : Option Addr).map (·.add ((t141 : Int).toNat * 1))) := ⟨_, rfl⟩
                  obtain ⟨c13, hc13⟩ : ∃ c1, c1 = co10 - (t141 : Int).toNat := ⟨_, rfl⟩
                  have hy13 : y146.length = x0_1.length - (t141 : Int).toNat := (by rw [Ny146.out, List.length_drop] <;> omega)
                  rw [show (x0_1).drop (t141 : Int).toNat = y146 from Ny146.out.symm] at hr13
                  replace hr13 : Kd.F (Kd.int .u8) _ _ A13 y146.length y146 := (by rw [hA13]; exact hr13)
                  rw [← hy13, ← hA13, ← hc13] at hcut13
                  have HO150 := Aside0.mk (show Kd.V (Kd.int .u8) 5 _ w.heap.size _ (.slice A13 y146.length c13) y146 from Kd.V_mk (by rw [hy13, hc13]; exact Nat.sub_le_sub_right hroom13 _) hr13)
                  have HC150 := Aside0.mk (show y146.length ≤ c13 from by rw [hy13, hc13]; exact Nat.sub_le_sub_right hroom13 _)
                  clear hr13 hC13 hroom13 hi013 hsz13 hc13
                  have KY13 := Aside0.mk hy13
                  have KA13 := Aside0.mk hA13
                  clear hy13 hA13
                  replace q13 := eq_true q13
                  refine start_ (n := 9) (S := fun w' => True) (ds := []) #[false, false, false, false, false, false, false, false, false] (by kernel_rfl) rfl rfl trivial (fun hHeld => ?_); refine with_tabW blob_All.tab6 blob_All.bits6 (fun HT_ HW_ => ?_)
                  generalize w11.drew = w12 at HO_0 HO_6 HB HO150 hHeld ⊢
                  refine pure_ (i := 0) (N := some 23) (v := ?_) (a' := ?_) #[true, false, false, false, false, false, false, false, false] rfl rfl (any_of HT_.out (by kernel_rfl)) (fun _ _ _ h => h) (Or.inl ⟨by rfl, ?_⟩) ?_ ?_
                  rotate_left
                  · intro w'
                    go_simp
                    with_reducible rfl
                  rotate_left
                  · simp only [Act.put, List.setIfInBounds_toArray, List.set_cons_zero, List.set_cons_succ, i64_w, i32_w]
                    rfl
                  refine pure_ (i := 1) (N := some 24) (v := ?_) (a' := ?_) #[true, true, false, false, false, false, false, false, false] rfl rfl (any_of HT_.out (by kernel_rfl)) (fun _ _ _ h => h) (Or.inl ⟨by rfl, ?_⟩) ?_ ?_
                  rotate_left
                  · intro w'
                    go_simp
                    with_reducible rfl
                  rotate_left
                  · simp only [Act.put, List.setIfInBounds_toArray, List.set_cons_zero, List.set_cons_succ, i64_w, i32_w]
                    rfl
                  refine pure_ (i := 4) (N := some 27) (v := ?_) (a' := ?_) #[true, true, false, false, true, false, false, false, false] rfl rfl (any_of HT_.out (by kernel_rfl)) (fun _ _ _ h => h) (Or.inl ⟨by rfl, ?_⟩) ?_ ?_
                  rotate_left
                  · intro w'
                    go_simp
                    with_reducible rfl
                  rotate_left
                  · simp only [Act.put, List.setIfInBounds_toArray, List.set_cons_zero, List.set_cons_succ, i64_w, i32_w]
                    rfl
                  refine pure_ (i := 5) (N := some 28) (v := ?_) (a' := ?_) #[true, true, false, false, true, true, false, false, false] rfl rfl (any_of HT_.out (by kernel_rfl)) (fun _ _ _ h => h) (Or.inl ⟨by rfl, ?_⟩) ?_ ?_
                  rotate_left
                  · intro w'
                    go_simp
                    with_reducible rfl
                  rotate_left
                  · simp only [Act.put, List.setIfInBounds_toArray, List.set_cons_zero, List.set_cons_succ, i64_w, i32_w]
                    rfl
                  refine pure_ (i := 6) (N := some 29) (v := ?_) (a' := ?_) #[true, true, false, false, true, true, true, false, false] rfl rfl (any_of HT_.out (by kernel_rfl)) (fun _ _ _ h => h) (Or.inl ⟨by rfl, ?_⟩) ?_ ?_
                  rotate_left
                  · intro w'
                    go_simp
                    with_reducible rfl
                  rotate_left
                  · simp only [Act.put, List.setIfInBounds_toArray, List.set_cons_zero, List.set_cons_succ, i64_w, i32_w]
                    rfl
                  refine one_ (i := 2) (N := some 25) #[true, true, true, false, true, true, true, false, false] rfl rfl (one_of HT_.out (by kernel_rfl)) (by decide) (fun K hK => ?_)
                  refine value_ (w1 := ?_) (v := ?_) (by rfl) rfl ?_ ?_
                  rotate_left 2
                  · go_simp
                    constructor
                    · rfl
                    · rfl
                  refine hK.out _ _ trivial (fun hHeld => ?_)
                  clear hK K
                  refine norm_ (a' := ?_) ?_ ?_
                  rotate_left
                  · show Act.put _ (some 25) _ = _
                    simp only [Act.put, List.setIfInBounds_toArray, List.set_cons_zero, List.set_cons_succ, i64_w, i32_w]
                    rfl
                  refine one_ (i := 3) (N := some 26) #[true, true, true, true, true, true, true, false, false] rfl rfl (one_of HT_.out (by kernel_rfl)) (by decide) (fun K hK => ?_)
                  refine Kd.R_append_step Kd.string (w0 := w) w.heap.size (by rfl) (.tmp 23) (.tmp 25) 46 9 (.string ⟨#[]⟩) 16 rfl Try.underlying46 info9 rfl (by decide) (by omega) u6 x6_1 t140 [.string t140] (fun k_ => (w.heap.size ≤ k_)) (fun _ => False) rfl rfl ?aP (fun _ hk => hk.elim) ?aF ?aO ?aB ?aS ?aL ?_
                  (case aP => exact rfl)
                  (case aB => exact (by repeat (first | (with_reducible first | exact HB.out | apply below_alloc | apply pw_below_drewN | apply below_drew1) | exact HB.out)))
                  (case aF => exact (fun k_ hk => (Nat.le_trans (below_size (by repeat (first | (with_reducible first | exact HB.out | apply below_alloc | apply pw_below_drewN | apply below_drew1) | exact HB.out))) hk)))
                  (case aO => exact (by (with_reducible repeat (first | apply Kd.R_alloc | apply Kd.R_drewN | apply Kd.R_drew)); exact HO_6.out))
                  (case aS => exact (below_size (by repeat (first | (with_reducible first | exact HB.out | apply below_alloc | apply pw_below_drewN | apply below_drew1) | exact HB.out))))
                  (case aL => have := LMc6.out; omega)
                  intro v144 w14 ho hb hg hat
                  rw [← Ny143.out] at ho
                  have n0_ := Aside0.mk (Kd.V_afterv (ok := (fun k_ => (P0_ k_ ∨ w.heap.size ≤ k_))) (by (with_reducible repeat (first | apply Kd.V_alloc | apply Kd.V_drewN | apply Kd.V_drew)); exact HO_0.out) hg hat)
                  have n1_ := Aside0.mk (Kd.V_afterv (ok := (fun k_ => (P0_ k_ ∨ w.heap.size ≤ k_))) (by (with_reducible repeat (first | apply Kd.V_alloc | apply Kd.V_drewN | apply Kd.V_drew)); exact HO150.out) hg hat)
                  have n2_ := Aside0.mk (hb)
                  have n3_ := Aside0.mk (ho)
                  clear HO_0
                  clear HO150
                  clear HB
                  clear HO_6
                  have HO_0 := n0_
                  have HO150 := n1_
                  have HB := n2_
                  have HO145 := n3_
                  clear n0_ n1_ n2_ n3_
                  clear ho hb hg hat
                  refine hK.out _ _ trivial (fun hHeld => ?_)
                  clear hK K
                  refine norm_ (a' := ?_) ?_ ?_
                  rotate_left
                  · show Act.put _ (some 26) _ = _
                    simp only [Act.put, List.setIfInBounds_toArray, List.set_cons_zero, List.set_cons_succ, i64_w, i32_w]
                    rfl
                  refine pure_ (i := 7) (N := some 6) (v := ?_) (a' := ?_) #[true, true, true, true, true, true, true, true, false] rfl rfl (any_of HT_.out (by kernel_rfl)) (fun _ _ _ h => h) (Or.inl ⟨by rfl, ?_⟩) ?_ ?_
                  rotate_left
                  · intro w'
                    go_simp
                    with_reducible rfl
                  rotate_left
                  · simp only [Act.put, List.setIfInBounds_toArray, List.set_cons_zero, List.set_cons_succ, i64_w, i32_w]
                    rfl
                  refine pure_ (i := 8) (N := some 0) (v := ?_) (a' := ?_) #[true, true, true, true, true, true, true, true, true] rfl rfl (any_of HT_.out (by kernel_rfl)) (fun _ _ _ h => h) (Or.inl ⟨by rfl, ?_⟩) ?_ ?_
                  rotate_left
                  · intro w'
                    go_simp
                    with_reducible rfl
                  rotate_left
                  · simp only [Act.put, List.setIfInBounds_toArray, List.set_cons_zero, List.set_cons_succ, i64_w, i32_w]
                    rfl
                  refine done_ (done_of HT_.out (by kernel_rfl)) ?_
                  try go_wp2
                  go_roundg k1
                  case measure => have := HK1.out; omega
                  case rel => exact ⟨(y146), (y143), H', ⟨by have := HK1.out; omega⟩, ⟨by (with_reducible repeat (first | apply Kd.V_alloc | apply Kd.V_drewN | apply Kd.V_drew)); exact HO150.out⟩, ⟨by (with_reducible repeat (first | apply Kd.R_alloc | apply Kd.R_drewN | apply Kd.R_drew)); exact HO145.out⟩, ⟨by repeat (first | (with_reducible first | exact HB.out | apply below_alloc | apply pw_below_drewN | apply below_drew1) | exact HB.out)⟩⟩
                · rw [if_neg c9] at H
                  have c9b0 : decide (0 < (y146.length : Int)) = false := decide_eq_false c9
                  have c9b1 : decide (0 < y146.length) = false := decide_eq_false (by omega)
                  clear c9
                  have H' := Aside0.mk H
                  clear H
                  obtain ⟨Ao15, co15, eo15⟩ := Kd.V_slice HO_0.out
                  subst eo15
                  try go_wp2_with (first | ((with_reducible refine gate_callee (f := 27) rfl ?_); refine goesL_ (some 16) rfl rfl Try.func27 (by kernel_rfl) rfl #[.slice Ao15 x0_1.length co15, .int .i64 a1] rfl (by (try simp only [List.map_toArray, List.map_cons, List.map_nil]); first | done | rfl | (simp only [List.length_drop, List.length_take]; rfl)) ?_; (with_reducible refine (blob_Get.calls k1 _ _ x0_1 a1 t140 t141 t142 _ ?side1 ?side2 A4.out).mono ?_); (case side1 => repeat (first | exact (Kd.V_reads' HO_0.out).2.2 | (with_reducible refine Kd.C_alloc ?_ _) | (with_reducible refine Kd.C_drewN ?_ _) | (with_reducible refine Kd.C_drew ?_))); (case side2 => exact (Kd.V_reads' HO_0.out).2.1); rintro e w16 ⟨rfl, hb⟩; refine ⟨_, rfl, ?_⟩; have n0_ := Aside0.mk (Kd.V_below (by (with_reducible repeat (first | apply Kd.V_alloc | apply Kd.V_drewN | apply Kd.V_drew)); exact HO_0.out) hb); have n1_ := Aside0.mk (Kd.R_below (by (with_reducible repeat (first | apply Kd.R_alloc | apply Kd.R_drewN | apply Kd.R_drew)); exact HO_6.out) hb); have n2_ := Aside0.mk (below_step (by repeat (first | (with_reducible first | exact HB.out | apply below_alloc | apply pw_below_drewN | apply below_drew1) | exact HB.out)) hb); clear HO_0; clear HO_6; clear HB; have HO_0 := n0_; have HO_6 := n1_; have HB := n2_; clear n0_ n1_ n2_; (try clear hb); (try clear hb2); (try clear hk); (try clear hi)))
                  have n0_ := Aside0.mk (Kd.V_drew HO_0.out)
                  have n1_ := Aside0.mk (Kd.R_drew HO_6.out)
                  have n2_ := Aside0.mk (below_drew1 HB.out)
                  clear HO_0
                  clear HO_6
                  clear HB
                  have HO_0 := n0_
                  have HO_6 := n1_
                  have HB := n2_
                  clear n0_ n1_ n2_
                  have q18 : (t141 : Int) ≤ ((x0_1.length : Int) : Int) := of_decide_eq_true (by first | (with_reducible assumption) | assumption)
                  obtain ⟨i018, hi018, _, hsz18, _⟩ := info_parts info5
                  have hroom18 : x0_1.length ≤ co15 := (Kd.V_reads' HO_0.out).2.1
                  have hC18 : Kd.F (Kd.int .u8) _ _ Ao15 x0_1.length x0_1 := (Kd.V_at (base := w.heap.size) HO_0.out).2.2
                  have q018 : (0 : Int) ≤ (t141 : Int) := of_decide_eq_true (by first | (with_reducible assumption) | assumption)
                  have hcut18 := cut_from (P := Try.prog) 27 5 .i64 Try.underlying27 hi018 1 hsz18 Ao15 x0_1.length co15 t141 q018 q18
                  have hr18 := Kd.F_cut (m := (t141 : Int).toNat) (c := co15) hC18 (by omega) hroom18
                  obtain ⟨A18, hA18⟩ : ∃ A1, A1 = (if co15 = (t141 : Int).toNat then Ao15 else (Ao15 : Option Addr).map (·.add ((t141 : Int).toNat * 1))) := ⟨_, rfl⟩
                  obtain ⟨c18, hc18⟩ : ∃ c1, c1 = co15 - (t141 : Int).toNat := ⟨_, rfl⟩
                  have hy18 : y146.length = x0_1.length - (t141 : Int).toNat := (by rw [Ny146.out, List.length_drop] <;> omega)
                  rw [show (x0_1).drop (t141 : Int).toNat = y146 from Ny146.out.symm] at hr18
                  replace hr18 : Kd.F (Kd.int .u8) _ _ A18 y146.length y146 := (by rw [hA18]; exact hr18)
                  rw [← hy18, ← hA18, ← hc18] at hcut18
                  have HO150 := Aside0.mk (show Kd.V (Kd.int .u8) 5 _ w.heap.size _ (.slice A18 y146.length c18) y146 from Kd.V_mk (by rw [hy18, hc18]; exact Nat.sub_le_sub_right hroom18 _) hr18)
                  have HC150 := Aside0.mk (show y146.length ≤ c18 from by rw [hy18, hc18]; exact Nat.sub_le_sub_right hroom18 _)
                  clear hr18 hC18 hroom18 hi018 hsz18 hc18
                  have KY18 := Aside0.mk hy18
                  have KA18 := Aside0.mk hA18
                  clear hy18 hA18
                  replace q18 := eq_true q18
                  refine start_ (n := 9) (S := fun w' => True) (ds := []) #[false, false, false, false, false, false, false, false, false] (by kernel_rfl) rfl rfl trivial (fun hHeld => ?_); refine with_tabW blob_All.tab6 blob_All.bits6 (fun HT_ HW_ => ?_)
                  generalize w16.drew = w17 at HO_0 HO_6 HB HO150 hHeld ⊢
                  refine pure_ (i := 0) (N := some 23) (v := ?_) (a' := ?_) #[true, false, false, false, false, false, false, false, false] rfl rfl (any_of HT_.out (by kernel_rfl)) (fun _ _ _ h => h) (Or.inl ⟨by rfl, ?_⟩) ?_ ?_
                  rotate_left
                  · intro w'
                    go_simp
                    with_reducible rfl
                  rotate_left
                  · simp only [Act.put, List.setIfInBounds_toArray, List.set_cons_zero, List.set_cons_succ, i64_w, i32_w]
                    rfl
                  refine pure_ (i := 1) (N := some 24) (v := ?_) (a' := ?_) #[true, true, false, false, false, false, false, false, false] rfl rfl (any_of HT_.out (by kernel_rfl)) (fun _ _ _ h => h) (Or.inl ⟨by rfl, ?_⟩) ?_ ?_
                  rotate_left
                  · intro w'
                    go_simp
                    with_reducible rfl
                  rotate_left
                  · simp only [Act.put, List.setIfInBounds_toArray, List.set_cons_zero, List.set_cons_succ, i64_w, i32_w]
                    rfl
                  refine pure_ (i := 4) (N := some 27) (v := ?_) (a' := ?_) #[true, true, false, false, true, false, false, false, false] rfl rfl (any_of HT_.out (by kernel_rfl)) (fun _ _ _ h => h) (Or.inl ⟨by rfl, ?_⟩) ?_ ?_
                  rotate_left
                  · intro w'
                    go_simp
                    with_reducible rfl
                  rotate_left
                  · simp only [Act.put, List.setIfInBounds_toArray, List.set_cons_zero, List.set_cons_succ, i64_w, i32_w]
                    rfl
                  refine pure_ (i := 5) (N := some 28) (v := ?_) (a' := ?_) #[true, true, false, false, true, true, false, false, false] rfl rfl (any_of HT_.out (by kernel_rfl)) (fun _ _ _ h => h) (Or.inl ⟨by rfl, ?_⟩) ?_ ?_
                  rotate_left
                  · intro w'
                    go_simp
                    with_reducible rfl
                  rotate_left
                  · simp only [Act.put, List.setIfInBounds_toArray, List.set_cons_zero, List.set_cons_succ, i64_w, i32_w]
                    rfl
                  refine pure_ (i := 6) (N := some 29) (v := ?_) (a' := ?_) #[true, true, false, false, true, true, true, false, false] rfl rfl (any_of HT_.out (by kernel_rfl)) (fun _ _ _ h => h) (Or.inl ⟨by rfl, ?_⟩) ?_ ?_
                  rotate_left
                  · intro w'
                    go_simp
                    with_reducible rfl
                  rotate_left
                  · simp only [Act.put, List.setIfInBounds_toArray, List.set_cons_zero, List.set_cons_succ, i64_w, i32_w]
                    rfl
                  refine one_ (i := 2) (N := some 25) #[true, true, true, false, true, true, true, false, false] rfl rfl (one_of HT_.out (by kernel_rfl)) (by decide) (fun K hK => ?_)
                  refine value_ (w1 := ?_) (v := ?_) (by rfl) rfl ?_ ?_
                  rotate_left 2
                  · go_simp
                    constructor
                    · rfl
                    · rfl
                  refine hK.out _ _ trivial (fun hHeld => ?_)
                  clear hK K
                  refine norm_ (a' := ?_) ?_ ?_
                  rotate_left
                  · show Act.put _ (some 25) _ = _
                    simp only [Act.put, List.setIfInBounds_toArray, List.set_cons_zero, List.set_cons_succ, i64_w, i32_w]
                    rfl
                  refine one_ (i := 3) (N := some 26) #[true, true, true, true, true, true, true, false, false] rfl rfl (one_of HT_.out (by kernel_rfl)) (by decide) (fun K hK => ?_)
                  refine Kd.R_append_step Kd.string (w0 := w) w.heap.size (by rfl) (.tmp 23) (.tmp 25) 46 9 (.string ⟨#[]⟩) 16 rfl Try.underlying46 info9 rfl (by decide) (by omega) u6 x6_1 t140 [.string t140] (fun k_ => (w.heap.size ≤ k_)) (fun _ => False) rfl rfl ?aP (fun _ hk => hk.elim) ?aF ?aO ?aB ?aS ?aL ?_
                  (case aP => exact rfl)
                  (case aB => exact (by repeat (first | (with_reducible first | exact HB.out | apply below_alloc | apply pw_below_drewN | apply below_drew1) | exact HB.out)))
                  (case aF => exact (fun k_ hk => (Nat.le_trans (below_size (by repeat (first | (with_reducible first | exact HB.out | apply below_alloc | apply pw_below_drewN | apply below_drew1) | exact HB.out))) hk)))
                  (case aO => exact (by (with_reducible repeat (first | apply Kd.R_alloc | apply Kd.R_drewN | apply Kd.R_drew)); exact HO_6.out))
                  (case aS => exact (below_size (by repeat (first | (with_reducible first | exact HB.out | apply below_alloc | apply pw_below_drewN | apply below_drew1) | exact HB.out))))
                  (case aL => have := LMc6.out; omega)
                  intro v144 w19 ho hb hg hat
                  rw [← Ny143.out] at ho
                  have n0_ := Aside0.mk (Kd.V_afterv (ok := (fun k_ => (P0_ k_ ∨ w.heap.size ≤ k_))) (by (with_reducible repeat (first | apply Kd.V_alloc | apply Kd.V_drewN | apply Kd.V_drew)); exact HO_0.out) hg hat)
                  have n1_ := Aside0.mk (Kd.V_afterv (ok := (fun k_ => (P0_ k_ ∨ w.heap.size ≤ k_))) (by (with_reducible repeat (first | apply Kd.V_alloc | apply Kd.V_drewN | apply Kd.V_drew)); exact HO150.out) hg hat)
                  have n2_ := Aside0.mk (hb)
                  have n3_ := Aside0.mk (ho)
                  clear HO_0
                  clear HO150
                  clear HB
                  clear HO_6
                  have HO_0 := n0_
                  have HO150 := n1_
                  have HB := n2_
                  have HO145 := n3_
                  clear n0_ n1_ n2_ n3_
                  clear ho hb hg hat
                  refine hK.out _ _ trivial (fun hHeld => ?_)
                  clear hK K
                  refine norm_ (a' := ?_) ?_ ?_
                  rotate_left
                  · show Act.put _ (some 26) _ = _
                    simp only [Act.put, List.setIfInBounds_toArray, List.set_cons_zero, List.set_cons_succ, i64_w, i32_w]
                    rfl
                  refine pure_ (i := 7) (N := some 6) (v := ?_) (a' := ?_) #[true, true, true, true, true, true, true, true, false] rfl rfl (any_of HT_.out (by kernel_rfl)) (fun _ _ _ h => h) (Or.inl ⟨by rfl, ?_⟩) ?_ ?_
                  rotate_left
                  · intro w'
                    go_simp
                    with_reducible rfl
                  rotate_left
                  · simp only [Act.put, List.setIfInBounds_toArray, List.set_cons_zero, List.set_cons_succ, i64_w, i32_w]
                    rfl
                  refine pure_ (i := 8) (N := some 0) (v := ?_) (a' := ?_) #[true, true, true, true, true, true, true, true, true] rfl rfl (any_of HT_.out (by kernel_rfl)) (fun _ _ _ h => h) (Or.inl ⟨by rfl, ?_⟩) ?_ ?_
                  rotate_left
                  · intro w'
                    go_simp
                    with_reducible rfl
                  rotate_left
                  · simp only [Act.put, List.setIfInBounds_toArray, List.set_cons_zero, List.set_cons_succ, i64_w, i32_w]
                    rfl
                  refine done_ (done_of HT_.out (by kernel_rfl)) ?_
                  try go_wp2
                  go_roundg k1
                  case measure => have := HK1.out; omega
                  case rel => exact ⟨(y146), (y143), H', ⟨by have := HK1.out; omega⟩, ⟨by (with_reducible repeat (first | apply Kd.V_alloc | apply Kd.V_drewN | apply Kd.V_drew)); exact HO150.out⟩, ⟨by (with_reducible repeat (first | apply Kd.R_alloc | apply Kd.R_drewN | apply Kd.R_drew)); exact HO145.out⟩, ⟨by repeat (first | (with_reducible first | exact HB.out | apply below_alloc | apply pw_below_drewN | apply below_drew1) | exact HB.out)⟩⟩
              · rw [if_neg c8] at H
                exact absurd H (by simp)
            · rw [if_neg c7] at H
              exact absurd H (by simp)
          · rw [if_neg c6] at H
            exact absurd H (by simp)
        · rw [if_neg c5] at H
          have c5b0 : (t142 == 0) = false := beq_eq_false_iff_ne.mpr c5
          have c5b1 : (t142 != 0) = true := bne_iff_ne.mpr c5
          simp only [Option.some.injEq, Prod.mk.injEq] at H
          obtain ⟨rfl, rfl⟩ := H
          obtain ⟨Ao20, co20, eo20⟩ := Kd.V_slice HO_0.out
          subst eo20
          go_wp2_with (first | ((with_reducible refine gate_callee (f := 27) rfl ?_); refine goesL_ (some 16) rfl rfl Try.func27 (by kernel_rfl) rfl #[.slice Ao20 x0_1.length co20, .int .i64 a1] rfl (by (try simp only [List.map_toArray, List.map_cons, List.map_nil]); first | done | rfl | (simp only [List.length_drop, List.length_take]; rfl)) ?_; (with_reducible refine (blob_Get.calls k1 _ _ x0_1 a1 t140 t141 t142 _ ?side1 ?side2 A4.out).mono ?_); (case side1 => repeat (first | exact (Kd.V_reads' HO_0.out).2.2 | (with_reducible refine Kd.C_alloc ?_ _) | (with_reducible refine Kd.C_drewN ?_ _) | (with_reducible refine Kd.C_drew ?_))); (case side2 => exact (Kd.V_reads' HO_0.out).2.1); rintro e w21 ⟨rfl, hb⟩; refine ⟨_, rfl, ?_⟩; have n0_ := Aside0.mk (Kd.V_below (by (with_reducible repeat (first | apply Kd.V_alloc | apply Kd.V_drewN | apply Kd.V_drew)); exact HO_0.out) hb); have n1_ := Aside0.mk (Kd.R_below (by (with_reducible repeat (first | apply Kd.R_alloc | apply Kd.R_drewN | apply Kd.R_drew)); exact HO_6.out) hb); have n2_ := Aside0.mk (below_step (by repeat (first | (with_reducible first | exact HB.out | apply below_alloc | apply pw_below_drewN | apply below_drew1) | exact HB.out)) hb); clear HO_0; clear HO_6; clear HB; have HO_0 := n0_; have HO_6 := n1_; have HB := n2_; clear n0_ n1_ n2_; (try clear hb); (try clear hb2); (try clear hk); (try clear hi)))
          (try rw [Exit.noGoto_ret])
          go_ret2
          exact ⟨_, by first | rfl | (simp [errW_none, errW_some] <;> rfl) | (simp [*, errW_none, errW_some] <;> rfl), by first | exact Kd.R_nil _ _ _ _ _ | exact Kd.N_nil _ _ _ _ _ | exact Kd.V_nil _ _ _ _ _ | exact Kd.Q_nil _ _ _ _ _ | exact Kd.S_nil _ _ _ _ _, by repeat (first | (with_reducible first | exact HB.out | apply below_alloc | apply pw_below_drewN | apply below_drew1) | exact HB.out)⟩
      · rw [if_neg c3] at H
        have c3b0 : decide (0 < (x0_1.length : Int)) = false := decide_eq_false c3
        have c3b1 : decide (0 < x0_1.length) = false := decide_eq_false (by omega)
        clear c3
        simp only [Option.some.injEq, Prod.mk.injEq] at H
        obtain ⟨rfl, rfl⟩ := H
        obtain ⟨Ao22, co22, eo22⟩ := Kd.V_slice HO_0.out
        subst eo22
        go_wp2
        (try rw [Exit.noGoto_ret])
        go_ret2
        exact ⟨_, by first | rfl | (simp [errW_none, errW_some] <;> rfl) | (simp [*, errW_none, errW_some] <;> rfl), by (with_reducible repeat (first | apply Kd.R_alloc | apply Kd.R_drewN | apply Kd.R_drew)); exact HO_6.out, by repeat (first | (with_reducible first | exact HB.out | apply below_alloc | apply pw_below_drewN | apply below_drew1) | exact HB.out)⟩
theorem blob_All.calls (k : Nat) (A0 : Option Addr) (c0 : Nat) (l0 : List Int) (a1 : Int) (r1 : List ByteArray) (r2 : Int) (w : World) (hr0 : Kd.C (Kd.int .u8) w A0 l0.length l0) (hc0 : l0.length ≤ c0) (h : blob_All.f k l0 a1 = some (r1, r2)) :
    Calls Try.prog 30 #[.slice A0 l0.length c0, .int .i64 a1] w fun e w' => ∃ v0_ : Value, e = .returned (.tuple #[v0_, .int .i64 r2]) ∧ Kd.R Kd.string 9 w' w.heap.size (fun k_ => (w.heap.size ≤ k_)) v0_ r1 ∧ Below w.heap.size w w' :=
  blob_All.callsV k (fun k_ => k_ < w.heap.size) A0 c0 l0 a1 r1 r2 w (Kd.V_mk hc0 (Kd.F_below (Kd.C_F (Kd.heap_int .u8) hr0) (Below.refl _ _))) h

/-! ### tachographref02_All: function 31 -/
def tachographref02_All.l0 : Nat → ByteArray → Int → List ByteArray → Option (List ByteArray × Int)
 | 0, _, _, _ => none
 | k + 1, x0, x1, x6 => if (x0.size : Int) > 0 then ((tachographref02_Get.f k x0 x1).bind fun bt143 => (if bt143.2.2 = 0 then (if x6.length < 8796093022208 then (if 0 ≤ bt143.2.1 then (if bt143.2.1 ≤ (x0.size : Int) then (tachographref02_All.l0 k (x0.extract (bt143.2.1 : Int).toNat x0.size) x1 (x6 ++ [bt143.1])) else (none)) else (none)) else (none)) else (some ((([] : List ByteArray)), bt143.2.2)))) else (some (x6, 0))
def tachographref02_All.f (k : Nat) (a0 : ByteArray) (a1 : Int) : Option (List ByteArray × Int) := tachographref02_All.l0 k a0 a1 (([] : List ByteArray))
theorem tachographref02_All.mono_l : ∀ k, (∀ y0 y1 y2, LeO (tachographref02_All.l0 k y0 y1 y2) (tachographref02_All.l0 (k + 1) y0 y1 y2))
 | 0 => fun _ _ _ r h => by simp [tachographref02_All.l0] at h
 | k + 1 => by
  have ih0 := tachographref02_All.mono_l k
  ·intro y0 y1 y2
   unfold tachographref02_All.l0
   repeat' first
   | (with_reducible exact ih0 _ _ _)
   | (with_reducible exact tachographref02_Get.mono _ _ _)
   | (with_reducible exact LeO.refl _)
   | (with_reducible exact LeO.none _)
   | (with_reducible refine LeO.ite ?_ ?_)
   | (with_reducible refine LeO.bind ?_ (fun _ => ?_))
   | exact ih0 _ _ _
   | exact tachographref02_Get.mono _ _ _
   | exact LeO.none _
   | refine LeO.ite ?_ ?_
   | refine LeO.bind ?_ (fun _ => ?_)
theorem tachographref02_All.mono : ∀ a0 a1 k, LeO (tachographref02_All.f k a0 a1) (tachographref02_All.f (k + 1) a0 a1) := by
 intro a0 a1 k
 have ih0 := tachographref02_All.mono_l k
 unfold tachographref02_All.f
 repeat' first
   | (with_reducible exact ih0 _ _ _)
   | (with_reducible exact tachographref02_Get.mono _ _ _)
   | (with_reducible exact LeO.refl _)
   | (with_reducible exact LeO.none _)
   | (with_reducible refine LeO.ite ?_ ?_)
   | (with_reducible refine LeO.bind ?_ (fun _ => ?_))
   | exact ih0 _ _ _
   | exact tachographref02_Get.mono _ _ _
   | exact LeO.none _
   | refine LeO.ite ?_ ?_
   | refine LeO.bind ?_ (fun _ => ?_)
set_option maxHeartbeats 8000000 in
set_option maxRecDepth 100000 in
theorem tachographref02_All.calls (k : Nat) (a0 : ByteArray) (a1 : Int) (r1 : List ByteArray) (r2 : Int) (w : World) (h : tachographref02_All.f k a0 a1 = some (r1,r2)) :
  Calls Try.prog 31 #[.string a0,.int .i64 a1] w fun e w' => ∃ v0_ : Value,e = .returned (.tuple #[v0_,.int .i64 r2]) ∧ Kd.R Kd.string 9 w' w.heap.size (fun _ => True) v0_ r1 ∧ Below w.heap.size w w':=by
 have HB:=Aside0.mk (Below.refl w.heap.size w)
 have H : (tachographref02_All.l0 k a0 a1 (([] : List ByteArray))) = some (r1,r2):=h
 clear h
 obtain ⟨y140,hy140⟩ : ∃ y_ : List ByteArray,y_ = (([] : List ByteArray)):=⟨_,rfl⟩
 replace H : (tachographref02_All.l0 k a0 a1 y140) = some (r1,r2):=by first | (rw [hy140];with_reducible exact H) | (have H2_:=(Option.bind_some _ _).symm.trans H;rw [hy140];with_reducible exact H2_) | (have H2_:=(Option.bind_some _ _).symm.trans H;with_reducible exact H2_) | with_reducible exact H | (rw [hy140];exact H) | exact H
 have Ny140:=Aside0.mk hy140
 clear hy140
 have H':=Aside0.mk H
 clear H
 go_enter Try.func31,Try.ntmps31
 go_wp2_with (first | ((with_reducible refine gate_dst (N:=10) rfl ?_);refine Kd.R_lit Kd.string _ 9 ?hg (N:=10) ?hd (xs:=([] : List ByteArray)) (inner:=[]) (ok:=fun _ => True) (okp:=fun _ => True) ?hr ?hp (fun _ hk => hk) trivial (Below.refl _ _) (Nat.le_refl _) (by simp) ?_;(case hd => rfl);(case hg => rfl);(case hr => first | (go_simp;done) | (go_simp;rfl));(case hp => exact (Reps.none _ _));intro v141 w3 ho4 hb hg_ hnew_;clear hg_ hnew_;(first | rw [← Ny140.out] at ho4 | (simp only [Int.reduceToNat] at ho4;rw [← Ny140.out] at ho4));have n0_:=Aside0.mk (Kd.R_lower ho4 (below_size (by repeat (first | (with_reducible first | exact HB.out | apply below_alloc | apply pw_below_drewN | apply below_drew1) | exact HB.out))));have n1_:=Aside0.mk (below_step (by repeat (first | (with_reducible first | exact HB.out | apply below_alloc | apply pw_below_drewN | apply below_drew1) | exact HB.out)) hb);clear HB;have HO142:=n0_;have HB:=n1_;clear n0_ n1_;clear hb ho4))
 go_loopg [0,6] k (fun kq v0 v6 w' => ∃ (x0_1 : ByteArray) (x6_1 : List ByteArray),v0 = .string x0_1 ∧ Aside0 (tachographref02_All.l0 kq x0_1 a1 x6_1 = some (r1,r2)) ∧ Aside0 (kq ≤ k) ∧ Aside0 (Kd.R Kd.string 9 w' w.heap.size (fun _ => True) v6 x6_1) ∧ Aside0 (Below w.heap.size w w'))
 case atStart => exact ⟨(a0),(y140),(by first | rfl | (simp;done) | (simp [*];done)),H',⟨Nat.le_refl _⟩,⟨by (with_reducible repeat (first | apply Kd.R_alloc | apply Kd.R_drewN | apply Kd.R_drew));exact HO142.out⟩,⟨by repeat (first | (with_reducible first | exact HB.out | apply below_alloc | apply pw_below_drewN | apply below_drew1) | exact HB.out)⟩⟩
 case round =>
  clear H'
  try clear p2
  try clear c3
  obtain ⟨x0_1,x6_1,rfl,HA,HK1,HO_6,HB⟩:=hrel
  cases gk with
  | zero => exact absurd HA.out (by simp [tachographref02_All.l0])
  | succ k1 =>
   have H:=HA.out
   clear HA
   simp only [tachographref02_All.l0] at H
   by_cases c5 : (x0_1.size : Int) > 0
   ·rw [if_pos c5] at H
    have c5b0 : decide (0 < (x0_1.size : Int)) = true:=decide_eq_true c5
    have c5b1 : decide (0 < x0_1.size) = true:=decide_eq_true (by omega)
    clear c5
    replace H:=Option.bind_eq_some_iff.mp H
    obtain ⟨⟨t143,t144,t145⟩,A60,H⟩:=H
    replace H : (if t145 = 0 then (if x6_1.length < 8796093022208 then (if 0 ≤ t144 then (if t144 ≤ (x0_1.size : Int) then (tachographref02_All.l0 k1 (x0_1.extract (t144 : Int).toNat x0_1.size) a1 (x6_1 ++ [t143])) else (none)) else (none)) else (none)) else (some ((([] : List ByteArray)),t145))) = some (r1,r2):=H
    have A6:=Aside0.mk A60
    clear A60
    by_cases c7 : t145 = 0
    ·rw [if_pos c7] at H
     have c7b0 : (t145 == 0) = true:=beq_iff_eq.mpr c7
     have c7b1 : (t145 != 0) = false:=bne_eq_false_iff_eq.mpr c7
     clear c7
     by_cases c8 : x6_1.length < 8796093022208
     ·rw [if_pos c8] at H
      have LMc8:=Aside0.mk c8
      clear c8
      obtain ⟨y146,hy146⟩ : ∃ y_ : List ByteArray,y_ = (x6_1 ++ [t143]):=⟨_,rfl⟩
      replace H : (if 0 ≤ t144 then (if t144 ≤ (x0_1.size : Int) then (tachographref02_All.l0 k1 (x0_1.extract (t144 : Int).toNat x0_1.size) a1 y146) else (none)) else (none)) = some (r1,r2):=by first | (rw [hy146];with_reducible exact H) | (have H2_:=(Option.bind_some _ _).symm.trans H;rw [hy146];with_reducible exact H2_) | (have H2_:=(Option.bind_some _ _).symm.trans H;with_reducible exact H2_) | with_reducible exact H | (rw [hy146];exact H) | exact H
      have Ny146:=Aside0.mk hy146
      clear hy146
      by_cases c9 : 0 ≤ t144
      ·rw [if_pos c9] at H
       have c9b0:=eq_true c9
       have c9b1 : decide (0 ≤ t144) = true:=decide_eq_true c9
       clear c9
       by_cases c10 : t144 ≤ (x0_1.size : Int)
       ·rw [if_pos c10] at H
        have c10b0:=eq_true c10
        have c10b1 : decide (t144 ≤ (x0_1.size : Int)) = true:=decide_eq_true c10
        clear c10
        have H':=Aside0.mk H
        clear H
        go_wp2_with (first | ((with_reducible refine gate_callee (f:=29) rfl ?_);refine goesL_ (some 17) rfl rfl Try.func29 (by kernel_rfl) rfl #[.string x0_1,.int .i64 a1] rfl (by (try simp only [List.map_toArray,List.map_cons,List.map_nil]);first | done | rfl | (simp only [List.length_drop,List.length_take];rfl)) ?_;(with_reducible refine (tachographref02_Get.calls k1 x0_1 a1 t143 t144 t145 _ A6.out).mono ?_);rintro e w' ⟨rfl,⟨nd,rfl⟩⟩;refine ⟨_,rfl,?_⟩) | ((with_reducible refine gate_builtin (b:=.append) (xs:=#[.tmp 25,.tmp 27]) rfl ?_);at_builtin;refine Kd.R_append Kd.string (w0:=w) w.heap.size rfl (.tmp 25) (.tmp 27) 46 9 (.string ⟨#[]⟩) 16 rfl Try.underlying46 info9 rfl (by decide) (by omega) u6 x6_1 t143 [.string t143] (fun _ => True) (fun _ => False) rfl rfl ?aP (fun _ hk => hk.elim) ?aF ?aO ?aB ?aS ?aL ?_;(case aP => exact rfl);(case aB => exact (by repeat (first | (with_reducible first | exact HB.out | apply below_alloc | apply pw_below_drewN | apply below_drew1) | exact HB.out)));(case aF => exact (fun _ _ => trivial));(case aO => exact (by (with_reducible repeat (first | apply Kd.R_alloc | apply Kd.R_drewN | apply Kd.R_drew));exact HO_6.out));(case aS => exact (below_size (by repeat (first | (with_reducible first | exact HB.out | apply below_alloc | apply pw_below_drewN | apply below_drew1) | exact HB.out))));(case aL => have:=LMc8.out;omega);intro v147 w11 ho hb hg hat;rw [← Ny146.out] at ho;have n0_:=Aside0.mk (hb);have n1_:=Aside0.mk (ho);clear HB;clear HO_6;have HB:=n0_;have HO148:=n1_;clear n0_ n1_;clear ho hb hg hat))
        go_roundg k1
        case measure => have:=HK1.out;omega
        case rel => exact ⟨(x0_1.extract (t144 : Int).toNat x0_1.size),(y146),(by first | rfl | (simp;done) | (simp [*];done)),H',⟨by have:=HK1.out;omega⟩,⟨by (with_reducible repeat (first | apply Kd.R_alloc | apply Kd.R_drewN | apply Kd.R_drew));exact HO148.out⟩,⟨by repeat (first | (with_reducible first | exact HB.out | apply below_alloc | apply pw_below_drewN | apply below_drew1) | exact HB.out)⟩⟩
       ·rw [if_neg c10] at H
        exact absurd H (by simp)
      ·rw [if_neg c9] at H
       exact absurd H (by simp)
     ·rw [if_neg c8] at H
      exact absurd H (by simp)
    ·rw [if_neg c7] at H
     have c7b0 : (t145 == 0) = false:=beq_eq_false_iff_ne.mpr c7
     have c7b1 : (t145 != 0) = true:=bne_iff_ne.mpr c7
     obtain ⟨y149,hy149⟩ : ∃ y_ : List ByteArray,y_ = (([] : List ByteArray)):=⟨_,rfl⟩
     replace H : (some (y149,t145)) = some (r1,r2):=by first | (rw [hy149];with_reducible exact H) | (have H2_:=(Option.bind_some _ _).symm.trans H;rw [hy149];with_reducible exact H2_) | (have H2_:=(Option.bind_some _ _).symm.trans H;with_reducible exact H2_) | with_reducible exact H | (rw [hy149];exact H) | exact H
     have Ny149:=Aside0.mk hy149
     clear hy149
     simp only [Option.some.injEq,Prod.mk.injEq] at H
     obtain ⟨rfl,rfl⟩:=H
     go_wp2_with (first | ((with_reducible refine gate_callee (f:=29) rfl ?_);refine goesL_ (some 17) rfl rfl Try.func29 (by kernel_rfl) rfl #[.string x0_1,.int .i64 a1] rfl (by (try simp only [List.map_toArray,List.map_cons,List.map_nil]);first | done | rfl | (simp only [List.length_drop,List.length_take];rfl)) ?_;(with_reducible refine (tachographref02_Get.calls k1 x0_1 a1 t143 t144 t145 _ A6.out).mono ?_);rintro e w' ⟨rfl,⟨nd,rfl⟩⟩;refine ⟨_,rfl,?_⟩) | ((with_reducible refine gate_dst (N:=23) rfl ?_);refine Kd.R_lit Kd.string _ 9 ?hg (N:=23) ?hd (xs:=([] : List ByteArray)) (inner:=[]) (ok:=fun _ => True) (okp:=fun _ => True) ?hr ?hp (fun _ hk => hk) trivial (Below.refl _ _) (Nat.le_refl _) (by simp) ?_;(case hd => rfl);(case hg => rfl);(case hr => first | (go_simp;done) | (go_simp;rfl));(case hp => exact (Reps.none _ _));intro v150 w12 ho13 hb hg_ hnew_;clear hg_ hnew_;(first | rw [← Ny149.out] at ho13 | (simp only [Int.reduceToNat] at ho13;rw [← Ny149.out] at ho13));have n0_:=Aside0.mk (Kd.R_elder' (by (with_reducible repeat (first | apply Kd.R_alloc | apply Kd.R_drewN | apply Kd.R_drew));exact HO_6.out) (Kd.R_base ho13) hb);have n1_:=Aside0.mk (Kd.R_lower (Kd.R_new' ho13 (Kd.R_lt (by (with_reducible repeat (first | apply Kd.R_alloc | apply Kd.R_drewN | apply Kd.R_drew));exact HO_6.out))) (below_size (by repeat (first | (with_reducible first | exact HB.out | apply below_alloc | apply pw_below_drewN | apply below_drew1) | exact HB.out))));have n2_:=Aside0.mk (below_step (by repeat (first | (with_reducible first | exact HB.out | apply below_alloc | apply pw_below_drewN | apply below_drew1) | exact HB.out)) hb);clear HO_6;clear HB;have HO_6:=n0_;have HO151:=n1_;have HB:=n2_;clear n0_ n1_ n2_;clear hb ho13))
     go_ret2
     exact ⟨_,by first | rfl | (simp [errW_none,errW_some] <;> rfl) | (simp [*,errW_none,errW_some] <;> rfl),by (with_reducible repeat (first | apply Kd.R_alloc | apply Kd.R_drewN | apply Kd.R_drew));exact Kd.R_mono HO151.out (fun _ hk => trivial),by repeat (first | (with_reducible first | exact HB.out | apply below_alloc | apply pw_below_drewN | apply below_drew1) | exact HB.out)⟩
   ·rw [if_neg c5] at H
    have c5b0 : decide (0 < (x0_1.size : Int)) = false:=decide_eq_false c5
    have c5b1 : decide (0 < x0_1.size) = false:=decide_eq_false (by omega)
    clear c5
    simp only [Option.some.injEq,Prod.mk.injEq] at H
    obtain ⟨rfl,rfl⟩:=H
    go_wp2
    go_ret2
    exact ⟨_,by first | rfl | (simp [errW_none,errW_some] <;> rfl) | (simp [*,errW_none,errW_some] <;> rfl),by (with_reducible repeat (first | apply Kd.R_alloc | apply Kd.R_drewN | apply Kd.R_drew));exact HO_6.out,by repeat (first | (with_reducible first | exact HB.out | apply below_alloc | apply pw_below_drewN | apply below_drew1) | exact HB.out)⟩

/-! ### tachographref02_Same: function 32 -/
def tachographref02_Same.l0 : Nat → List ByteArray → List ByteArray → Int → Option (Bool)
 | 0, _, _, _ => none
 | k + 1, x0, x1, x5 => if x5 < (x0.length : Int) then (if 0 ≤ x5 then (if x5 < (x1.length : Int) then (if (rdOf ByteArray.empty x0 x5).toList = (rdOf ByteArray.empty x1 x5).toList then (tachographref02_Same.l0 k x0 x1 (wrap64 (x5 + 1))) else (some false)) else (none)) else (none)) else (some true)
def tachographref02_Same.f (k : Nat) (l0 : List ByteArray) (l1 : List ByteArray) : Option (Bool) := if (l0.length : Int) = (l1.length : Int) then (tachographref02_Same.l0 k l0 l1 0) else (some false)
theorem tachographref02_Same.mono_l : ∀ k, (∀ y0 y1 y2, LeO (tachographref02_Same.l0 k y0 y1 y2) (tachographref02_Same.l0 (k + 1) y0 y1 y2))
 | 0 => fun _ _ _ r h => by simp [tachographref02_Same.l0] at h
 | k + 1 => by
  have ih0 := tachographref02_Same.mono_l k
  ·intro y0 y1 y2
   unfold tachographref02_Same.l0
   repeat' first
   | (with_reducible exact ih0 _ _ _)
   | (with_reducible exact LeO.refl _)
   | (with_reducible exact LeO.none _)
   | (with_reducible refine LeO.ite ?_ ?_)
   | (with_reducible refine LeO.bind ?_ (fun _ => ?_))
   | exact ih0 _ _ _
   | exact LeO.none _
   | refine LeO.ite ?_ ?_
   | refine LeO.bind ?_ (fun _ => ?_)
theorem tachographref02_Same.mono : ∀ a0 a1 k, LeO (tachographref02_Same.f k a0 a1) (tachographref02_Same.f (k + 1) a0 a1) := by
 intro a0 a1 k
 have ih0 := tachographref02_Same.mono_l k
 unfold tachographref02_Same.f
 repeat' first
   | (with_reducible exact ih0 _ _ _)
   | (with_reducible exact LeO.refl _)
   | (with_reducible exact LeO.none _)
   | (with_reducible refine LeO.ite ?_ ?_)
   | (with_reducible refine LeO.bind ?_ (fun _ => ?_))
   | exact ih0 _ _ _
   | exact LeO.none _
   | refine LeO.ite ?_ ?_
   | refine LeO.bind ?_ (fun _ => ?_)
set_option maxHeartbeats 8000000 in
set_option maxRecDepth 100000 in
theorem tachographref02_Same.calls (k : Nat) (A0 : Option Addr) (c0 : Nat) (l0 : List ByteArray) (A1 : Option Addr) (c1 : Nat) (l1 : List ByteArray) (r : Bool) (w : World) (hr0 : Kd.C Kd.string w A0 l0.length l0) (hc0 : l0.length ≤ c0) (hr1 : Kd.C Kd.string w A1 l1.length l1) (hc1 : l1.length ≤ c1) (h : tachographref02_Same.f k l0 l1 = some r) :
  Calls Try.prog 32 #[.slice A0 l0.length c0,.slice A1 l1.length c1] w fun e w' => e = .returned (.bool r) ∧ Drawn0 w w':=by
 have HR0:=Aside0.mk hr0
 have HC0:=Aside0.mk hc0
 clear hr0 hc0
 have HR1:=Aside0.mk hr1
 have HC1:=Aside0.mk hc1
 clear hr1 hc1
 have H : (if (l0.length : Int) = (l1.length : Int) then (tachographref02_Same.l0 k l0 l1 0) else (some false)) = some r:=h
 clear h
 by_cases c3 : (l0.length : Int) = (l1.length : Int)
 ·rw [if_pos c3] at H
  have c3b0 : ((l0.length : Int) == (l1.length : Int)) = true:=beq_iff_eq.mpr c3
  have c3b1 : ((l0.length : Int) != (l1.length : Int)) = false:=bne_eq_false_iff_eq.mpr c3
  have c3b2 : (l0.length == l1.length) = true:=by first | simpa using c3 | (simp at c3 ⊢;omega)
  clear c3
  have H':=Aside0.mk H
  clear H
  go_enter Try.func32,Try.ntmps32
  go_wp2
  repeat (go_quiet (fail);try go_wp2)
  go_loopg [5] k (fun kq v5 w' => ∃ (x5_1 : Int),v5 = .int .i64 x5_1 ∧ Aside0 (tachographref02_Same.l0 kq l0 l1 x5_1 = some r) ∧ Aside0 (kq ≤ k) ∧ Drawn0 w w')
  case atStart => exact ⟨(0),(by first | rfl | (simp;done) | (simp [*];done)),H',⟨Nat.le_refl _⟩,by repeat (first | exact Drawn0.refl _ | apply Drawn0.step)⟩
  case round =>
   clear H'
   try clear c1
   try clear p2
   try clear c3
   try clear c3b0
   try clear c3b1
   try clear c3b2
   obtain ⟨x5_1,rfl,HA,HK1,⟨m1,rfl⟩⟩:=hrel
   cases gk with
   | zero => exact absurd HA.out (by simp [tachographref02_Same.l0])
   | succ k1 =>
    have H:=HA.out
    clear HA
    simp only [tachographref02_Same.l0] at H
    by_cases c4 : x5_1 < (l0.length : Int)
    ·rw [if_pos c4] at H
     have c4b0 : decide (x5_1 < (l0.length : Int)) = true:=decide_eq_true c4
     clear c4
     by_cases c5 : 0 ≤ x5_1
     ·rw [if_pos c5] at H
      have c5b0 : decide (0 ≤ x5_1) = true:=decide_eq_true c5
      clear c5
      by_cases c6 : x5_1 < (l1.length : Int)
      ·rw [if_pos c6] at H
       have c6b0 : decide (x5_1 < (l1.length : Int)) = true:=decide_eq_true c6
       clear c6
       by_cases c7 : (rdOf ByteArray.empty l0 x5_1).toList = (rdOf ByteArray.empty l1 x5_1).toList
       ·rw [if_pos c7] at H
        have c7b0 : ((rdOf ByteArray.empty l0 x5_1).toList == (rdOf ByteArray.empty l1 x5_1).toList) = true:=beq_iff_eq.mpr c7
        have c7b1 : ((rdOf ByteArray.empty l0 x5_1).toList != (rdOf ByteArray.empty l1 x5_1).toList) = false:=bne_eq_false_iff_eq.mpr c7
        clear c7
        have H':=Aside0.mk H
        clear H
        have p152 : 0 ≤ (x5_1 : Int):=of_decide_eq_true (by first | (with_reducible assumption) | assumption)
        have q152 : x5_1 < (l0.length : Int):=of_decide_eq_true (by first | (with_reducible assumption) | assumption)
        obtain ⟨ad152,e152,hx152_0⟩:=Kd.at_string HR0.out x5_1 p152 q152
        cases e152
        replace p152:=eq_true p152
        replace q152:=eq_true q152
        have p153 : 0 ≤ (x5_1 : Int):=of_decide_eq_true (by first | (with_reducible assumption) | assumption)
        have q153 : x5_1 < (l1.length : Int):=of_decide_eq_true (by first | (with_reducible assumption) | assumption)
        obtain ⟨ad153,e153,hx153_0⟩:=Kd.at_string HR1.out x5_1 p153 q153
        cases e153
        replace p153:=eq_true p153
        replace q153:=eq_true q153
        go_wp2
        repeat (go_quiet (fail);try go_wp2)
        go_roundg k1
        case measure => have:=HK1.out;omega
        case rel => exact ⟨(wrap64 (x5_1 + 1)),(by first | rfl | (simp;done) | (simp [*];done)),H',⟨by have:=HK1.out;omega⟩,by repeat (first | exact Drawn0.refl _ | apply Drawn0.step)⟩
       ·rw [if_neg c7] at H
        have c7b0 : ((rdOf ByteArray.empty l0 x5_1).toList == (rdOf ByteArray.empty l1 x5_1).toList) = false:=beq_eq_false_iff_ne.mpr c7
        have c7b1 : ((rdOf ByteArray.empty l0 x5_1).toList != (rdOf ByteArray.empty l1 x5_1).toList) = true:=bne_iff_ne.mpr c7
        obtain rfl:=Option.some.inj H
        have p152 : 0 ≤ (x5_1 : Int):=of_decide_eq_true (by first | (with_reducible assumption) | assumption)
        have q152 : x5_1 < (l0.length : Int):=of_decide_eq_true (by first | (with_reducible assumption) | assumption)
        obtain ⟨ad152,e152,hx152_0⟩:=Kd.at_string HR0.out x5_1 p152 q152
        cases e152
        replace p152:=eq_true p152
        replace q152:=eq_true q152
        have p153 : 0 ≤ (x5_1 : Int):=of_decide_eq_true (by first | (with_reducible assumption) | assumption)
        have q153 : x5_1 < (l1.length : Int):=of_decide_eq_true (by first | (with_reducible assumption) | assumption)
        obtain ⟨ad153,e153,hx153_0⟩:=Kd.at_string HR1.out x5_1 p153 q153
        cases e153
        replace p153:=eq_true p153
        replace q153:=eq_true q153
        go_wp2
        repeat (go_quiet (fail);try go_wp2)
        go_ret
        exact ⟨by first | rfl | (simp;done) | (simp [*];done),by repeat (first | exact Drawn0.refl _ | apply Drawn0.step)⟩
      ·rw [if_neg c6] at H
       exact absurd H (by simp)
     ·rw [if_neg c5] at H
      exact absurd H (by simp)
    ·rw [if_neg c4] at H
     have c4b0 : decide (x5_1 < (l0.length : Int)) = false:=decide_eq_false c4
     clear c4
     obtain rfl:=Option.some.inj H
     go_wp2
     repeat (go_quiet (fail);try go_wp2)
     go_ret
     exact ⟨by first | rfl | (simp;done) | (simp [*];done),by repeat (first | exact Drawn0.refl _ | apply Drawn0.step)⟩
 ·rw [if_neg c3] at H
  have c3b0 : ((l0.length : Int) == (l1.length : Int)) = false:=beq_eq_false_iff_ne.mpr c3
  have c3b1 : ((l0.length : Int) != (l1.length : Int)) = true:=bne_iff_ne.mpr c3
  have c3b2 : (l0.length == l1.length) = false:=by first | simpa using c3 | (simp at c3 ⊢;omega)
  obtain rfl:=Option.some.inj H
  go_enter Try.func32,Try.ntmps32
  go_wp2
  repeat (go_quiet (fail);try go_wp2)
  go_ret
  exact ⟨by first | rfl | (simp;done) | (simp [*];done),by repeat (first | exact Drawn0.refl _ | apply Drawn0.step)⟩

end Go.Proofs.Ytjfklfmfeghjnaa.PA
