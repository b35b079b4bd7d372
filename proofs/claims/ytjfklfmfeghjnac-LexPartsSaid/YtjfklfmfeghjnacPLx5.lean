-- Contracts of Go functions, each with its plain Lean function: written by wip/tools/myprint.py of this work (the kit's print, with contracts proved by hand spliced in).
import Derived.Test.YtjfklfmfeghjnacPLx0
import Derived.Test.YtjfklfmfeghjnacPLx4
namespace Go.Proofs.Ytjfklfmfeghjnac.PL
open Go.RowKit Go.Proofs.YtjfklfmfeghjnacW.PrintWords Go.Proofs.YtjfklfmfeghjnacW.PrintLast Go.Proofs.YtjfklfmfeghjnacW.PrintMore
attribute [local go_sem] max2_int min2_int max_two min_two max_three min_three max_four min_four   -- for this text's walks alone
set_option linter.unusedVariables false
set_option linter.unusedSimpArgs false

/-! ### quote_digit: function 41 -/
def quote_digit.f (a0 : Int) : Option (Int × Bool) := if a0 ≥ 65 then (if a0 ≤ 70 then ((strings_IndexByte.f (⟨#[48, 49, 50, 51, 52, 53, 54, 55, 56, 57, 97, 98, 99, 100, 101, 102]⟩ : ByteArray) ((a0 + 32) % 256)).bind fun t117 => (some ((mx t117 0) % 256, decide (t117 ≥ 0)))) else ((strings_IndexByte.f (⟨#[48, 49, 50, 51, 52, 53, 54, 55, 56, 57, 97, 98, 99, 100, 101, 102]⟩ : ByteArray) a0).bind fun t118 => (some ((mx t118 0) % 256, decide (t118 ≥ 0))))) else ((strings_IndexByte.f (⟨#[48, 49, 50, 51, 52, 53, 54, 55, 56, 57, 97, 98, 99, 100, 101, 102]⟩ : ByteArray) a0).bind fun t119 => (some ((mx t119 0) % 256, decide (t119 ≥ 0))))
set_option maxHeartbeats 8000000 in
set_option maxRecDepth 100000 in
theorem quote_digit.calls (a0 : Int) (r1 : Int) (r2 : Bool) (w : World) (h : quote_digit.f a0 = some (r1,r2)) :
  Calls Try.prog 41 #[.int .u8 a0] w fun e w' => e = .returned (.tuple #[.int .u8 r1,.bool r2]) ∧ Below w.heap.size w w':=by
 have HB:=Aside0.mk (Below.refl w.heap.size w)
 have H : (if a0 ≥ 65 then (if a0 ≤ 70 then ((strings_IndexByte.f (⟨#[48,49,50,51,52,53,54,55,56,57,97,98,99,100,101,102]⟩ : ByteArray) ((a0 + 32) % 256)).bind fun t117 => (some ((mx t117 0) % 256,decide (t117 ≥ 0)))) else ((strings_IndexByte.f (⟨#[48,49,50,51,52,53,54,55,56,57,97,98,99,100,101,102]⟩ : ByteArray) a0).bind fun t118 => (some ((mx t118 0) % 256,decide (t118 ≥ 0))))) else ((strings_IndexByte.f (⟨#[48,49,50,51,52,53,54,55,56,57,97,98,99,100,101,102]⟩ : ByteArray) a0).bind fun t119 => (some ((mx t119 0) % 256,decide (t119 ≥ 0))))) = some (r1,r2):=h
 clear h
 by_cases c2 : a0 ≥ 65
 ·rw [if_pos c2] at H
  have c2b0 : decide (65 ≤ a0) = true:=decide_eq_true c2
  clear c2
  by_cases c3 : a0 ≤ 70
  ·rw [if_pos c3] at H
   have c3b0 : decide (a0 ≤ 70) = true:=decide_eq_true c3
   clear c3
   replace H:=Option.bind_eq_some_iff.mp H
   obtain ⟨t117,A40,H⟩:=H
   replace H : (some ((mx t117 0) % 256,decide (t117 ≥ 0))) = some (r1,r2):=H
   have A4:=Aside0.mk A40
   clear A40
   obtain ⟨ji5,hji5⟩ : ∃ j_ : Int,(mx t117 0) = j_:=⟨_,rfl⟩
   replace H : (some ((ji5) % 256,decide (t117 ≥ 0))) = some (r1,r2):=by first | (rw [hji5] at H;exact H) | (simp only [hji5] at H ⊢;exact H)
   (try rw [hji5] at A4)
   (try (have hji5l : 0 ≤ ji5:=by (rw [← hji5];unfold mx;(repeat' split) <;> omega)))
   (try (have hji5m : 0 ≤ ji5:=by omega))
   have hji5_ : (if t117 < 0 then 0 else t117) = ji5:=hji5
   simp only [Option.some.injEq,Prod.mk.injEq] at H
   obtain ⟨rfl,rfl⟩:=H
   go_enter Try.func41,Try.ntmps41
   go_wp2_with (first | ((with_reducible refine gate_callee (f:=36) rfl ?_);refine goesL_ (some 14) rfl rfl Try.func36 (by kernel_rfl) rfl #[.string (⟨#[48,49,50,51,52,53,54,55,56,57,97,98,99,100,101,102]⟩ : ByteArray),.int .u8 ((a0 + 32) % 256)] rfl (by (try simp only [List.map_toArray,List.map_cons,List.map_nil]);first | done | rfl | (simp only [List.length_drop,List.length_take];rfl)) ?_;(with_reducible refine (strings_IndexByte.calls (⟨#[48,49,50,51,52,53,54,55,56,57,97,98,99,100,101,102]⟩ : ByteArray) ((a0 + 32) % 256) t117 _ A4.out).mono ?_);rintro e w' ⟨rfl,⟨nd,rfl⟩⟩;refine ⟨_,rfl,?_⟩))
   go_ret2
   exact ⟨by first | rfl | (simp [errW_none,errW_some] <;> rfl) | (simp only [← hji5];first | rfl | (simp [errW_none,errW_some] <;> rfl)) | (simp [*,errW_none,errW_some] <;> rfl),by repeat (first | (with_reducible first | exact HB.out | apply below_alloc | apply pw_below_drewN | apply below_drew1) | exact HB.out)⟩
  ·rw [if_neg c3] at H
   have c3b0 : decide (a0 ≤ 70) = false:=decide_eq_false c3
   clear c3
   replace H:=Option.bind_eq_some_iff.mp H
   obtain ⟨t118,A60,H⟩:=H
   replace H : (some ((mx t118 0) % 256,decide (t118 ≥ 0))) = some (r1,r2):=H
   have A6:=Aside0.mk A60
   clear A60
   obtain ⟨ji7,hji7⟩ : ∃ j_ : Int,(mx t118 0) = j_:=⟨_,rfl⟩
   replace H : (some ((ji7) % 256,decide (t118 ≥ 0))) = some (r1,r2):=by first | (rw [hji7] at H;exact H) | (simp only [hji7] at H ⊢;exact H)
   (try rw [hji7] at A6)
   (try (have hji7l : 0 ≤ ji7:=by (rw [← hji7];unfold mx;(repeat' split) <;> omega)))
   (try (have hji7m : 0 ≤ ji7:=by omega))
   have hji7_ : (if t118 < 0 then 0 else t118) = ji7:=hji7
   simp only [Option.some.injEq,Prod.mk.injEq] at H
   obtain ⟨rfl,rfl⟩:=H
   go_enter Try.func41,Try.ntmps41
   go_wp2_with (first | ((with_reducible refine gate_callee (f:=36) rfl ?_);refine goesL_ (some 14) rfl rfl Try.func36 (by kernel_rfl) rfl #[.string (⟨#[48,49,50,51,52,53,54,55,56,57,97,98,99,100,101,102]⟩ : ByteArray),.int .u8 a0] rfl (by (try simp only [List.map_toArray,List.map_cons,List.map_nil]);first | done | rfl | (simp only [List.length_drop,List.length_take];rfl)) ?_;(with_reducible refine (strings_IndexByte.calls (⟨#[48,49,50,51,52,53,54,55,56,57,97,98,99,100,101,102]⟩ : ByteArray) a0 t118 _ A6.out).mono ?_);rintro e w' ⟨rfl,⟨nd,rfl⟩⟩;refine ⟨_,rfl,?_⟩))
   go_ret2
   exact ⟨by first | rfl | (simp [errW_none,errW_some] <;> rfl) | (simp only [← hji7];first | rfl | (simp [errW_none,errW_some] <;> rfl)) | (simp [*,errW_none,errW_some] <;> rfl),by repeat (first | (with_reducible first | exact HB.out | apply below_alloc | apply pw_below_drewN | apply below_drew1) | exact HB.out)⟩
 ·rw [if_neg c2] at H
  have c2b0 : decide (65 ≤ a0) = false:=decide_eq_false c2
  clear c2
  replace H:=Option.bind_eq_some_iff.mp H
  obtain ⟨t119,A80,H⟩:=H
  replace H : (some ((mx t119 0) % 256,decide (t119 ≥ 0))) = some (r1,r2):=H
  have A8:=Aside0.mk A80
  clear A80
  obtain ⟨ji9,hji9⟩ : ∃ j_ : Int,(mx t119 0) = j_:=⟨_,rfl⟩
  replace H : (some ((ji9) % 256,decide (t119 ≥ 0))) = some (r1,r2):=by first | (rw [hji9] at H;exact H) | (simp only [hji9] at H ⊢;exact H)
  (try rw [hji9] at A8)
  (try (have hji9l : 0 ≤ ji9:=by (rw [← hji9];unfold mx;(repeat' split) <;> omega)))
  (try (have hji9m : 0 ≤ ji9:=by omega))
  have hji9_ : (if t119 < 0 then 0 else t119) = ji9:=hji9
  simp only [Option.some.injEq,Prod.mk.injEq] at H
  obtain ⟨rfl,rfl⟩:=H
  go_enter Try.func41,Try.ntmps41
  go_wp2_with (first | ((with_reducible refine gate_callee (f:=36) rfl ?_);refine goesL_ (some 14) rfl rfl Try.func36 (by kernel_rfl) rfl #[.string (⟨#[48,49,50,51,52,53,54,55,56,57,97,98,99,100,101,102]⟩ : ByteArray),.int .u8 a0] rfl (by (try simp only [List.map_toArray,List.map_cons,List.map_nil]);first | done | rfl | (simp only [List.length_drop,List.length_take];rfl)) ?_;(with_reducible refine (strings_IndexByte.calls (⟨#[48,49,50,51,52,53,54,55,56,57,97,98,99,100,101,102]⟩ : ByteArray) a0 t119 _ A8.out).mono ?_);rintro e w' ⟨rfl,⟨nd,rfl⟩⟩;refine ⟨_,rfl,?_⟩))
  go_ret2
  exact ⟨by first | rfl | (simp [errW_none,errW_some] <;> rfl) | (simp only [← hji9];first | rfl | (simp [errW_none,errW_some] <;> rfl)) | (simp [*,errW_none,errW_some] <;> rfl),by repeat (first | (with_reducible first | exact HB.out | apply below_alloc | apply pw_below_drewN | apply below_drew1) | exact HB.out)⟩

/-! ### quote_escape: function 31 -/
mutual
def quote_escape.j0 : Nat → ByteArray → Int → Bool → Option (Int × Int × Int)
 | 0, _, _, _ => none
 | k + 1, x0, x13, x14 => if x14 = true then (if 1 < (x0.size : Int) then (some (bt x0 1, 2, 0)) else (none)) else (if x13 = 110 then (some (10, 2, 0)) else (if x13 = 120 then (quote_escape.l0 k x0 0 2) else (some (0, 0, 4))))
def quote_escape.l0 : Nat → ByteArray → Int → Int → Option (Int × Int × Int)
 | 0, _, _, _ => none
 | k + 1, x0, x5, x6 => if x6 < 4 then (if x6 ≥ (x0.size : Int) then (some (0, 0, 2)) else (if 0 ≤ x6 then (if x6 < (x0.size : Int) then ((quote_digit.f (bt x0 x6)).bind fun bt120 => (if bt120.2 = true then (quote_escape.l0 k x0 (Go.bits .or .u8 ((x5 * 16) % 256) bt120.1) (wrap64 (x6 + 1))) else (some (0, 0, 4)))) else (none)) else (none))) else (some (x5, 4, 0))
end
def quote_escape.f (k : Nat) (a0 : ByteArray) : Option (Int × Int × Int) := if (a0.size : Int) < 2 then (some (0, 0, 2)) else (if 1 < (a0.size : Int) then (if (bt a0 1) = 34 then (quote_escape.j0 k a0 (bt a0 1) ((bt a0 1) == 34)) else (quote_escape.j0 k a0 (bt a0 1) ((bt a0 1) == 92))) else (none))
theorem quote_escape.mono_l : ∀ k, (∀ y0 y1 y2, LeO (quote_escape.j0 k y0 y1 y2) (quote_escape.j0 (k + 1) y0 y1 y2)) ∧ (∀ y0 y1 y2, LeO (quote_escape.l0 k y0 y1 y2) (quote_escape.l0 (k + 1) y0 y1 y2))
 | 0 => ⟨fun _ _ _ r h => by simp [quote_escape.j0] at h, fun _ _ _ r h => by simp [quote_escape.l0] at h⟩
 | k + 1 => by
  obtain ⟨ih0, ih1⟩ := quote_escape.mono_l k
  refine ⟨?_, ?_⟩
  ·intro y0 y1 y2
   unfold quote_escape.j0
   repeat' first
   | (with_reducible exact ih0 _ _ _)
   | (with_reducible exact ih1 _ _ _)
   | (with_reducible exact LeO.refl _)
   | (with_reducible exact LeO.none _)
   | (with_reducible refine LeO.ite ?_ ?_)
   | (with_reducible refine LeO.bind ?_ (fun _ => ?_))
   | exact ih0 _ _ _
   | exact ih1 _ _ _
   | exact LeO.none _
   | refine LeO.ite ?_ ?_
   | refine LeO.bind ?_ (fun _ => ?_)
  ·intro y0 y1 y2
   unfold quote_escape.l0
   repeat' first
   | (with_reducible exact ih0 _ _ _)
   | (with_reducible exact ih1 _ _ _)
   | (with_reducible exact LeO.refl _)
   | (with_reducible exact LeO.none _)
   | (with_reducible refine LeO.ite ?_ ?_)
   | (with_reducible refine LeO.bind ?_ (fun _ => ?_))
   | exact ih0 _ _ _
   | exact ih1 _ _ _
   | exact LeO.none _
   | refine LeO.ite ?_ ?_
   | refine LeO.bind ?_ (fun _ => ?_)
theorem quote_escape.mono : ∀ a0 k, LeO (quote_escape.f k a0) (quote_escape.f (k + 1) a0) := by
 intro a0 k
 obtain ⟨ih0, ih1⟩ := quote_escape.mono_l k
 unfold quote_escape.f
 repeat' first
   | (with_reducible exact ih0 _ _ _)
   | (with_reducible exact ih1 _ _ _)
   | (with_reducible exact LeO.refl _)
   | (with_reducible exact LeO.none _)
   | (with_reducible refine LeO.ite ?_ ?_)
   | (with_reducible refine LeO.bind ?_ (fun _ => ?_))
   | exact ih0 _ _ _
   | exact ih1 _ _ _
   | exact LeO.none _
   | refine LeO.ite ?_ ?_
   | refine LeO.bind ?_ (fun _ => ?_)
set_option maxHeartbeats 8000000 in
set_option maxRecDepth 100000 in
theorem quote_escape.calls (k : Nat) (a0 : ByteArray) (r1 : Int) (r2 : Int) (r3 : Int) (w : World) (h : quote_escape.f k a0 = some (r1,r2,r3)) :
  Calls Try.prog 31 #[.string a0] w fun e w' => e = .returned (.tuple #[.int .u8 r1,.int .i64 r2,.int .i64 r3]) ∧ Below w.heap.size w w':=by
 have HB:=Aside0.mk (Below.refl w.heap.size w)
 have H : (if (a0.size : Int) < 2 then (some (0,0,2)) else (if 1 < (a0.size : Int) then (if (bt a0 1) = 34 then (quote_escape.j0 k a0 (bt a0 1) ((bt a0 1) == 34)) else (quote_escape.j0 k a0 (bt a0 1) ((bt a0 1) == 92))) else (none))) = some (r1,r2,r3):=h
 clear h
 by_cases c2 : (a0.size : Int) < 2
 ·rw [if_pos c2] at H
  have c2b0 : decide ((a0.size : Int) < 2) = true:=decide_eq_true c2
  have c2b1 : decide (a0.size < 2) = true:=decide_eq_true (by omega)
  clear c2
  simp only [Option.some.injEq,Prod.mk.injEq] at H
  obtain ⟨rfl,rfl,rfl⟩:=H
  go_enter Try.func31,Try.ntmps31
  go_wp2
  go_ret3
  exact ⟨by first | rfl | (simp [errW_none,errW_some] <;> rfl) | (simp [*,errW_none,errW_some] <;> rfl),by repeat (first | (with_reducible first | exact HB.out | apply below_alloc | apply pw_below_drewN | apply below_drew1) | exact HB.out)⟩
 ·rw [if_neg c2] at H
  have c2b0 : decide ((a0.size : Int) < 2) = false:=decide_eq_false c2
  have c2b1 : decide (a0.size < 2) = false:=decide_eq_false (by omega)
  clear c2
  by_cases c3 : 1 < (a0.size : Int)
  ·rw [if_pos c3] at H
   have c3b0 : decide (1 < (a0.size : Int)) = true:=decide_eq_true c3
   have c3b1 : decide (1 < a0.size) = true:=decide_eq_true (by omega)
   clear c3
   have HC5:=Aside0.mk H
   clear H
   have p4 : 0 ≤ (1 : Int):=(by omega)
   have q4 : 1 < a0.size:=(by have : (1 : Int) < (a0.size : Int):=of_decide_eq_true (by first | (with_reducible assumption) | assumption);omega)
   have hx4 : ∀ h : 1 < a0.size,((a0[1]'h).toNat : Int) = bt a0 1:=bt_at a0 1
   clear p4
   have qi4 : (1 < (a0.size : Int)) = True:=eq_true (of_decide_eq_true (by first | (with_reducible assumption) | assumption))
   replace q4:=eq_true q4
   go_enter Try.func31,Try.ntmps31
   go_upto_if 14 with (fail)
   go_cut [14] (fun v14 wc => ∃ (kq : Nat) (x14_4 : Bool),v14 = .bool x14_4 ∧ Aside0 (quote_escape.j0 kq a0 (bt a0 1) x14_4 = some (r1,r2,r3)) ∧ Aside0 (kq ≤ k) ∧ Aside0 (Below w.heap.size w wc))
   case first =>
    have H:=HC5.out
    clear HC5
    by_cases c6 : (bt a0 1) = 34
    ·rw [if_pos c6] at H
     have c6b0 : ((bt a0 1) == 34) = true:=beq_iff_eq.mpr c6
     have c6b1 : ((bt a0 1) != 34) = false:=bne_eq_false_iff_eq.mpr c6
     clear c6
     (first | rw [c6b0] | (simp only [i64_w,i32_w];rw [c6b0]) | skip)
     have H':=Aside0.mk H
     clear H
     go_wp2
     go_meet
     case rel => exact ⟨_,(((bt a0 1) == 34)),(by first | rfl | (simp;done) | (simp [*];done)),H',⟨by first | omega | exact Nat.le_refl _⟩,⟨by repeat (first | (with_reducible first | exact HB.out | apply below_alloc | apply pw_below_drewN | apply below_drew1) | exact HB.out)⟩⟩
    ·rw [if_neg c6] at H
     have c6b0 : ((bt a0 1) == 34) = false:=beq_eq_false_iff_ne.mpr c6
     have c6b1 : ((bt a0 1) != 34) = true:=bne_iff_ne.mpr c6
     (first | rw [c6b0] | (simp only [i64_w,i32_w];rw [c6b0]) | skip)
     have H':=Aside0.mk H
     clear H
     go_wp2
     go_meet
     case rel => exact ⟨_,(((bt a0 1) == 92)),(by first | rfl | (simp;done) | (simp [*];done)),H',⟨by first | omega | exact Nat.le_refl _⟩,⟨by repeat (first | (with_reducible first | exact HB.out | apply below_alloc | apply pw_below_drewN | apply below_drew1) | exact HB.out)⟩⟩
   case rest =>
    clear HC5
    try clear c2
    try clear c2b0
    try clear c2b1
    try clear p2
    try clear c3
    try clear c3b0
    try clear c3b1
    try clear p4
    try clear q4
    try clear hx4
    try clear qi4
    try clear c6
    try clear c6b0
    try clear c6b1
    try clear p4
    try clear q4
    obtain ⟨kq,x14_4,rfl,HA,HJ4,HB⟩:=hcut
    cases kq with
    | zero => exact absurd HA.out (by simp [quote_escape.j0])
    | succ kj4 =>
     have H:=HA.out
     clear HA
     simp only [quote_escape.j0] at H
     by_cases c7 : x14_4 = true
     ·subst c7
      have H1 : (if 1 < (a0.size : Int) then (some (bt a0 1,2,0)) else (none)) = some (r1,r2,r3):=by rw [if_pos rfl] at H;exact H
      clear H
      have H:=H1
      clear H1
      by_cases c8 : 1 < (a0.size : Int)
      ·rw [if_pos c8] at H
       have c8b0 : decide (1 < (a0.size : Int)) = true:=decide_eq_true c8
       have c8b1 : decide (1 < a0.size) = true:=decide_eq_true (by omega)
       clear c8
       simp only [Option.some.injEq,Prod.mk.injEq] at H
       obtain ⟨rfl,rfl,rfl⟩:=H
       have p9 : 0 ≤ (1 : Int):=(by omega)
       have q9 : 1 < a0.size:=(by have : (1 : Int) < (a0.size : Int):=of_decide_eq_true (by first | (with_reducible assumption) | assumption);omega)
       have hx9 : ∀ h : 1 < a0.size,((a0[1]'h).toNat : Int) = bt a0 1:=bt_at a0 1
       clear p9
       have qi9 : (1 < (a0.size : Int)) = True:=eq_true (of_decide_eq_true (by first | (with_reducible assumption) | assumption))
       replace q9:=eq_true q9
       go_wp2
       go_ret3
       exact ⟨by first | rfl | (simp [errW_none,errW_some] <;> rfl) | (simp [*,errW_none,errW_some] <;> rfl),by repeat (first | (with_reducible first | exact HB.out | apply below_alloc | apply pw_below_drewN | apply below_drew1) | exact HB.out)⟩
      ·rw [if_neg c8] at H
       exact absurd H (by simp)
     ·replace c7:=Bool.eq_false_iff.mpr c7
      subst c7
      have H1 : (if (bt a0 1) = 110 then (some (10,2,0)) else (if (bt a0 1) = 120 then (quote_escape.l0 kj4 a0 0 2) else (some (0,0,4)))) = some (r1,r2,r3):=by rw [if_neg (show ¬ (false = true) by decide)] at H;exact H
      clear H
      have H:=H1
      clear H1
      by_cases c10 : (bt a0 1) = 110
      ·rw [if_pos c10] at H
       have c10b0 : ((bt a0 1) == 110) = true:=beq_iff_eq.mpr c10
       have c10b1 : ((bt a0 1) != 110) = false:=bne_eq_false_iff_eq.mpr c10
       clear c10
       simp only [Option.some.injEq,Prod.mk.injEq] at H
       obtain ⟨rfl,rfl,rfl⟩:=H
       go_wp2
       go_ret3
       exact ⟨by first | rfl | (simp [errW_none,errW_some] <;> rfl) | (simp [*,errW_none,errW_some] <;> rfl),by repeat (first | (with_reducible first | exact HB.out | apply below_alloc | apply pw_below_drewN | apply below_drew1) | exact HB.out)⟩
      ·rw [if_neg c10] at H
       have c10b0 : ((bt a0 1) == 110) = false:=beq_eq_false_iff_ne.mpr c10
       have c10b1 : ((bt a0 1) != 110) = true:=bne_iff_ne.mpr c10
       by_cases c11 : (bt a0 1) = 120
       ·rw [if_pos c11] at H
        have c11b0 : ((bt a0 1) == 120) = true:=beq_iff_eq.mpr c11
        have c11b1 : ((bt a0 1) != 120) = false:=bne_eq_false_iff_eq.mpr c11
        clear c11
        have H':=Aside0.mk H
        clear H
        go_wp2
        go_loopg [5,6] kj4 (fun kq v5 v6 w' => ∃ (x5_2 : Int) (x6_2 : Int),v5 = .int .u8 x5_2 ∧ v6 = .int .i64 x6_2 ∧ Aside0 (quote_escape.l0 kq a0 x5_2 x6_2 = some (r1,r2,r3)) ∧ Aside0 (kq ≤ kj4) ∧ Aside0 (Below w.heap.size w w'))
        case atStart => exact ⟨(0),(2),(by first | rfl | (simp;done) | (simp [*];done)),(by first | rfl | (simp;done) | (simp [*];done)),H',⟨Nat.le_refl _⟩,⟨by repeat (first | (with_reducible first | exact HB.out | apply below_alloc | apply pw_below_drewN | apply below_drew1) | exact HB.out)⟩⟩
        case round =>
         clear H'
         try clear c1
         try clear c2
         try clear c2b0
         try clear c2b1
         try clear p2
         try clear c3
         try clear c3b0
         try clear c3b1
         try clear p4
         try clear q4
         try clear hx4
         try clear qi4
         try clear c6
         try clear c6b0
         try clear c6b1
         try clear c7
         try clear c8
         try clear c8b0
         try clear c8b1
         try clear p9
         try clear q9
         try clear hx9
         try clear qi9
         try clear c10
         try clear c10b0
         try clear c10b1
         try clear c11
         try clear c11b0
         try clear c11b1
         try clear p2
         try clear p4
         try clear p9
         try clear q4
         try clear q9
         obtain ⟨x5_2,x6_2,rfl,rfl,HA,HK2,HB⟩:=hrel
         cases gk with
         | zero => exact absurd HA.out (by simp [quote_escape.l0])
         | succ k2 =>
          have H:=HA.out
          clear HA
          simp only [quote_escape.l0] at H
          by_cases c12 : x6_2 < 4
          ·rw [if_pos c12] at H
           have c12b0 : decide (x6_2 < 4) = true:=decide_eq_true c12
           clear c12
           by_cases c13 : x6_2 ≥ (a0.size : Int)
           ·rw [if_pos c13] at H
            have c13b0 : decide ((a0.size : Int) ≤ x6_2) = true:=decide_eq_true c13
            clear c13
            simp only [Option.some.injEq,Prod.mk.injEq] at H
            obtain ⟨rfl,rfl,rfl⟩:=H
            go_wp2
            go_ret3
            exact ⟨by first | rfl | (simp [errW_none,errW_some] <;> rfl) | (simp [*,errW_none,errW_some] <;> rfl),by repeat (first | (with_reducible first | exact HB.out | apply below_alloc | apply pw_below_drewN | apply below_drew1) | exact HB.out)⟩
           ·rw [if_neg c13] at H
            have c13b0 : decide ((a0.size : Int) ≤ x6_2) = false:=decide_eq_false c13
            clear c13
            by_cases c14 : 0 ≤ x6_2
            ·rw [if_pos c14] at H
             have c14b0 : decide (0 ≤ x6_2) = true:=decide_eq_true c14
             clear c14
             by_cases c15 : x6_2 < (a0.size : Int)
             ·rw [if_pos c15] at H
              have c15b0 : decide (x6_2 < (a0.size : Int)) = true:=decide_eq_true c15
              clear c15
              replace H:=Option.bind_eq_some_iff.mp H
              obtain ⟨⟨t120,t121⟩,A170,H⟩:=H
              replace H : (if t121 = true then (quote_escape.l0 k2 a0 (Go.bits .or .u8 ((x5_2 * 16) % 256) t120) (wrap64 (x6_2 + 1))) else (some (0,0,4))) = some (r1,r2,r3):=H
              have A17:=Aside0.mk A170
              clear A170
              by_cases c18 : t121 = true
              ·subst c18
               have H1 : (quote_escape.l0 k2 a0 (Go.bits .or .u8 ((x5_2 * 16) % 256) t120) (wrap64 (x6_2 + 1))) = some (r1,r2,r3):=by rw [if_pos rfl] at H;exact H
               clear H
               have H:=H1
               clear H1
               have H':=Aside0.mk H
               clear H
               have p16 : 0 ≤ (x6_2 : Int):=of_decide_eq_true (by first | (with_reducible assumption) | assumption)
               have q16 : x6_2 < (a0.size : Int):=of_decide_eq_true (by first | (with_reducible assumption) | assumption)
               have hx16:=bt_at a0 x6_2
               replace p16:=eq_true p16
               replace q16:=eq_true q16
               go_wp2_with (first | ((with_reducible refine gate_callee (f:=41) rfl ?_);refine goesL_ (some 35) rfl rfl Try.func41 (by kernel_rfl) rfl #[.int .u8 (bt a0 x6_2)] rfl (by (try simp only [List.map_toArray,List.map_cons,List.map_nil]);first | done | rfl | (simp only [List.length_drop,List.length_take];rfl)) ?_;(with_reducible refine (quote_digit.calls (bt a0 x6_2) t120 true _ A17.out).mono ?_);rintro e w19 ⟨rfl,hb⟩;refine ⟨_,rfl,?_⟩;have n0_:=Aside0.mk (below_step (by repeat (first | (with_reducible first | exact HB.out | apply below_alloc | apply pw_below_drewN | apply below_drew1) | exact HB.out)) hb);clear HB;have HB:=n0_;clear n0_;(try clear hb);(try clear hb2);(try clear hk);(try clear hi)))
               go_roundg k2
               case measure => have:=HJ4.out;have:=HK2.out;omega
               case rel => exact ⟨(Go.bits .or .u8 ((x5_2 * 16) % 256) t120),(wrap64 (x6_2 + 1)),(by first | rfl | (simp;done) | (simp [*];done)),(by first | rfl | (simp;done) | (simp [*];done)),H',⟨by have:=HJ4.out;have:=HK2.out;omega⟩,⟨by repeat (first | (with_reducible first | exact HB.out | apply below_alloc | apply pw_below_drewN | apply below_drew1) | exact HB.out)⟩⟩
              ·replace c18:=Bool.eq_false_iff.mpr c18
               subst c18
               have H1 : (some (0,0,4)) = some (r1,r2,r3):=by rw [if_neg (show ¬ (false = true) by decide)] at H;exact H
               clear H
               have H:=H1
               clear H1
               simp only [Option.some.injEq,Prod.mk.injEq] at H
               obtain ⟨rfl,rfl,rfl⟩:=H
               have p16 : 0 ≤ (x6_2 : Int):=of_decide_eq_true (by first | (with_reducible assumption) | assumption)
               have q16 : x6_2 < (a0.size : Int):=of_decide_eq_true (by first | (with_reducible assumption) | assumption)
               have hx16:=bt_at a0 x6_2
               replace p16:=eq_true p16
               replace q16:=eq_true q16
               go_wp2_with (first | ((with_reducible refine gate_callee (f:=41) rfl ?_);refine goesL_ (some 35) rfl rfl Try.func41 (by kernel_rfl) rfl #[.int .u8 (bt a0 x6_2)] rfl (by (try simp only [List.map_toArray,List.map_cons,List.map_nil]);first | done | rfl | (simp only [List.length_drop,List.length_take];rfl)) ?_;(with_reducible refine (quote_digit.calls (bt a0 x6_2) t120 false _ A17.out).mono ?_);rintro e w20 ⟨rfl,hb⟩;refine ⟨_,rfl,?_⟩;have n0_:=Aside0.mk (below_step (by repeat (first | (with_reducible first | exact HB.out | apply below_alloc | apply pw_below_drewN | apply below_drew1) | exact HB.out)) hb);clear HB;have HB:=n0_;clear n0_;(try clear hb);(try clear hb2);(try clear hk);(try clear hi)))
               go_ret3
               exact ⟨by first | rfl | (simp [errW_none,errW_some] <;> rfl) | (simp [*,errW_none,errW_some] <;> rfl),by repeat (first | (with_reducible first | exact HB.out | apply below_alloc | apply pw_below_drewN | apply below_drew1) | exact HB.out)⟩
             ·rw [if_neg c15] at H
              exact absurd H (by simp)
            ·rw [if_neg c14] at H
             exact absurd H (by simp)
          ·rw [if_neg c12] at H
           have c12b0 : decide (x6_2 < 4) = false:=decide_eq_false c12
           clear c12
           simp only [Option.some.injEq,Prod.mk.injEq] at H
           obtain ⟨rfl,rfl,rfl⟩:=H
           go_wp2
           go_ret3
           exact ⟨by first | rfl | (simp [errW_none,errW_some] <;> rfl) | (simp [*,errW_none,errW_some] <;> rfl),by repeat (first | (with_reducible first | exact HB.out | apply below_alloc | apply pw_below_drewN | apply below_drew1) | exact HB.out)⟩
       ·rw [if_neg c11] at H
        have c11b0 : ((bt a0 1) == 120) = false:=beq_eq_false_iff_ne.mpr c11
        have c11b1 : ((bt a0 1) != 120) = true:=bne_iff_ne.mpr c11
        simp only [Option.some.injEq,Prod.mk.injEq] at H
        obtain ⟨rfl,rfl,rfl⟩:=H
        go_wp2
        go_ret3
        exact ⟨by first | rfl | (simp [errW_none,errW_some] <;> rfl) | (simp [*,errW_none,errW_some] <;> rfl),by repeat (first | (with_reducible first | exact HB.out | apply below_alloc | apply pw_below_drewN | apply below_drew1) | exact HB.out)⟩
  ·rw [if_neg c3] at H
   exact absurd H (by simp)

end Go.Proofs.Ytjfklfmfeghjnac.PL
