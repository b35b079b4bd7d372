-- Contracts of Go functions, each with its plain Lean function: written by wip/tools/myprint.py of this work (the kit's print, with contracts proved by hand spliced in).
import Derived.Test.YtjfklfmfeghjnabPGx0
import Derived.Test.YtjfklfmfeghjnabPGx6
import Derived.Test.YtjfklfmfeghjnabPGx8
namespace Go.Proofs.Ytjfklfmfeghjnab.PG
open Go.RowKit Go.Proofs.YtjfklfmfeghjnabW.PrintWords Go.Proofs.YtjfklfmfeghjnabW.PrintLast Go.Proofs.YtjfklfmfeghjnabW.PrintMore
attribute [local go_sem] max2_int min2_int max_two min_two max_three min_three max_four min_four   -- for this text's walks alone
set_option linter.unusedVariables false
set_option linter.unusedSimpArgs false

/-! ### tachographref11_Get: function 42 -/
mutual
def tachographref11_Get.l0 : Nat → ByteArray → List (S106) → Int → Int → List (S106) → Int → Option ((List (S106)) × Int)
 | 0, _, _, _, _, _, _ => none
 | k + 1, x0, x4, x5, x6, x8, x9 => if x9 < (wrap64 (x5)) then (if 0 ≤ x6 then (if x6 ≤ (x0.size : Int) then ((tachographref02_Get.f k (x0.extract (x6 : Int).toNat x0.size) 32).bind fun bt219 => (if bt219.2.2 = 0 then (if 0 ≤ (wrap64 (x6 + bt219.2.1)) then (if (wrap64 (x6 + bt219.2.1)) ≤ (x0.size : Int) then ((tachographref01_Get.f k (x0.extract ((wrap64 (x6 + bt219.2.1)) : Int).toNat x0.size)).bind fun bt222 => (if bt222.2.2 = 0 then (if bt222.1 > 8 then (some (x4, 6)) else (tachographref11_Get.l1 k x0 x4 x5 (wrap64 ((wrap64 (x6 + bt219.2.1)) + bt222.2.1)) x8 x9 bt222.1 0 bt219.1 ([] : List Int))) else (some (x4, bt222.2.2)))) else (none)) else (none)) else (some (x4, bt219.2.2)))) else (none)) else (none)) else (if x6 < (x0.size : Int) then (some (x4, 4)) else ((tachographref09_Check.f k x8).bind fun t232 => (if t232 = 0 then (some (x8, 0)) else (some (x4, t232)))))
def tachographref11_Get.l1 : Nat → ByteArray → List (S106) → Int → Int → List (S106) → Int → Int → Int → ByteArray → List Int → Option ((List (S106)) × Int)
 | 0, _, _, _, _, _, _, _, _, _, _ => none
 | k + 1, x0, x4, x5, x6, x8, x9, x13, x17, x226000, x226001 => if x17 < (wrap64 (x13)) then (if x6 = (x0.size : Int) then (some (x4, 2)) else (if 0 ≤ x6 then (if x6 < (x0.size : Int) then (if x226001.length < 17592186044416 then (tachographref11_Get.l1 k x0 x4 x5 (wrap64 (x6 + 1)) x8 x9 x13 (wrap64 (x17 + 1)) x226000 (x226001 ++ [wrap64 (bt x0 x6)])) else (none)) else (none)) else (none))) else (if x8.length < 3518437208883 then (tachographref11_Get.l0 k x0 x4 x5 x6 (x8 ++ [(⟨x226000, x226001⟩ : S106)]) (wrap64 (x9 + 1))) else (none))
end
def tachographref11_Get.f (k : Nat) (a0 : ByteArray) : Option ((List (S106)) × Int) := (some (([] : List (S106)) : List (S106))).bind fun y210 => ((tachographref01_Get.f k a0).bind fun bt213 => (if bt213.2.2 = 0 then (if bt213.1 > 64 then (some (y210, 6)) else (tachographref11_Get.l0 k a0 y210 bt213.1 bt213.2.1 (([] : List (S106))) 0)) else (some (y210, bt213.2.2))))
theorem tachographref11_Get.mono_l : ∀ k, (∀ y0 y1 y2 y3 y4 y5, LeO (tachographref11_Get.l0 k y0 y1 y2 y3 y4 y5) (tachographref11_Get.l0 (k + 1) y0 y1 y2 y3 y4 y5)) ∧ (∀ y0 y1 y2 y3 y4 y5 y6 y7 y8 y9, LeO (tachographref11_Get.l1 k y0 y1 y2 y3 y4 y5 y6 y7 y8 y9) (tachographref11_Get.l1 (k + 1) y0 y1 y2 y3 y4 y5 y6 y7 y8 y9))
 | 0 => ⟨fun _ _ _ _ _ _ r h => by simp [tachographref11_Get.l0] at h, fun _ _ _ _ _ _ _ _ _ _ r h => by simp [tachographref11_Get.l1] at h⟩
 | k + 1 => by
  obtain ⟨ih0, ih1⟩ := tachographref11_Get.mono_l k
  refine ⟨?_, ?_⟩
  ·intro y0 y1 y2 y3 y4 y5
   unfold tachographref11_Get.l0
   repeat' first
   | (with_reducible exact ih0 _ _ _ _ _ _)
   | (with_reducible exact ih1 _ _ _ _ _ _ _ _ _ _)
   | (with_reducible exact tachographref01_Get.mono _ _)
   | (with_reducible exact tachographref02_Get.mono _ _ _)
   | (with_reducible exact tachographref09_Check.mono _ _)
   | (with_reducible exact LeO.refl _)
   | (with_reducible exact LeO.none _)
   | (with_reducible refine LeO.ite ?_ ?_)
   | (with_reducible refine LeO.bind ?_ (fun _ => ?_))
   | exact ih0 _ _ _ _ _ _
   | exact ih1 _ _ _ _ _ _ _ _ _ _
   | exact tachographref01_Get.mono _ _
   | exact tachographref02_Get.mono _ _ _
   | exact tachographref09_Check.mono _ _
   | exact LeO.none _
   | refine LeO.ite ?_ ?_
   | refine LeO.bind ?_ (fun _ => ?_)
  ·intro y0 y1 y2 y3 y4 y5 y6 y7 y8 y9
   unfold tachographref11_Get.l1
   repeat' first
   | (with_reducible exact ih0 _ _ _ _ _ _)
   | (with_reducible exact ih1 _ _ _ _ _ _ _ _ _ _)
   | (with_reducible exact tachographref01_Get.mono _ _)
   | (with_reducible exact tachographref02_Get.mono _ _ _)
   | (with_reducible exact tachographref09_Check.mono _ _)
   | (with_reducible exact LeO.refl _)
   | (with_reducible exact LeO.none _)
   | (with_reducible refine LeO.ite ?_ ?_)
   | (with_reducible refine LeO.bind ?_ (fun _ => ?_))
   | exact ih0 _ _ _ _ _ _
   | exact ih1 _ _ _ _ _ _ _ _ _ _
   | exact tachographref01_Get.mono _ _
   | exact tachographref02_Get.mono _ _ _
   | exact tachographref09_Check.mono _ _
   | exact LeO.none _
   | refine LeO.ite ?_ ?_
   | refine LeO.bind ?_ (fun _ => ?_)
theorem tachographref11_Get.mono : ∀ a0 k, LeO (tachographref11_Get.f k a0) (tachographref11_Get.f (k + 1) a0) := by
 intro a0 k
 obtain ⟨ih0, ih1⟩ := tachographref11_Get.mono_l k
 unfold tachographref11_Get.f
 repeat' first
   | (with_reducible exact ih0 _ _ _ _ _ _)
   | (with_reducible exact ih1 _ _ _ _ _ _ _ _ _ _)
   | (with_reducible exact tachographref01_Get.mono _ _)
   | (with_reducible exact tachographref02_Get.mono _ _ _)
   | (with_reducible exact tachographref09_Check.mono _ _)
   | (with_reducible exact LeO.refl _)
   | (with_reducible exact LeO.none _)
   | (with_reducible refine LeO.ite ?_ ?_)
   | (with_reducible refine LeO.bind ?_ (fun _ => ?_))
   | exact ih0 _ _ _ _ _ _
   | exact ih1 _ _ _ _ _ _ _ _ _ _
   | exact tachographref01_Get.mono _ _
   | exact tachographref02_Get.mono _ _ _
   | exact tachographref09_Check.mono _ _
   | exact LeO.none _
   | refine LeO.ite ?_ ?_
   | refine LeO.bind ?_ (fun _ => ?_)
def tachographref11_Get.T27 : Bool × List (List Nat × List Nat) := (true, [([], []), ([0], [0]), ([], []), ([], []), ([2, 3], [2, 3]), ([4], [4]), ([5], [5]), ([1, 6], [1, 6]), ([0, 1, 2, 3, 4, 5, 6, 7], []), ([8, 7, 7, 0, 1, 2, 3, 4, 5, 6, 7], [7, 8])])
def tachographref11_Get.B27 : List Nat := [0, 1, 0, 0, 12, 28, 60, 127, 255, 511]
theorem tachographref11_Get.tab27 : rtab .any (opsOf Try.f42 27) = tachographref11_Get.T27 := by kernel_rfl
theorem tachographref11_Get.bits27 : waitsOk tachographref11_Get.T27.2 tachographref11_Get.B27 = true := by kernel_rfl
set_option maxHeartbeats 8000000 in
set_option maxRecDepth 100000 in
theorem tachographref11_Get.calls (k : Nat) (a0 : ByteArray) (r1 : List (S106)) (r2 : Int) (w : World) (h : tachographref11_Get.f k a0 = some (r1,r2)) :
  Calls Try.prog 42 #[.string a0] w fun e w' => ∃ v0_ : Value,e = .returned (.tuple #[v0_,.int .i64 r2]) ∧ Kd.S k106 106 w' w.heap.size (fun _ => True) v0_ r1 ∧ Below w.heap.size w w':=by
 have hu106:=Try.underlying106
 have HB:=Aside0.mk (Below.refl w.heap.size w)
 have H : ((some (([] : List (S106)) : List (S106))).bind fun y210 => ((tachographref01_Get.f k a0).bind fun bt213 => (if bt213.2.2 = 0 then (if bt213.1 > 64 then (some (y210,6)) else (tachographref11_Get.l0 k a0 y210 bt213.1 bt213.2.1 (([] : List (S106))) 0)) else (some (y210,bt213.2.2))))) = some (r1,r2):=h
 clear h
 obtain ⟨y210,hy210⟩ : ∃ y_ : List (S106),y_ = (([] : List (S106))):=⟨_,rfl⟩
 replace H : ((tachographref01_Get.f k a0).bind fun bt213 => (if bt213.2.2 = 0 then (if bt213.1 > 64 then (some (y210,6)) else (tachographref11_Get.l0 k a0 y210 bt213.1 bt213.2.1 (([] : List (S106))) 0)) else (some (y210,bt213.2.2)))) = some (r1,r2):=by first | (rw [hy210];with_reducible exact H) | (have H2_:=(Option.bind_some _ _).symm.trans H;rw [hy210];with_reducible exact H2_) | (have H2_:=(Option.bind_some _ _).symm.trans H;with_reducible exact H2_) | with_reducible exact H | (rw [hy210];exact H) | exact H
 have Ny210:=Aside0.mk hy210
 clear hy210
 replace H:=Option.bind_eq_some_iff.mp H
 obtain ⟨⟨t213,t214,t215⟩,A20,H⟩:=H
 replace H : (if t215 = 0 then (if t213 > 64 then (some (y210,6)) else (tachographref11_Get.l0 k a0 y210 t213 t214 (([] : List (S106))) 0)) else (some (y210,t215))) = some (r1,r2):=H
 have A2:=Aside0.mk A20
 clear A20
 by_cases c3 : t215 = 0
 ·rw [if_pos c3] at H
  have c3b0 : (t215 == 0) = true:=beq_iff_eq.mpr c3
  have c3b1 : (t215 != 0) = false:=bne_eq_false_iff_eq.mpr c3
  clear c3
  by_cases c4 : t213 > 64
  ·rw [if_pos c4] at H
   have c4b0 : decide (64 < t213) = true:=decide_eq_true c4
   clear c4
   simp only [Option.some.injEq,Prod.mk.injEq] at H
   obtain ⟨rfl,rfl⟩:=H
   go_enter Try.func42,Try.ntmps42
   go_wp2_with (first | ((with_reducible refine gate_dst (N:=18) rfl ?_);refine Kd.S_lit k106 _ 106 ?hg (N:=18) ?hd (xs:=([] : List (S106))) (inner:=[]) (ok:=fun _ => True) (okp:=fun _ => True) ?hr ?hp (fun _ hk => hk) trivial (Below.refl _ _) (Nat.le_refl _) (by simp) ?_;(case hd => rfl);(case hg => rfl);(case hr => first | (go_simp;done) | (go_simp;rfl));(case hp => exact (Reps.none _ _));intro v211 w5 ho6 hb hg_ hnew_;clear hg_ hnew_;(first | rw [← Ny210.out] at ho6 | (simp only [Int.reduceToNat] at ho6;rw [← Ny210.out] at ho6));have n0_:=Aside0.mk (Kd.S_lower ho6 (below_size (by repeat (first | (with_reducible first | exact HB.out | apply below_alloc | apply pw_below_drewN | apply below_drew1) | exact HB.out))));have n1_:=Aside0.mk (below_step (by repeat (first | (with_reducible first | exact HB.out | apply below_alloc | apply pw_below_drewN | apply below_drew1) | exact HB.out)) hb);clear HB;have HO212:=n0_;have HB:=n1_;clear n0_ n1_;clear hb ho6) | ((with_reducible refine gate_callee (f:=52) rfl ?_);refine goesL_ (some 21) rfl rfl Try.func52 (by kernel_rfl) rfl #[.string a0] rfl (by (try simp only [List.map_toArray,List.map_cons,List.map_nil]);first | done | rfl | (simp only [List.length_drop,List.length_take];rfl)) ?_;(with_reducible refine (tachographref01_Get.calls k a0 t213 t214 t215 _ A2.out).mono ?_);rintro e w' ⟨rfl,⟨nd,rfl⟩⟩;refine ⟨_,rfl,?_⟩))
   go_ret2
   exact ⟨_,by first | rfl | (simp [errW_none,errW_some] <;> rfl) | (simp [*,errW_none,errW_some] <;> rfl),by (with_reducible repeat (first | apply Kd.S_alloc | apply Kd.S_drewN | apply Kd.S_drew));exact HO212.out,by repeat (first | (with_reducible first | exact HB.out | apply below_alloc | apply pw_below_drewN | apply below_drew1) | exact HB.out)⟩
  ·rw [if_neg c4] at H
   have c4b0 : decide (64 < t213) = false:=decide_eq_false c4
   clear c4
   obtain ⟨y216,hy216⟩ : ∃ y_ : List (S106),y_ = (([] : List (S106))):=⟨_,rfl⟩
   replace H : (tachographref11_Get.l0 k a0 y210 t213 t214 y216 0) = some (r1,r2):=by first | (rw [hy216];with_reducible exact H) | (have H2_:=(Option.bind_some _ _).symm.trans H;rw [hy216];with_reducible exact H2_) | (have H2_:=(Option.bind_some _ _).symm.trans H;with_reducible exact H2_) | with_reducible exact H | (rw [hy216];exact H) | exact H
   have Ny216:=Aside0.mk hy216
   clear hy216
   have H':=Aside0.mk H
   clear H
   go_enter Try.func42,Try.ntmps42
   go_wp2_with (first | ((with_reducible refine gate_dst (N:=18) rfl ?_);refine Kd.S_lit k106 _ 106 ?hg (N:=18) ?hd (xs:=([] : List (S106))) (inner:=[]) (ok:=fun _ => True) (okp:=fun _ => True) ?hr ?hp (fun _ hk => hk) trivial (Below.refl _ _) (Nat.le_refl _) (by simp) ?_;(case hd => rfl);(case hg => rfl);(case hr => first | (go_simp;done) | (go_simp;rfl));(case hp => exact (Reps.none _ _));intro v211 w7 ho8 hb hg_ hnew_;clear hg_ hnew_;(first | rw [← Ny210.out] at ho8 | (simp only [Int.reduceToNat] at ho8;rw [← Ny210.out] at ho8));have n0_:=Aside0.mk (Kd.S_lower ho8 (below_size (by repeat (first | (with_reducible first | exact HB.out | apply below_alloc | apply pw_below_drewN | apply below_drew1) | exact HB.out))));have n1_:=Aside0.mk (below_step (by repeat (first | (with_reducible first | exact HB.out | apply below_alloc | apply pw_below_drewN | apply below_drew1) | exact HB.out)) hb);clear HB;have HO212:=n0_;have HB:=n1_;clear n0_ n1_;clear hb ho8) | ((with_reducible refine gate_callee (f:=52) rfl ?_);refine goesL_ (some 21) rfl rfl Try.func52 (by kernel_rfl) rfl #[.string a0] rfl (by (try simp only [List.map_toArray,List.map_cons,List.map_nil]);first | done | rfl | (simp only [List.length_drop,List.length_take];rfl)) ?_;(with_reducible refine (tachographref01_Get.calls k a0 t213 t214 t215 _ A2.out).mono ?_);rintro e w' ⟨rfl,⟨nd,rfl⟩⟩;refine ⟨_,rfl,?_⟩) | ((with_reducible refine gate_dst (N:=32) rfl ?_);refine Kd.S_lit k106 _ 106 ?hg (N:=32) ?hd (xs:=([] : List (S106))) (inner:=[]) (ok:=fun _ => True) (okp:=fun _ => True) ?hr ?hp (fun _ hk => hk) trivial (Below.refl _ _) (Nat.le_refl _) (by simp) ?_;(case hd => rfl);(case hg => rfl);(case hr => first | (go_simp;done) | (go_simp;rfl));(case hp => exact (Reps.none _ _));intro v217 w9 ho10 hb hg_ hnew_;clear hg_ hnew_;(first | rw [← Ny216.out] at ho10 | (simp only [Int.reduceToNat] at ho10;rw [← Ny216.out] at ho10));have n0_:=Aside0.mk (Kd.S_elder' (by (with_reducible repeat (first | apply Kd.S_alloc | apply Kd.S_drewN | apply Kd.S_drew));exact HO212.out) (Kd.S_base ho10) hb);have n1_:=Aside0.mk (Kd.S_lower (Kd.S_new' ho10 (Kd.S_lt (by (with_reducible repeat (first | apply Kd.S_alloc | apply Kd.S_drewN | apply Kd.S_drew));exact HO212.out))) (below_size (by repeat (first | (with_reducible first | exact HB.out | apply below_alloc | apply pw_below_drewN | apply below_drew1) | exact HB.out))));have n2_:=Aside0.mk (below_step (by repeat (first | (with_reducible first | exact HB.out | apply below_alloc | apply pw_below_drewN | apply below_drew1) | exact HB.out)) hb);clear HO212;clear HB;have HO212:=n0_;have HO218:=n1_;have HB:=n2_;clear n0_ n1_ n2_;clear hb ho10))
   go_loopg [6,8,9] k (fun kq v6 v8 v9 w' => ∃ (x6_1 : Int) (x8_1 : List (S106)) (x9_1 : Int),v6 = .int .i64 x6_1 ∧ v9 = .int .i64 x9_1 ∧ Aside0 (tachographref11_Get.l0 kq a0 y210 t213 x6_1 x8_1 x9_1 = some (r1,r2)) ∧ Aside0 (kq ≤ k) ∧ Aside0 (Kd.S k106 106 w' w.heap.size (fun k_ => some k_ ≠ (v8 : Value).ownBlock) v211 y210) ∧ Aside0 (Kd.S k106 106 w' w.heap.size (fun k_ => some k_ ≠ (v211 : Value).ownBlock) v8 x8_1) ∧ Aside0 (Below w.heap.size w w'))
   case atStart => exact ⟨(t214),(y216),(0),(by first | rfl | (simp;done) | (simp [*];done)),(by first | rfl | (simp;done) | (simp [*];done)),H',⟨Nat.le_refl _⟩,⟨by (with_reducible repeat (first | apply Kd.S_alloc | apply Kd.S_drewN | apply Kd.S_drew));exact Kd.S_mono HO212.out (fun _ hk => hk.2)⟩,⟨by (with_reducible repeat (first | apply Kd.S_alloc | apply Kd.S_drewN | apply Kd.S_drew));exact Kd.S_mono HO218.out (fun _ hk => hk.2)⟩,⟨by repeat (first | (with_reducible first | exact HB.out | apply below_alloc | apply pw_below_drewN | apply below_drew1) | exact HB.out)⟩⟩
   case round =>
    clear H'
    try clear p2
    try clear c3
    try clear c3b0
    try clear c3b1
    try clear c4
    try clear c4b0
    try clear c5
    obtain ⟨x6_1,x8_1,x9_1,rfl,rfl,HA,HK1,HO_4,HO_8,HB⟩:=hrel
    cases gk with
    | zero => exact absurd HA.out (by simp [tachographref11_Get.l0])
    | succ k1 =>
     have H:=HA.out
     clear HA
     simp only [tachographref11_Get.l0] at H
     by_cases c11 : x9_1 < (wrap64 (t213))
     ·rw [if_pos c11] at H
      have c11b0 : decide (x9_1 < (wrap64 (t213))) = true:=decide_eq_true c11
      clear c11
      by_cases c12 : 0 ≤ x6_1
      ·rw [if_pos c12] at H
       have c12b0:=eq_true c12
       have c12b1 : decide (0 ≤ x6_1) = true:=decide_eq_true c12
       clear c12
       by_cases c13 : x6_1 ≤ (a0.size : Int)
       ·rw [if_pos c13] at H
        have c13b0:=eq_true c13
        have c13b1 : decide (x6_1 ≤ (a0.size : Int)) = true:=decide_eq_true c13
        clear c13
        replace H:=Option.bind_eq_some_iff.mp H
        obtain ⟨⟨t219,t220,t221⟩,A140,H⟩:=H
        replace H : (if t221 = 0 then (if 0 ≤ (wrap64 (x6_1 + t220)) then (if (wrap64 (x6_1 + t220)) ≤ (a0.size : Int) then ((tachographref01_Get.f k1 (a0.extract ((wrap64 (x6_1 + t220)) : Int).toNat a0.size)).bind fun bt222 => (if bt222.2.2 = 0 then (if bt222.1 > 8 then (some (y210,6)) else (tachographref11_Get.l1 k1 a0 y210 t213 (wrap64 ((wrap64 (x6_1 + t220)) + bt222.2.1)) x8_1 x9_1 bt222.1 0 t219 ([] : List Int))) else (some (y210,bt222.2.2)))) else (none)) else (none)) else (some (y210,t221))) = some (r1,r2):=H
        have A14:=Aside0.mk A140
        clear A140
        by_cases c15 : t221 = 0
        ·rw [if_pos c15] at H
         have c15b0 : (t221 == 0) = true:=beq_iff_eq.mpr c15
         have c15b1 : (t221 != 0) = false:=bne_eq_false_iff_eq.mpr c15
         clear c15
         obtain ⟨ji16,hji16⟩ : ∃ j_ : Int,(wrap64 (x6_1 + t220)) = j_:=⟨_,rfl⟩
         replace H : (if 0 ≤ (ji16) then (if (ji16) ≤ (a0.size : Int) then ((tachographref01_Get.f k1 (a0.extract ((ji16) : Int).toNat a0.size)).bind fun bt222 => (if bt222.2.2 = 0 then (if bt222.1 > 8 then (some (y210,6)) else (tachographref11_Get.l1 k1 a0 y210 t213 (wrap64 ((ji16) + bt222.2.1)) x8_1 x9_1 bt222.1 0 t219 ([] : List Int))) else (some (y210,bt222.2.2)))) else (none)) else (none)) = some (r1,r2):=by first | (rw [hji16] at H;exact H) | (simp only [hji16] at H ⊢;exact H)
         (try rw [hji16] at A14)
         have hji16w : (IntKind.i64.wrap (x6_1 + t220)) = ji16:=(i64_w _).trans hji16
         by_cases c17 : 0 ≤ (ji16)
         ·rw [if_pos c17] at H
          have c17b0:=eq_true c17
          have c17b1 : decide (0 ≤ (ji16)) = true:=decide_eq_true c17
          clear c17
          by_cases c18 : (ji16) ≤ (a0.size : Int)
          ·rw [if_pos c18] at H
           have c18b0:=eq_true c18
           have c18b1 : decide ((ji16) ≤ (a0.size : Int)) = true:=decide_eq_true c18
           clear c18
           replace H:=Option.bind_eq_some_iff.mp H
           obtain ⟨⟨t222,t223,t224⟩,A190,H⟩:=H
           replace H : (if t224 = 0 then (if t222 > 8 then (some (y210,6)) else (tachographref11_Get.l1 k1 a0 y210 t213 (wrap64 ((ji16) + t223)) x8_1 x9_1 t222 0 t219 ([] : List Int))) else (some (y210,t224))) = some (r1,r2):=H
           have A19:=Aside0.mk A190
           clear A190
           by_cases c20 : t224 = 0
           ·rw [if_pos c20] at H
            have c20b0 : (t224 == 0) = true:=beq_iff_eq.mpr c20
            have c20b1 : (t224 != 0) = false:=bne_eq_false_iff_eq.mpr c20
            clear c20
            by_cases c21 : t222 > 8
            ·rw [if_pos c21] at H
             have c21b0 : decide (8 < t222) = true:=decide_eq_true c21
             clear c21
             simp only [Option.some.injEq,Prod.mk.injEq] at H
             obtain ⟨rfl,rfl⟩:=H
             go_wp2_with (first | ((with_reducible refine gate_callee (f:=73) rfl ?_);refine goesL_ (some 43) rfl rfl Try.func73 (by kernel_rfl) rfl #[.string (a0.extract (x6_1 : Int).toNat a0.size),.int .i64 32] rfl (by (try simp only [List.map_toArray,List.map_cons,List.map_nil]);first | done | rfl | (simp only [List.length_drop,List.length_take];rfl)) ?_;(with_reducible refine (tachographref02_Get.calls k1 (a0.extract (x6_1 : Int).toNat a0.size) 32 t219 t220 t221 _ A14.out).mono ?_);rintro e w' ⟨rfl,⟨nd,rfl⟩⟩;refine ⟨_,rfl,?_⟩) | ((with_reducible refine gate_callee (f:=52) rfl ?_);refine goesL_ (some 58) rfl rfl Try.func52 (by kernel_rfl) rfl #[.string (a0.extract ((ji16) : Int).toNat a0.size)] rfl (by (try simp only [List.map_toArray,List.map_cons,List.map_nil]);first | done | (simp only [hji16];rfl) | rfl | (simp only [List.length_drop,List.length_take];rfl)) ?_;(with_reducible refine (tachographref01_Get.calls k1 (a0.extract ((ji16) : Int).toNat a0.size) t222 t223 t224 _ A19.out).mono ?_);rintro e w' ⟨rfl,⟨nd,rfl⟩⟩;refine ⟨_,rfl,?_⟩))
             go_ret2
             exact ⟨_,by first | rfl | (simp [errW_none,errW_some] <;> rfl) | (simp only [← hji16];first | rfl | (simp [errW_none,errW_some] <;> rfl)) | (simp [*,errW_none,errW_some] <;> rfl),by (with_reducible repeat (first | apply Kd.S_alloc | apply Kd.S_drewN | apply Kd.S_drew));exact Kd.S_mono HO_4.out (fun _ hk => trivial),by repeat (first | (with_reducible first | exact HB.out | apply below_alloc | apply pw_below_drewN | apply below_drew1) | exact HB.out)⟩
            ·rw [if_neg c21] at H
             have c21b0 : decide (8 < t222) = false:=decide_eq_false c21
             clear c21
             have H':=Aside0.mk H
             clear H
             go_wp2_with (first | ((with_reducible refine gate_callee (f:=73) rfl ?_);refine goesL_ (some 43) rfl rfl Try.func73 (by kernel_rfl) rfl #[.string (a0.extract (x6_1 : Int).toNat a0.size),.int .i64 32] rfl (by (try simp only [List.map_toArray,List.map_cons,List.map_nil]);first | done | rfl | (simp only [List.length_drop,List.length_take];rfl)) ?_;(with_reducible refine (tachographref02_Get.calls k1 (a0.extract (x6_1 : Int).toNat a0.size) 32 t219 t220 t221 _ A14.out).mono ?_);rintro e w' ⟨rfl,⟨nd,rfl⟩⟩;refine ⟨_,rfl,?_⟩;(try (rw [drewN_self wr];generalize hq_ : World.drewN wr _ = wr;have n0_ : Aside0 (Kd.S k106 106 wr w.heap.size (fun k_ => some k_ ≠ (u8 : Value).ownBlock) v211 y210):=⟨by rw [← hq_];exact (by (with_reducible repeat (first | apply Kd.S_alloc | apply Kd.S_drewN | apply Kd.S_drew));exact HO_4.out)⟩;have n1_ : Aside0 (Kd.S k106 106 wr w.heap.size (fun k_ => some k_ ≠ (v211 : Value).ownBlock) u8 x8_1):=⟨by rw [← hq_];exact (by (with_reducible repeat (first | apply Kd.S_alloc | apply Kd.S_drewN | apply Kd.S_drew));exact HO_8.out)⟩;have n2_ : Aside0 (Below w.heap.size w wr):=⟨by rw [← hq_];exact (by repeat (first | (with_reducible first | exact HB.out | apply below_alloc | apply pw_below_drewN | apply below_drew1) | exact HB.out))⟩;clear HO_4 HO_8 HB hq_;have HO_4:=n0_;have HO_8:=n1_;have HB:=n2_;clear n0_ n1_ n2_))) | ((with_reducible refine gate_callee (f:=52) rfl ?_);refine goesL_ (some 58) rfl rfl Try.func52 (by kernel_rfl) rfl #[.string (a0.extract ((ji16) : Int).toNat a0.size)] rfl (by (try simp only [List.map_toArray,List.map_cons,List.map_nil]);first | done | (simp only [hji16];rfl) | rfl | (simp only [List.length_drop,List.length_take];rfl)) ?_;(with_reducible refine (tachographref01_Get.calls k1 (a0.extract ((ji16) : Int).toNat a0.size) t222 t223 t224 _ A19.out).mono ?_);rintro e w' ⟨rfl,⟨nd,rfl⟩⟩;refine ⟨_,rfl,?_⟩;(try (rw [drewN_self wr];generalize hq_ : World.drewN wr _ = wr;have n0_ : Aside0 (Kd.S k106 106 wr w.heap.size (fun k_ => some k_ ≠ (u8 : Value).ownBlock) v211 y210):=⟨by rw [← hq_];exact (by (with_reducible repeat (first | apply Kd.S_alloc | apply Kd.S_drewN | apply Kd.S_drew));exact HO_4.out)⟩;have n1_ : Aside0 (Kd.S k106 106 wr w.heap.size (fun k_ => some k_ ≠ (v211 : Value).ownBlock) u8 x8_1):=⟨by rw [← hq_];exact (by (with_reducible repeat (first | apply Kd.S_alloc | apply Kd.S_drewN | apply Kd.S_drew));exact HO_8.out)⟩;have n2_ : Aside0 (Below w.heap.size w wr):=⟨by rw [← hq_];exact (by repeat (first | (with_reducible first | exact HB.out | apply below_alloc | apply pw_below_drewN | apply below_drew1) | exact HB.out))⟩;clear HO_4 HO_8 HB hq_;have HO_4:=n0_;have HO_8:=n1_;have HB:=n2_;clear n0_ n1_ n2_))) | ((with_reducible refine gate_dst (N:=16) rfl ?_);refine box_event ?hg (N:=16) ?hd (cs:=#[.string (⟨#[]⟩ : ByteArray),.slice none 0 0]) (t:=106) ?hr ?_;(case hd => rfl);(case hg => rfl);(case hr => first | (go_simp;done) | (go_simp;rfl));intro gb225 hg w22 hbox hb;have n0_:=Aside0.mk (Kd.S_below (Kd.S_elderB (by (with_reducible repeat (first | apply Kd.S_alloc | apply Kd.S_drewN | apply Kd.S_drew));exact HO_4.out) gb225 (Nat.le_of_eq hg.symm)) hb);have n1_:=Aside0.mk (Kd.S_below (Kd.S_elderB (by (with_reducible repeat (first | apply Kd.S_alloc | apply Kd.S_drewN | apply Kd.S_drew));exact HO_8.out) gb225 (Nat.le_of_eq hg.symm)) hb);have n2_:=Aside0.mk (below_step (by repeat (first | (with_reducible first | exact HB.out | apply below_alloc | apply pw_below_drewN | apply below_drew1) | exact HB.out)) hb);have n3_:=Aside0.mk (hbox);have n4_:=Aside0.mk ((by rw [hg];exact (below_size (by repeat (first | (with_reducible first | exact HB.out | apply below_alloc | apply pw_below_drewN | apply below_drew1) | exact HB.out))) : w.heap.size ≤ gb225));have n5_:=Aside0.mk ((by rw [hg];exact (below_size (by repeat (first | (with_reducible first | exact HB.out | apply below_alloc | apply pw_below_drewN | apply below_drew1) | exact HB.out))) : w.heap.size ≤ gb225));clear HO_4;clear HO_8;clear HB;have HO_4:=n0_;have HO_8:=n1_;have HB:=n2_;have BK225:=n3_;have GW225:=n4_;have GE225:=n5_;clear n0_ n1_ n2_ n3_ n4_ n5_;clear hb hbox hg;have hcz23_0 : w22.cell? ⟨gb225,0,none⟩ = some (.string (⟨#[]⟩ : ByteArray)):=(blk_cell BK225.out 0).trans rfl;have hcz23_1 : w22.cell? ⟨gb225,1,none⟩ = some (.slice none 0 0):=(blk_cell BK225.out 1).trans rfl;have hfz23_0:=blk_frozen BK225.out 0;have hfz23_1:=blk_frozen BK225.out 1))
             go_loopg [6,17] k1 (fun kq v6 v17 w' => ∃ (x6_2 : Int) (x17_2 : Int) (x226001_2 : List Int) (u226001 : Value),v6 = .int .i64 x6_2 ∧ v17 = .int .i64 x17_2 ∧ Aside0 (tachographref11_Get.l1 kq a0 y210 t213 x6_2 x8_1 x9_1 t222 x17_2 t219 x226001_2 = some (r1,r2)) ∧ Aside0 (kq ≤ k1) ∧ Aside0 (Kd.S k106 106 w' w.heap.size (fun k_ => some k_ ≠ (u8 : Value).ownBlock ∧ some k_ ≠ (u226001 : Value).ownBlock ∧ k_ ≠ gb225) v211 y210) ∧ Aside0 (Kd.S k106 106 w' w.heap.size (fun k_ => some k_ ≠ (v211 : Value).ownBlock ∧ some k_ ≠ (u226001 : Value).ownBlock ∧ k_ ≠ gb225) u8 x8_1) ∧ Aside0 (Kd.R (Kd.int .i64) 3 w' w.heap.size (fun _ => True) u226001 x226001_2) ∧ Aside0 (w'.heap[gb225]? = some (.cells #[.string t219,u226001] 106 (0,0))) ∧ Aside0 (Below w.heap.size w w'))
             case atStart => exact ⟨(wrap64 ((ji16) + t223)),(0),(([] : List Int)),(.slice none 0 0),(by first | rfl | (simp;done) | (simp only [← hji16] <;> (first | rfl | simp)) | (simp [*];done)),(by first | rfl | (simp;done) | (simp [*];done)),H',⟨Nat.le_refl _⟩,⟨by (with_reducible repeat (first | apply Kd.S_alloc | apply Kd.S_drewN | apply Kd.S_drew));exact Kd.S_mono (Kd.S_far (p:=⟨gb225,1,none⟩) (Kd.S_far (p:=⟨gb225,0,none⟩) (Kd.S_mono HO_4.out (fun k_ hk => (⟨hk,hk.2⟩ : _ ∧ k_ ≠ gb225))) (fun _ hk => hk.2) (.string t219)) (fun _ hk => hk.2) (.slice none 0 0)) (fun _ hk => ⟨hk.1.1,⟨(by simp [Value.ownBlock]),hk.1.2⟩⟩)⟩,⟨by (with_reducible repeat (first | apply Kd.S_alloc | apply Kd.S_drewN | apply Kd.S_drew));exact Kd.S_mono (Kd.S_far (p:=⟨gb225,1,none⟩) (Kd.S_far (p:=⟨gb225,0,none⟩) (Kd.S_mono HO_8.out (fun k_ hk => (⟨hk,hk.2⟩ : _ ∧ k_ ≠ gb225))) (fun _ hk => hk.2) (.string t219)) (fun _ hk => hk.2) (.slice none 0 0)) (fun _ hk => ⟨hk.1.1,⟨(by simp [Value.ownBlock]),hk.1.2⟩⟩)⟩,⟨by first | exact Kd.R_nil _ _ _ _ _ | exact Kd.N_nil _ _ _ _ _ | exact Kd.V_nil _ _ _ _ _ | exact Kd.Q_nil _ _ _ _ _ | exact Kd.S_nil _ _ _ _ _⟩,⟨by (with_reducible repeat (first | refine blk_drewN ?_ _ | refine blk_drew ?_ | refine blk_alloc ?_ _));refine blk_put (cs:=#[.string t219,.slice none 0 0]) ?_ 1 _ rfl;(with_reducible repeat (first | refine blk_drewN ?_ _ | refine blk_drew ?_ | refine blk_alloc ?_ _));refine blk_put (cs:=#[.string (⟨#[]⟩ : ByteArray),.slice none 0 0]) ?_ 0 _ rfl;(with_reducible repeat (first | refine blk_drewN ?_ _ | refine blk_drew ?_ | refine blk_alloc ?_ _));exact BK225.out⟩,⟨by repeat (first | (with_reducible first | exact HB.out | apply below_alloc | apply pw_below_drewN | apply below_drew1 | refine below_set ?_ GE225.out) | exact HB.out)⟩⟩
             case round =>
              clear H'
              try clear c1
              try clear c2
              try clear p2
              try clear c3
              try clear c3b0
              try clear c3b1
              try clear c4
              try clear c4b0
              try clear c5
              try clear p6
              try clear c7
              try clear c11
              try clear c11b0
              try clear c12
              try clear c12b0
              try clear c12b1
              try clear c13
              try clear c13b0
              try clear c13b1
              try clear c15
              try clear c15b0
              try clear c15b1
              try clear c17
              try clear c17b0
              try clear c17b1
              try clear c18
              try clear c18b0
              try clear c18b1
              try clear c20
              try clear c20b0
              try clear c20b1
              try clear c21
              try clear c21b0
              try clear hcz23_0
              try clear hcz23_1
              try clear hfz23_0
              try clear hfz23_1
              try clear p2
              obtain ⟨x6_2,x17_2,x226001_2,u226001,rfl,rfl,HA,HK2,HO_4,HO_8,HO_226001,BK225,HB⟩:=hrel
              cases gk with
              | zero => exact absurd HA.out (by simp [tachographref11_Get.l1])
              | succ k2 =>
               have H:=HA.out
               clear HA
               simp only [tachographref11_Get.l1] at H
               by_cases c24 : x17_2 < (wrap64 (t222))
               ·rw [if_pos c24] at H
                have c24b0 : decide (x17_2 < (wrap64 (t222))) = true:=decide_eq_true c24
                clear c24
                by_cases c25 : x6_2 = (a0.size : Int)
                ·rw [if_pos c25] at H
                 have c25b0 : (x6_2 == (a0.size : Int)) = true:=beq_iff_eq.mpr c25
                 have c25b1 : (x6_2 != (a0.size : Int)) = false:=bne_eq_false_iff_eq.mpr c25
                 clear c25
                 simp only [Option.some.injEq,Prod.mk.injEq] at H
                 obtain ⟨rfl,rfl⟩:=H
                 go_wp2
                 go_ret2
                 exact ⟨_,by first | rfl | (simp [errW_none,errW_some] <;> rfl) | (simp only [← hji16];first | rfl | (simp [errW_none,errW_some] <;> rfl)) | (simp [*,errW_none,errW_some] <;> rfl),by (with_reducible repeat (first | apply Kd.S_alloc | apply Kd.S_drewN | apply Kd.S_drew));exact Kd.S_mono HO_4.out (fun _ hk => trivial),by repeat (first | (with_reducible first | exact HB.out | apply below_alloc | apply pw_below_drewN | apply below_drew1 | refine below_set ?_ GE225.out) | exact HB.out)⟩
                ·rw [if_neg c25] at H
                 have c25b0 : (x6_2 == (a0.size : Int)) = false:=beq_eq_false_iff_ne.mpr c25
                 have c25b1 : (x6_2 != (a0.size : Int)) = true:=bne_iff_ne.mpr c25
                 by_cases c26 : 0 ≤ x6_2
                 ·rw [if_pos c26] at H
                  have c26b0 : decide (0 ≤ x6_2) = true:=decide_eq_true c26
                  clear c26
                  by_cases c27 : x6_2 < (a0.size : Int)
                  ·rw [if_pos c27] at H
                   have c27b0 : decide (x6_2 < (a0.size : Int)) = true:=decide_eq_true c27
                   clear c27
                   by_cases c29 : x226001_2.length < 17592186044416
                   ·rw [if_pos c29] at H
                    have LMc29:=Aside0.mk c29
                    clear c29
                    obtain ⟨y226,hy226⟩ : ∃ y_ : List Int,y_ = (x226001_2 ++ [wrap64 (bt a0 x6_2)]):=⟨_,rfl⟩
                    replace H : (tachographref11_Get.l1 k2 a0 y210 t213 (wrap64 (x6_2 + 1)) x8_1 x9_1 t222 (wrap64 (x17_2 + 1)) t219 y226) = some (r1,r2):=by first | (rw [hy226];with_reducible exact H) | (have H2_:=(Option.bind_some _ _).symm.trans H;rw [hy226];with_reducible exact H2_) | (have H2_:=(Option.bind_some _ _).symm.trans H;with_reducible exact H2_) | with_reducible exact H | (rw [hy226];exact H) | exact H
                    have Ny226:=Aside0.mk hy226
                    clear hy226
                    have H':=Aside0.mk H
                    clear H
                    try go_wp2
                    have n0_:=Aside0.mk (Kd.S_drew HO_4.out)
                    have n1_:=Aside0.mk (Kd.S_drew HO_8.out)
                    have n2_:=Aside0.mk (Kd.R_drew HO_226001.out)
                    have n3_:=Aside0.mk (blk_drew BK225.out)
                    have n4_:=Aside0.mk (below_drew1 HB.out)
                    clear HO_4
                    clear HO_8
                    clear HO_226001
                    clear BK225
                    clear HB
                    have HO_4:=n0_
                    have HO_8:=n1_
                    have HO_226001:=n2_
                    have BK225:=n3_
                    have HB:=n4_
                    clear n0_ n1_ n2_ n3_ n4_
                    have p28 : 0 ≤ (x6_2 : Int):=of_decide_eq_true (by first | (with_reducible assumption) | assumption)
                    have q28 : x6_2 < (a0.size : Int):=of_decide_eq_true (by first | (with_reducible assumption) | assumption)
                    have hx28:=bt_at a0 x6_2
                    replace p28:=eq_true p28
                    replace q28:=eq_true q28
                    refine start_ (n:=10) (S:=fun w' => w'.cell? ⟨gb225,0,none⟩ = some (.string t219) ∧ w'.cell? ⟨gb225,1,none⟩ = some (u226001)) (ds:=[9]) #[n_,n_,n_,n_,n_,n_,n_,n_,n_,n_] (by kernel_rfl) rfl rfl ⟨(blk_cell BK225.out 0).trans rfl,(blk_cell BK225.out 1).trans rfl⟩ (fun hHeld => ?_);refine with_tabW tachographref11_Get.tab27 tachographref11_Get.bits27 (fun HT_ HW_ => ?_)
                    generalize wr.drew = w30 at HO_4 HO_8 HO_226001 BK225 HB hHeld ⊢
                    refine pure_ (i:=0) (N:=some 85) (v:=?_) (a':=?_) #[y_,n_,n_,n_,n_,n_,n_,n_,n_,n_] rfl rfl (any_of HT_.out (by kernel_rfl)) (fun _ _ _ h => h) (Or.inl ⟨by rfl,?_⟩) ?_ ?_
                    rotate_left
                    ·intro w'
                     go_simp
                     with_reducible rfl
                    rotate_left
                    ·simp only [Act.put,sA_,sB_,sC_,i64_w,i32_w]
                     rfl
                    refine pure_ (i:=2) (N:=some 87) (v:=?_) (a':=?_) #[y_,n_,y_,n_,n_,n_,n_,n_,n_,n_] rfl rfl (any_of HT_.out (by kernel_rfl)) (fun _ _ _ h => h) (Or.inl ⟨by rfl,?_⟩) ?_ ?_
                    rotate_left
                    ·intro w'
                     go_simp
                     with_reducible rfl
                    rotate_left
                    ·simp only [Act.put,sA_,sB_,sC_,i64_w,i32_w]
                     rfl
                    refine pure_ (i:=3) (N:=some 88) (v:=?_) (a':=?_) #[y_,n_,y_,y_,n_,n_,n_,n_,n_,n_] rfl rfl (any_of HT_.out (by kernel_rfl)) (fun _ _ _ h => h) (Or.inl ⟨by rfl,?_⟩) ?_ ?_
                    rotate_left
                    ·intro w'
                     go_simp
                     with_reducible rfl
                    rotate_left
                    ·simp only [Act.put,sA_,sB_,sC_,i64_w,i32_w]
                     rfl
                    refine take_ (i:=1) (N:=some 86) (v:=?_) (a':=?_) #[y_,y_,y_,y_,n_,n_,n_,n_,n_,n_] rfl rfl (take_ofW HT_.out HW_.out (by kernel_rfl)) (fun _ _ _ h => h) (Or.inl ⟨by rfl,?_⟩) hHeld ?_ ?_
                    rotate_left
                    ·rintro w' ⟨s0,s1⟩
                     go_simp
                     with_reducible rfl
                    rotate_left
                    ·simp only [Act.put,sA_,sB_,sC_,i64_w,i32_w]
                     rfl
                    refine take_ (i:=4) (N:=some 89) (v:=?_) (a':=?_) #[y_,y_,y_,y_,y_,n_,n_,n_,n_,n_] rfl rfl (take_ofW HT_.out HW_.out (by kernel_rfl)) (fun _ _ _ h => h) (Or.inl ⟨by rfl,?_⟩) hHeld ?_ ?_
                    rotate_left
                    ·rintro w' ⟨s0,s1⟩
                     go_simp
                     with_reducible rfl
                    rotate_left
                    ·simp only [Act.put,sA_,sB_,sC_,i64_w,i32_w]
                     rfl
                    refine pure_ (i:=5) (N:=some 90) (v:=?_) (a':=?_) #[y_,y_,y_,y_,y_,y_,n_,n_,n_,n_] rfl rfl (any_of HT_.out (by kernel_rfl)) (fun _ _ _ h => h) (Or.inl ⟨by rfl,?_⟩) ?_ ?_
                    rotate_left
                    ·intro w'
                     go_simp
                     with_reducible rfl
                    rotate_left
                    ·simp only [Act.put,sA_,sB_,sC_,i64_w,i32_w]
                     rfl
                    refine one_ (i:=6) (N:=some 91) #[y_,y_,y_,y_,y_,y_,y_,n_,n_,n_] rfl rfl (one_of HT_.out (by kernel_rfl)) (by decide) (fun K hK => ?_)
                    refine value_ (w1:=?_) (v:=?_) (by rfl) rfl ?_ ?_
                    rotate_left 2
                    ·go_simp
                     constructor
                     ·rfl
                     ·rfl
                    refine hK.out _ _ ⟨(blk_cell (blk_alloc BK225.out _) 0).trans rfl,(blk_cell (blk_alloc BK225.out _) 1).trans rfl⟩ (fun hHeld => ?_)
                    clear hK K
                    refine norm_ (a':=?_) ?_ ?_
                    rotate_left
                    ·show Act.put _ (some 91) _ = _
                     simp only [Act.put,sA_,sB_,sC_,i64_w,i32_w]
                     rfl
                    refine one_ (i:=7) (N:=some 92) #[y_,y_,y_,y_,y_,y_,y_,y_,n_,n_] rfl rfl (one_of HT_.out (by kernel_rfl)) (by decide) (fun K hK => ?_)
                    refine Kd.R_append_step (Kd.int .i64) (w0:=w) w.heap.size (by rfl) (.tmp 86) (.tmp 91) 45 3 (.int .i64 0) 8 rfl Try.underlying45 info3 rfl (by decide) (by omega) u226001 x226001_2 (wrap64 (bt a0 x6_2)) [.int .i64 (wrap64 (bt a0 x6_2))] (fun _ => True) (fun _ => False) rfl rfl ?aP (fun _ hk => hk.elim) ?aF ?aO ?aB ?aS ?aL ?_
                    (case aP => exact rfl)
                    (case aB => exact (by repeat (first | (with_reducible first | exact HB.out | apply below_alloc | apply pw_below_drewN | apply below_drew1 | refine below_set ?_ GE225.out) | exact HB.out)))
                    (case aF => exact (fun _ _ => trivial))
                    (case aO => exact (by (with_reducible repeat (first | apply Kd.R_alloc | apply Kd.R_drewN | apply Kd.R_drew));exact HO_226001.out))
                    (case aS => exact (below_size (by repeat (first | (with_reducible first | exact HB.out | apply below_alloc | apply pw_below_drewN | apply below_drew1 | refine below_set ?_ GE225.out) | exact HB.out))))
                    (case aL => have:=LMc29.out;omega)
                    intro v227 w31 ho hb hg hat
                    rw [← Ny226.out] at ho
                    have n0_:=Aside0.mk (Kd.S_after (ok:=(fun k_ => some k_ ≠ (u8 : Value).ownBlock ∧ k_ ≠ gb225)) (by (with_reducible repeat (first | apply Kd.S_alloc | apply Kd.S_drewN | apply Kd.S_drew));exact Kd.S_mono HO_4.out (fun _ hk => ⟨⟨hk.1,hk.2.2⟩,hk.2.1⟩)) hg hat)
                    have n1_:=Aside0.mk (Kd.S_after (ok:=(fun k_ => some k_ ≠ (v211 : Value).ownBlock ∧ k_ ≠ gb225)) (by (with_reducible repeat (first | apply Kd.S_alloc | apply Kd.S_drewN | apply Kd.S_drew));exact Kd.S_mono HO_8.out (fun _ hk => ⟨⟨hk.1,hk.2.2⟩,hk.2.1⟩)) hg hat)
                    have n2_:=Aside0.mk (blk_grown (g:=gb225) (o:=.cells #[.string t219,u226001] 106 (0,0)) (by (with_reducible repeat (first | refine blk_drewN ?_ _ | refine blk_drew ?_ | refine blk_alloc ?_ _));exact BK225.out) hg (Kd.R_ne HO_226001.out BK225.out (by decide)))
                    have n3_:=Aside0.mk (hb)
                    have n4_:=Aside0.mk (ho)
                    clear HO_4
                    clear HO_8
                    clear BK225
                    clear HB
                    clear HO_226001
                    have HO_4:=n0_
                    have HO_8:=n1_
                    have BK225:=n2_
                    have HB:=n3_
                    have HO228:=n4_
                    clear n0_ n1_ n2_ n3_ n4_
                    clear ho hb hg hat
                    obtain ⟨Ao32,co32,eo32⟩:=Kd.R_slice HO228.out
                    (first | subst eo32 | (injection eo32 with f1_ f2_ f3_;have f4_:=f1_.symm;have f5_:=f3_.symm;clear f1_ f2_ f3_;subst f4_;subst f5_))
                    refine hK.out _ _ ⟨(blk_cell BK225.out 0).trans rfl,(blk_cell BK225.out 1).trans rfl⟩ (fun hHeld => ?_)
                    clear hK K
                    refine norm_ (a':=?_) ?_ ?_
                    rotate_left
                    ·show Act.put _ (some 92) _ = _
                     simp only [Act.put,sA_,sB_,sC_,i64_w,i32_w]
                     rfl
                    refine pure_ (i:=8) (N:=some 93) (v:=?_) (a':=?_) #[y_,y_,y_,y_,y_,y_,y_,y_,y_,n_] rfl rfl (any_of HT_.out (by kernel_rfl)) (fun _ _ _ h => h) (Or.inl ⟨by rfl,?_⟩) ?_ ?_
                    rotate_left
                    ·intro w'
                     go_simp
                     with_reducible rfl
                    rotate_left
                    ·simp only [Act.put,sA_,sB_,sC_,i64_w,i32_w]
                     rfl
                    refine last_ (i:=9) (N:=none) #[y_,y_,y_,y_,y_,y_,y_,y_,y_,y_] rfl rfl (one_of HT_.out (by kernel_rfl)) (by decide) (fun K hK => ?_)
                    have hs33 : w31.cell? ⟨gb225,1,none⟩ = some (u226001):=(blk_cell BK225.out 1).trans rfl
                    have hfs33:=blk_frozen BK225.out 1
                    refine skip_ (w1:=?_) (by rfl) rfl ?_ ?_
                    rotate_left
                    ·go_simp
                     rfl
                    refine hK.out _ _ ?_
                    clear hK K
                    refine done_ (done_of HT_.out (by kernel_rfl)) ?_
                    try go_wp2
                    go_roundg k2
                    case measure => have:=HK1.out;have:=HK2.out;omega
                    case rel => exact ⟨(wrap64 (x6_2 + 1)),(wrap64 (x17_2 + 1)),(y226),(.slice Ao32 y226.length co32),(by first | rfl | (simp;done) | (simp [*];done)),(by first | rfl | (simp;done) | (simp [*];done)),H',⟨by have:=HK1.out;have:=HK2.out;omega⟩,⟨by (with_reducible repeat (first | apply Kd.S_alloc | apply Kd.S_drewN | apply Kd.S_drew));exact Kd.S_mono (Kd.S_far (p:=⟨gb225,1,none⟩) (Kd.S_mono HO_4.out (fun k_ hk => (⟨hk,hk.1.2⟩ : _ ∧ k_ ≠ gb225))) (fun _ hk => hk.2) (.slice Ao32 y226.length co32)) (fun _ hk => ⟨hk.1.1.1,⟨hk.1.2,hk.1.1.2⟩⟩)⟩,⟨by (with_reducible repeat (first | apply Kd.S_alloc | apply Kd.S_drewN | apply Kd.S_drew));exact Kd.S_mono (Kd.S_far (p:=⟨gb225,1,none⟩) (Kd.S_mono HO_8.out (fun k_ hk => (⟨hk,hk.1.2⟩ : _ ∧ k_ ≠ gb225))) (fun _ hk => hk.2) (.slice Ao32 y226.length co32)) (fun _ hk => ⟨hk.1.1.1,⟨hk.1.2,hk.1.1.2⟩⟩)⟩,⟨by (with_reducible repeat (first | apply Kd.R_alloc | apply Kd.R_drewN | apply Kd.R_drew));exact Kd.R_mono (Kd.R_far (p:=⟨gb225,1,none⟩) (Kd.R_types HO228.out BK225.out (by decide)) (fun _ hk => hk.2) (.slice Ao32 y226.length co32)) (fun _ hk => trivial)⟩,⟨by (with_reducible repeat (first | refine blk_drewN ?_ _ | refine blk_drew ?_ | refine blk_alloc ?_ _));refine blk_put (cs:=#[.string t219,u226001]) ?_ 1 _ rfl;(with_reducible repeat (first | refine blk_drewN ?_ _ | refine blk_drew ?_ | refine blk_alloc ?_ _));exact BK225.out⟩,⟨by repeat (first | (with_reducible first | exact HB.out | apply below_alloc | apply pw_below_drewN | apply below_drew1 | refine below_set ?_ GE225.out) | exact HB.out)⟩⟩
                   ·rw [if_neg c29] at H
                    exact absurd H (by simp)
                  ·rw [if_neg c27] at H
                   exact absurd H (by simp)
                 ·rw [if_neg c26] at H
                  exact absurd H (by simp)
               ·rw [if_neg c24] at H
                have c24b0 : decide (x17_2 < (wrap64 (t222))) = false:=decide_eq_false c24
                clear c24
                by_cases c34 : x8_1.length < 3518437208883
                ·rw [if_pos c34] at H
                 have LMc34:=Aside0.mk c34
                 clear c34
                 obtain ⟨y229,hy229⟩ : ∃ y_ : List (S106),y_ = (x8_1 ++ [(⟨t219,x226001_2⟩ : S106)]):=⟨_,rfl⟩
                 replace H : (tachographref11_Get.l0 k2 a0 y210 t213 x6_2 y229 (wrap64 (x9_1 + 1))) = some (r1,r2):=by first | (rw [hy229];with_reducible exact H) | (have H2_:=(Option.bind_some _ _).symm.trans H;rw [hy229];with_reducible exact H2_) | (have H2_:=(Option.bind_some _ _).symm.trans H;with_reducible exact H2_) | with_reducible exact H | (rw [hy229];exact H) | exact H
                 have Ny229:=Aside0.mk hy229
                 clear hy229
                 have H':=Aside0.mk H
                 clear H
                 have hcz35_0 : wr.cell? ⟨gb225,0,none⟩ = some (.string t219):=(blk_cell BK225.out 0).trans rfl
                 have hcz35_1 : wr.cell? ⟨gb225,1,none⟩ = some (u226001):=(blk_cell BK225.out 1).trans rfl
                 have hfz35_0:=blk_frozen BK225.out 0
                 have hfz35_1:=blk_frozen BK225.out 1
                 obtain ⟨Ao37,co37,eo37⟩:=Kd.R_slice HO_226001.out
                 subst eo37
                 go_wp2_with (first | ((with_reducible refine gate_builtin (b:=.append) (xs:=#[.tmp 96,.tmp 98]) rfl ?_);at_builtin;refine Kd.S_append k106 (w0:=w) w.heap.size rfl (.tmp 96) (.tmp 98) 48 106 (.agg #[(.string ⟨#[]⟩),(.slice none 0 0)]) 40 rfl Try.underlying48 info106 rfl (by decide) (by omega) u8 x8_1 (⟨t219,x226001_2⟩ : S106) [.string t219,.slice Ao37 x226001_2.length co37] (fun k_ => some k_ ≠ (v211 : Value).ownBlock ∧ k_ ≠ gb225) (fun k_ => some k_ = (.slice Ao37 x226001_2.length co37 : Value).ownBlock) rfl rfl ?aP (fun k_ hk_ => ((Kd.R_mono (ok':=fun k_ => ((fun k_ => some k_ ≠ (v211 : Value).ownBlock ∧ k_ ≠ gb225)) k_ ∧ some k_ ≠ (u8 : Value).ownBlock) (Kd.R_types (Kd.R_apart' (Kd.R_apart' (HO_226001.out) (Kd.S_typed HO_4.out) (by decide)) (Kd.S_typed HO_8.out) (by decide)) BK225.out (by decide)) (fun k_ hk => ⟨⟨hk.1.1.2,hk.2⟩,hk.1.2⟩))).1 k_ hk_.symm) ?aF ?aO ?aB ?aS ?aL ?_;(case aP => exact k106_mkM _ _ _ (⟨t219,x226001_2⟩ : S106) (Kd.R_mono (Kd.R_tight rfl (Kd.R_mono (ok':=fun k_ => ((fun k_ => some k_ ≠ (v211 : Value).ownBlock ∧ k_ ≠ gb225)) k_ ∧ some k_ ≠ (u8 : Value).ownBlock) (Kd.R_types (Kd.R_apart' (Kd.R_apart' (HO_226001.out) (Kd.S_typed HO_4.out) (by decide)) (Kd.S_typed HO_8.out) (by decide)) BK225.out (by decide)) (fun k_ hk => ⟨⟨hk.1.1.2,hk.2⟩,hk.1.2⟩))) (fun _ h_ => h_)));(case aB => exact (by repeat (first | (with_reducible first | exact HB.out | apply below_alloc | apply pw_below_drewN | apply below_drew1 | refine below_set ?_ GE225.out) | exact HB.out)));(case aF => exact (fun k_ hk => ⟨Kd.fresh' (Kd.S_lt (by (with_reducible repeat (first | apply Kd.S_alloc | apply Kd.S_drewN | apply Kd.S_drew));exact HO_4.out)) k_ hk,Kd.freshB (g:=gb225) (o:=.cells #[.string t219,.slice Ao37 x226001_2.length co37] 106 (0,0)) (by (with_reducible repeat (first | refine blk_drewN ?_ _ | refine blk_drew ?_ | refine blk_alloc ?_ _));exact BK225.out) k_ hk⟩));(case aO => exact (by (with_reducible repeat (first | apply Kd.S_alloc | apply Kd.S_drewN | apply Kd.S_drew));exact Kd.S_mono HO_8.out (fun k_ hk => ⟨⟨hk.1,hk.2.2⟩,fun e_ => hk.2.1 e_⟩)));(case aS => exact (below_size (by repeat (first | (with_reducible first | exact HB.out | apply below_alloc | apply pw_below_drewN | apply below_drew1 | refine below_set ?_ GE225.out) | exact HB.out))));(case aL => have:=LMc34.out;omega);intro v230 w36 ho hb hg hat;rw [← Ny229.out] at ho;have n0_:=Aside0.mk (Kd.S_after (ok:=(fun k_ => some k_ ≠ (.slice Ao37 x226001_2.length co37 : Value).ownBlock ∧ k_ ≠ gb225)) (by (with_reducible repeat (first | apply Kd.S_alloc | apply Kd.S_drewN | apply Kd.S_drew));exact Kd.S_mono HO_4.out (fun _ hk => ⟨⟨hk.2.1,hk.2.2⟩,hk.1⟩)) hg hat);have n1_:=Aside0.mk (blk_grown (g:=gb225) (o:=.cells #[.string t219,.slice Ao37 x226001_2.length co37] 106 (0,0)) (by (with_reducible repeat (first | refine blk_drewN ?_ _ | refine blk_drew ?_ | refine blk_alloc ?_ _));exact BK225.out) hg (Kd.S_away HO_8.out (fun _ hk => hk.2.2)));have n2_:=Aside0.mk (hb);have n3_:=Aside0.mk (ho);clear HO_4;clear BK225;clear HB;clear HO_8;clear HO_226001;have HO_4:=n0_;have BK225:=n1_;have HB:=n2_;have HO231:=n3_;clear n0_ n1_ n2_ n3_;clear ho hb hg hat))
                 go_roundg k2
                 case measure => have:=HK1.out;have:=HK2.out;omega
                 case rel => exact ⟨(x6_2),(y229),(wrap64 (x9_1 + 1)),(by first | rfl | (simp;done) | (simp [*];done)),(by first | rfl | (simp;done) | (simp [*];done)),H',⟨by have:=HK1.out;have:=HK2.out;omega⟩,⟨by (with_reducible repeat (first | apply Kd.S_alloc | apply Kd.S_drewN | apply Kd.S_drew));exact Kd.S_mono HO_4.out (fun _ hk => hk.2)⟩,⟨by (with_reducible repeat (first | apply Kd.S_alloc | apply Kd.S_drewN | apply Kd.S_drew));exact Kd.S_mono HO231.out (fun _ hk => hk.1)⟩,⟨by repeat (first | (with_reducible first | exact HB.out | apply below_alloc | apply pw_below_drewN | apply below_drew1 | refine below_set ?_ GE225.out) | exact HB.out)⟩⟩
                ·rw [if_neg c34] at H
                 exact absurd H (by simp)
           ·rw [if_neg c20] at H
            have c20b0 : (t224 == 0) = false:=beq_eq_false_iff_ne.mpr c20
            have c20b1 : (t224 != 0) = true:=bne_iff_ne.mpr c20
            simp only [Option.some.injEq,Prod.mk.injEq] at H
            obtain ⟨rfl,rfl⟩:=H
            go_wp2_with (first | ((with_reducible refine gate_callee (f:=73) rfl ?_);refine goesL_ (some 43) rfl rfl Try.func73 (by kernel_rfl) rfl #[.string (a0.extract (x6_1 : Int).toNat a0.size),.int .i64 32] rfl (by (try simp only [List.map_toArray,List.map_cons,List.map_nil]);first | done | rfl | (simp only [List.length_drop,List.length_take];rfl)) ?_;(with_reducible refine (tachographref02_Get.calls k1 (a0.extract (x6_1 : Int).toNat a0.size) 32 t219 t220 t221 _ A14.out).mono ?_);rintro e w' ⟨rfl,⟨nd,rfl⟩⟩;refine ⟨_,rfl,?_⟩) | ((with_reducible refine gate_callee (f:=52) rfl ?_);refine goesL_ (some 58) rfl rfl Try.func52 (by kernel_rfl) rfl #[.string (a0.extract ((ji16) : Int).toNat a0.size)] rfl (by (try simp only [List.map_toArray,List.map_cons,List.map_nil]);first | done | (simp only [hji16];rfl) | rfl | (simp only [List.length_drop,List.length_take];rfl)) ?_;(with_reducible refine (tachographref01_Get.calls k1 (a0.extract ((ji16) : Int).toNat a0.size) t222 t223 t224 _ A19.out).mono ?_);rintro e w' ⟨rfl,⟨nd,rfl⟩⟩;refine ⟨_,rfl,?_⟩))
            go_ret2
            exact ⟨_,by first | rfl | (simp [errW_none,errW_some] <;> rfl) | (simp only [← hji16];first | rfl | (simp [errW_none,errW_some] <;> rfl)) | (simp [*,errW_none,errW_some] <;> rfl),by (with_reducible repeat (first | apply Kd.S_alloc | apply Kd.S_drewN | apply Kd.S_drew));exact Kd.S_mono HO_4.out (fun _ hk => trivial),by repeat (first | (with_reducible first | exact HB.out | apply below_alloc | apply pw_below_drewN | apply below_drew1) | exact HB.out)⟩
          ·rw [if_neg c18] at H
           exact absurd H (by simp)
         ·rw [if_neg c17] at H
          exact absurd H (by simp)
        ·rw [if_neg c15] at H
         have c15b0 : (t221 == 0) = false:=beq_eq_false_iff_ne.mpr c15
         have c15b1 : (t221 != 0) = true:=bne_iff_ne.mpr c15
         simp only [Option.some.injEq,Prod.mk.injEq] at H
         obtain ⟨rfl,rfl⟩:=H
         go_wp2_with (first | ((with_reducible refine gate_callee (f:=73) rfl ?_);refine goesL_ (some 43) rfl rfl Try.func73 (by kernel_rfl) rfl #[.string (a0.extract (x6_1 : Int).toNat a0.size),.int .i64 32] rfl (by (try simp only [List.map_toArray,List.map_cons,List.map_nil]);first | done | rfl | (simp only [List.length_drop,List.length_take];rfl)) ?_;(with_reducible refine (tachographref02_Get.calls k1 (a0.extract (x6_1 : Int).toNat a0.size) 32 t219 t220 t221 _ A14.out).mono ?_);rintro e w' ⟨rfl,⟨nd,rfl⟩⟩;refine ⟨_,rfl,?_⟩))
         go_ret2
         exact ⟨_,by first | rfl | (simp [errW_none,errW_some] <;> rfl) | (simp [*,errW_none,errW_some] <;> rfl),by (with_reducible repeat (first | apply Kd.S_alloc | apply Kd.S_drewN | apply Kd.S_drew));exact Kd.S_mono HO_4.out (fun _ hk => trivial),by repeat (first | (with_reducible first | exact HB.out | apply below_alloc | apply pw_below_drewN | apply below_drew1) | exact HB.out)⟩
       ·rw [if_neg c13] at H
        exact absurd H (by simp)
      ·rw [if_neg c12] at H
       exact absurd H (by simp)
     ·rw [if_neg c11] at H
      have c11b0 : decide (x9_1 < (wrap64 (t213))) = false:=decide_eq_false c11
      clear c11
      by_cases c38 : x6_1 < (a0.size : Int)
      ·rw [if_pos c38] at H
       have c38b0 : decide (x6_1 < (a0.size : Int)) = true:=decide_eq_true c38
       clear c38
       simp only [Option.some.injEq,Prod.mk.injEq] at H
       obtain ⟨rfl,rfl⟩:=H
       go_wp2
       go_ret2
       exact ⟨_,by first | rfl | (simp [errW_none,errW_some] <;> rfl) | (simp [*,errW_none,errW_some] <;> rfl),by (with_reducible repeat (first | apply Kd.S_alloc | apply Kd.S_drewN | apply Kd.S_drew));exact Kd.S_mono HO_4.out (fun _ hk => trivial),by repeat (first | (with_reducible first | exact HB.out | apply below_alloc | apply pw_below_drewN | apply below_drew1) | exact HB.out)⟩
      ·rw [if_neg c38] at H
       have c38b0 : decide (x6_1 < (a0.size : Int)) = false:=decide_eq_false c38
       clear c38
       replace H:=Option.bind_eq_some_iff.mp H
       obtain ⟨t232,A390,H⟩:=H
       replace H : (if t232 = 0 then (some (x8_1,0)) else (some (y210,t232))) = some (r1,r2):=H
       have A39:=Aside0.mk A390
       clear A390
       by_cases c40 : t232 = 0
       ·rw [if_pos c40] at H
        have c40b0 : (t232 == 0) = true:=beq_iff_eq.mpr c40
        have c40b1 : (t232 != 0) = false:=bne_eq_false_iff_eq.mpr c40
        clear c40
        simp only [Option.some.injEq,Prod.mk.injEq] at H
        obtain ⟨rfl,rfl⟩:=H
        obtain ⟨Ao41,co41,eo41⟩:=Kd.S_slice HO_8.out
        subst eo41
        go_wp2_with (first | ((with_reducible refine gate_callee (f:=58) rfl ?_);refine goesL_ (some 106) rfl rfl Try.func58 (by kernel_rfl) rfl #[.slice Ao41 x8_1.length co41] rfl (by (try simp only [List.map_toArray,List.map_cons,List.map_nil]);first | done | rfl | (simp only [List.length_drop,List.length_take];rfl)) ?_;(with_reducible refine (tachographref09_Check.calls k1 _ _ x8_1 t232 _ ?side1 ?side2 A39.out).mono ?_);(case side1 => repeat (first | exact (Kd.S_reads' HO_8.out).2.2 | (with_reducible refine Kd.C_alloc ?_ _) | (with_reducible refine Kd.C_drewN ?_ _) | (with_reducible refine Kd.C_drew ?_)));(case side2 => exact (Kd.S_reads' HO_8.out).2.1);rintro e w' ⟨rfl,⟨nd,rfl⟩⟩;refine ⟨_,rfl,?_⟩))
        go_ret2
        exact ⟨_,by first | rfl | (simp [errW_none,errW_some] <;> rfl) | (simp [*,errW_none,errW_some] <;> rfl),by (with_reducible repeat (first | apply Kd.S_alloc | apply Kd.S_drewN | apply Kd.S_drew));exact Kd.S_mono HO_8.out (fun _ hk => trivial),by repeat (first | (with_reducible first | exact HB.out | apply below_alloc | apply pw_below_drewN | apply below_drew1) | exact HB.out)⟩
       ·rw [if_neg c40] at H
        have c40b0 : (t232 == 0) = false:=beq_eq_false_iff_ne.mpr c40
        have c40b1 : (t232 != 0) = true:=bne_iff_ne.mpr c40
        simp only [Option.some.injEq,Prod.mk.injEq] at H
        obtain ⟨rfl,rfl⟩:=H
        obtain ⟨Ao42,co42,eo42⟩:=Kd.S_slice HO_8.out
        subst eo42
        go_wp2_with (first | ((with_reducible refine gate_callee (f:=58) rfl ?_);refine goesL_ (some 106) rfl rfl Try.func58 (by kernel_rfl) rfl #[.slice Ao42 x8_1.length co42] rfl (by (try simp only [List.map_toArray,List.map_cons,List.map_nil]);first | done | rfl | (simp only [List.length_drop,List.length_take];rfl)) ?_;(with_reducible refine (tachographref09_Check.calls k1 _ _ x8_1 t232 _ ?side1 ?side2 A39.out).mono ?_);(case side1 => repeat (first | exact (Kd.S_reads' HO_8.out).2.2 | (with_reducible refine Kd.C_alloc ?_ _) | (with_reducible refine Kd.C_drewN ?_ _) | (with_reducible refine Kd.C_drew ?_)));(case side2 => exact (Kd.S_reads' HO_8.out).2.1);rintro e w' ⟨rfl,⟨nd,rfl⟩⟩;refine ⟨_,rfl,?_⟩))
        go_ret2
        exact ⟨_,by first | rfl | (simp [errW_none,errW_some] <;> rfl) | (simp [*,errW_none,errW_some] <;> rfl),by (with_reducible repeat (first | apply Kd.S_alloc | apply Kd.S_drewN | apply Kd.S_drew));exact Kd.S_mono HO_4.out (fun _ hk => trivial),by repeat (first | (with_reducible first | exact HB.out | apply below_alloc | apply pw_below_drewN | apply below_drew1) | exact HB.out)⟩
 ·rw [if_neg c3] at H
  have c3b0 : (t215 == 0) = false:=beq_eq_false_iff_ne.mpr c3
  have c3b1 : (t215 != 0) = true:=bne_iff_ne.mpr c3
  simp only [Option.some.injEq,Prod.mk.injEq] at H
  obtain ⟨rfl,rfl⟩:=H
  go_enter Try.func42,Try.ntmps42
  go_wp2_with (first | ((with_reducible refine gate_dst (N:=18) rfl ?_);refine Kd.S_lit k106 _ 106 ?hg (N:=18) ?hd (xs:=([] : List (S106))) (inner:=[]) (ok:=fun _ => True) (okp:=fun _ => True) ?hr ?hp (fun _ hk => hk) trivial (Below.refl _ _) (Nat.le_refl _) (by simp) ?_;(case hd => rfl);(case hg => rfl);(case hr => first | (go_simp;done) | (go_simp;rfl));(case hp => exact (Reps.none _ _));intro v211 w43 ho44 hb hg_ hnew_;clear hg_ hnew_;(first | rw [← Ny210.out] at ho44 | (simp only [Int.reduceToNat] at ho44;rw [← Ny210.out] at ho44));have n0_:=Aside0.mk (Kd.S_lower ho44 (below_size (by repeat (first | (with_reducible first | exact HB.out | apply below_alloc | apply pw_below_drewN | apply below_drew1) | exact HB.out))));have n1_:=Aside0.mk (below_step (by repeat (first | (with_reducible first | exact HB.out | apply below_alloc | apply pw_below_drewN | apply below_drew1) | exact HB.out)) hb);clear HB;have HO212:=n0_;have HB:=n1_;clear n0_ n1_;clear hb ho44) | ((with_reducible refine gate_callee (f:=52) rfl ?_);refine goesL_ (some 21) rfl rfl Try.func52 (by kernel_rfl) rfl #[.string a0] rfl (by (try simp only [List.map_toArray,List.map_cons,List.map_nil]);first | done | rfl | (simp only [List.length_drop,List.length_take];rfl)) ?_;(with_reducible refine (tachographref01_Get.calls k a0 t213 t214 t215 _ A2.out).mono ?_);rintro e w' ⟨rfl,⟨nd,rfl⟩⟩;refine ⟨_,rfl,?_⟩))
  go_ret2
  exact ⟨_,by first | rfl | (simp [errW_none,errW_some] <;> rfl) | (simp [*,errW_none,errW_some] <;> rfl),by (with_reducible repeat (first | apply Kd.S_alloc | apply Kd.S_drewN | apply Kd.S_drew));exact HO212.out,by repeat (first | (with_reducible first | exact HB.out | apply below_alloc | apply pw_below_drewN | apply below_drew1) | exact HB.out)⟩

end Go.Proofs.Ytjfklfmfeghjnab.PG
