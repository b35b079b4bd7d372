-- Contracts of Go functions, each with its plain Lean function: written by wip/tools/myprint.py of this work (the kit's print, with contracts proved by hand spliced in).
import Derived.Test.YtmmfakdncjeoeaaPCx0
import Derived.Test.YtmmfakdncjeoeaaPCx1
import Derived.Test.YtmmfakdncjeoeaaPCx6
import Derived.Test.YtmmfakdncjeoeaaPCx8
import Derived.Test.YtmmfakdncjeoeaaPCx9
namespace Go.Proofs.Ytmmfakdncjeoeaa.PC
open Go.RowKit Go.Proofs.YtmmfakdncjeoeaaW.PrintWords Go.Proofs.YtmmfakdncjeoeaaW.PrintLast Go.Proofs.YtmmfakdncjeoeaaW.PrintMore
attribute [local go_sem] max2_int min2_int max_two min_two max_three min_three max_four min_four   -- for this text's walks alone
set_option linter.unusedVariables false
set_option linter.unusedSimpArgs false

/-! ### tachographlaw16_CutNoLess: function 6 -/
mutual
def tachographlaw16_CutNoLess.j0 : Nat → List (S53) → List (S56) → Int → Bool → Option (Bool)
 | 0, _, _, _, _ => none
 | k + 1, x0, x1, x2, x21 => if x21 = true then ((tachographlaw16_fixed.f k).bind fun t264 => (some t264)) else ((cut_Blocks.f k x0 x1 x2).bind fun bt265 => (if bt265.2 = 0 then (tachographlaw16_CutNoLess.l0 k x0 x2 bt265.1 bt265.1 (bt265.1.length : Int) 0) else ((tachographlaw16_fixed.f k).bind fun t269 => (if t269 = true then (some ((bt265.1.length : Int) == 0)) else (some false)))))
def tachographlaw16_CutNoLess.l0 : Nat → List (S53) → Int → List (List (S56)) → List (List (S56)) → Int → Int → Option (Bool)
 | 0, _, _, _, _, _, _ => none
 | k + 1, x0, x2, x7, x38, x39, x40 => if x40 < x39 then (if 0 ≤ x40 then (if x40 < (x38.length : Int) then (if ((rd_L11 x38 x40).length : Int) < 1 then (some false) else (if ((rd_L11 x38 x40).length : Int) > x2 then (some false) else (if ((rd_L11 x38 x40).length : Int) > 1024 then (some false) else ((block_Put.f k x0 (rd_L11 x38 x40)).bind fun bt272 => (if bt272.2 = 0 then (if (wrap64 (x40 + 1)) < (x7.length : Int) then ((some (([] : List (S56)) : List (S56))).bind fun y276 => (if y276.length + (rd_L11 x38 x40).length < 4398046511104 then ((some (y276 ++ (rd_L11 x38 x40) : List (S56))).bind fun y279 => (if 0 ≤ (wrap64 (x40 + 1)) then (if 0 ≤ (mn 1 ((rd_L11 x7 (wrap64 (x40 + 1))).length : Int)) then (if (mn 1 ((rd_L11 x7 (wrap64 (x40 + 1))).length : Int)) ≤ ((rd_L11 x7 (wrap64 (x40 + 1))).length : Int) then ((some ((rd_L11 x7 (wrap64 (x40 + 1))).take ((mn 1 ((rd_L11 x7 (wrap64 (x40 + 1))).length : Int)) : Int).toNat : List (S56))).bind fun y284 => (if y279.length + y284.length < 4398046511104 then ((block_Put.f k x0 (y279 ++ y284)).bind fun bt292 => (if ((rd_L11 x38 x40).length : Int) < (mn x2 1024) then (if bt292.2 = 6 then (tachographlaw16_CutNoLess.l0 k x0 x2 x7 x38 x39 (wrap64 (x40 + 1))) else (some false)) else (tachographlaw16_CutNoLess.l0 k x0 x2 x7 x38 x39 (wrap64 (x40 + 1))))) else (none))) else (none)) else (none)) else (none))) else (none))) else (tachographlaw16_CutNoLess.l0 k x0 x2 x7 x38 x39 (wrap64 (x40 + 1)))) else (some false)))))) else (none)) else (none)) else ((tachographlaw16_fixed.f k).bind fun t270 => (some t270))
end
def tachographlaw16_CutNoLess.f (k : Nat) (l0 : List (S53)) (l1 : List (S56)) (a2 : Int) : Option (Bool) := (tachographlaw09_Great.f k l0).bind fun t262 => (if t262 = true then (tachographlaw16_CutNoLess.j0 k l0 l1 a2 true) else ((tachographlaw12_Great.f k l1 1500).bind fun t263 => (tachographlaw16_CutNoLess.j0 k l0 l1 a2 t263)))
def tachographlaw16_CutNoLess.T15 : Bool × List (List Nat × List Nat) := (true, [([], []), ([], []), ([0, 1], [0, 1]), ([], []), ([], []), ([4], [4]), ([3, 5], [3, 5]), ([6], [6]), ([], []), ([], []), ([9], [9]), ([8, 10], [8, 10]), ([11], [11]), ([12], [12]), ([13], [13]), ([7, 14], [7, 14]), ([2, 15, 2], [2, 15]), ([16, 16, 0, 1, 2, 3, 4, 5, 6, 7, 8, 9, 10, 11, 12, 13, 14, 15, 16], [16])])
def tachographlaw16_CutNoLess.B15 : List Nat := [0, 0, 3, 0, 0, 16, 56, 120, 0, 0, 512, 1792, 3840, 7936, 16128, 32760, 65535, 131071]
theorem tachographlaw16_CutNoLess.tab15 : rtab .any (opsOf Try.f6 15) = tachographlaw16_CutNoLess.T15 := by kernel_rfl
theorem tachographlaw16_CutNoLess.bits15 : waitsOk tachographlaw16_CutNoLess.T15.2 tachographlaw16_CutNoLess.B15 = true := by kernel_rfl
set_option maxHeartbeats 8000000 in
set_option maxRecDepth 100000 in
theorem tachographlaw16_CutNoLess.calls (k : Nat) (A0 : Option Addr) (c0 : Nat) (l0 : List (S53)) (A1 : Option Addr) (c1 : Nat) (l1 : List (S56)) (a2 : Int) (r : Bool) (w : World) (hr0 : Kd.C k53 w A0 l0.length l0) (hc0 : l0.length ≤ c0) (hr1 : Kd.C k56 w A1 l1.length l1) (hc1 : l1.length ≤ c1) (h : tachographlaw16_CutNoLess.f k l0 l1 a2 = some r) :
  Calls Try.prog 6 #[.slice A0 l0.length c0,.slice A1 l1.length c1,.int .i64 a2] w fun e w' => e = .returned (.bool r) ∧ Below w.heap.size w w':=by
 have HR0:=Aside0.mk hr0
 have HC0:=Aside0.mk hc0
 clear hr0 hc0
 have HR1:=Aside0.mk hr1
 have HC1:=Aside0.mk hc1
 clear hr1 hc1
 have HB:=Aside0.mk (Below.refl w.heap.size w)
 have H : ((tachographlaw09_Great.f k l0).bind fun t262 => (if t262 = true then (tachographlaw16_CutNoLess.j0 k l0 l1 a2 true) else ((tachographlaw12_Great.f k l1 1500).bind fun t263 => (tachographlaw16_CutNoLess.j0 k l0 l1 a2 t263)))) = some r:=h
 clear h
 have HC4:=Aside0.mk H
 clear H
 go_enter Try.func6,Try.ntmps6
 go_upto_region 1 with (fail)
 go_cut [21] (fun v21 wc => ∃ (kq : Nat) (x21_3 : Bool),v21 = .bool x21_3 ∧ Aside0 (tachographlaw16_CutNoLess.j0 kq l0 l1 a2 x21_3 = some r) ∧ Aside0 (kq ≤ k) ∧ Aside0 (Below w.heap.size w wc))
 case first =>
  have H:=HC4.out
  clear HC4
  replace H:=Option.bind_eq_some_iff.mp H
  obtain ⟨t262,A50,H⟩:=H
  replace H : (if t262 = true then (tachographlaw16_CutNoLess.j0 k l0 l1 a2 true) else ((tachographlaw12_Great.f k l1 1500).bind fun t263 => (tachographlaw16_CutNoLess.j0 k l0 l1 a2 t263))) = some r:=H
  have A5:=Aside0.mk A50
  clear A50
  by_cases c6 : t262 = true
  ·subst c6
   have H1 : (tachographlaw16_CutNoLess.j0 k l0 l1 a2 true) = some r:=by rw [if_pos rfl] at H;exact H
   clear H
   have H:=H1
   clear H1
   have H':=Aside0.mk H
   clear H
   go_wp2_with (first | ((with_reducible refine gate_callee (f:=7) rfl ?_);refine goesL_ (some 17) rfl rfl Try.func7 (by kernel_rfl) rfl #[.slice A0 l0.length c0] rfl (by (try simp only [List.map_toArray,List.map_cons,List.map_nil]);first | done | rfl | (simp only [List.length_drop,List.length_take];rfl)) ?_;(with_reducible refine (tachographlaw09_Great.calls k _ _ l0 true _ ?side1 ?side2 A5.out).mono ?_);(case side1 => repeat (first | exact (Kd.C_below HR0.out HB.out) | (with_reducible refine Kd.C_alloc ?_ _) | (with_reducible refine Kd.C_drewN ?_ _) | (with_reducible refine Kd.C_drew ?_)));(case side2 => exact HC0.out);rintro e w7 ⟨rfl,hb⟩;refine ⟨_,rfl,?_⟩;have n0_:=Aside0.mk (below_step (by repeat (first | (with_reducible first | exact HB.out | apply below_alloc | apply pw_below_drewN | apply below_drew1) | exact HB.out)) hb);clear HB;have HB:=n0_;clear n0_;(try clear hb);(try clear hb2);(try clear hk);(try clear hi)))
   go_meet
   case rel => exact ⟨_,(true),(by first | rfl | (simp;done) | (simp [*];done)),H',⟨by first | omega | exact Nat.le_refl _⟩,⟨by repeat (first | (with_reducible first | exact HB.out | apply below_alloc | apply pw_below_drewN | apply below_drew1) | exact HB.out)⟩⟩
  ·replace c6:=Bool.eq_false_iff.mpr c6
   subst c6
   have H1 : ((tachographlaw12_Great.f k l1 1500).bind fun t263 => (tachographlaw16_CutNoLess.j0 k l0 l1 a2 t263)) = some r:=by rw [if_neg (show ¬ (false = true) by decide)] at H;exact H
   clear H
   have H:=H1
   clear H1
   replace H:=Option.bind_eq_some_iff.mp H
   obtain ⟨t263,A80,H⟩:=H
   replace H : (tachographlaw16_CutNoLess.j0 k l0 l1 a2 t263) = some r:=H
   have A8:=Aside0.mk A80
   clear A80
   have H':=Aside0.mk H
   clear H
   go_wp2_with (first | ((with_reducible refine gate_callee (f:=7) rfl ?_);refine goesL_ (some 17) rfl rfl Try.func7 (by kernel_rfl) rfl #[.slice A0 l0.length c0] rfl (by (try simp only [List.map_toArray,List.map_cons,List.map_nil]);first | done | rfl | (simp only [List.length_drop,List.length_take];rfl)) ?_;(with_reducible refine (tachographlaw09_Great.calls k _ _ l0 false _ ?side1 ?side2 A5.out).mono ?_);(case side1 => repeat (first | exact (Kd.C_below HR0.out HB.out) | (with_reducible refine Kd.C_alloc ?_ _) | (with_reducible refine Kd.C_drewN ?_ _) | (with_reducible refine Kd.C_drew ?_)));(case side2 => exact HC0.out);rintro e w9 ⟨rfl,hb⟩;refine ⟨_,rfl,?_⟩;have n0_:=Aside0.mk (below_step (by repeat (first | (with_reducible first | exact HB.out | apply below_alloc | apply pw_below_drewN | apply below_drew1) | exact HB.out)) hb);clear HB;have HB:=n0_;clear n0_;(try clear hb);(try clear hb2);(try clear hk);(try clear hi)) | (go_at_call 8;(with_reducible refine (tachographlaw12_Great.calls k _ _ l1 1500 t263 _ ?side1 ?side2 A8.out).mono ?_);(case side1 => repeat (first | exact (Kd.C_below HR1.out HB.out) | (with_reducible refine Kd.C_alloc ?_ _) | (with_reducible refine Kd.C_drewN ?_ _) | (with_reducible refine Kd.C_drew ?_)));(case side2 => exact HC1.out);rintro e w10 ⟨rfl,hb⟩;have n0_:=Aside0.mk (below_step (by repeat (first | (with_reducible first | exact HB.out | apply below_alloc | apply pw_below_drewN | apply below_drew1) | exact HB.out)) hb);clear HB;have HB:=n0_;clear n0_;(try clear hb);(try clear hb2);(try clear hk);(try clear hi)))
   go_meet
   case rel => exact ⟨_,(t263),(by first | rfl | (simp;done) | (simp [*];done)),H',⟨by first | omega | exact Nat.le_refl _⟩,⟨by repeat (first | (with_reducible first | exact HB.out | apply below_alloc | apply pw_below_drewN | apply below_drew1) | exact HB.out)⟩⟩
 case rest =>
  clear HC4
  (try clear c1);(try clear p2);(try clear c6);(try clear c7)
  obtain ⟨kq,x21_3,rfl,HA,HJ3,HB⟩:=hcut
  cases kq with
  | zero => exact absurd HA.out (by simp [tachographlaw16_CutNoLess.j0])
  | succ kj3 =>
   have H:=HA.out
   clear HA
   simp only [tachographlaw16_CutNoLess.j0] at H
   by_cases c11 : x21_3 = true
   ·subst c11
    have H1 : ((tachographlaw16_fixed.f kj3).bind fun t264 => (some t264)) = some r:=by rw [if_pos rfl] at H;exact H
    clear H
    have H:=H1
    clear H1
    replace H:=Option.bind_eq_some_iff.mp H
    obtain ⟨t264,A120,H⟩:=H
    replace H : (some t264) = some r:=H
    have A12:=Aside0.mk A120
    clear A120
    obtain rfl:=Option.some.inj H
    go_wp2_with (first | ((with_reducible refine gate_callee (f:=17) rfl ?_);refine goesL_ (some 22) rfl rfl Try.func17 (by kernel_rfl) rfl #[] rfl (by (try simp only [List.map_toArray,List.map_cons,List.map_nil]);first | done | rfl | (simp only [List.length_drop,List.length_take];rfl)) ?_;(with_reducible refine (tachographlaw16_fixed.calls kj3  t264 _ A12.out).mono ?_);rintro e w13 ⟨rfl,hb⟩;refine ⟨_,rfl,?_⟩;have n0_:=Aside0.mk (below_step (by repeat (first | (with_reducible first | exact HB.out | apply below_alloc | apply pw_below_drewN | apply below_drew1) | exact HB.out)) hb);clear HB;have HB:=n0_;clear n0_;(try clear hb);(try clear hb2);(try clear hk);(try clear hi)))
    go_ret
    exact ⟨by first | rfl | (simp [errW_none,errW_some] <;> rfl) | (simp [*,errW_none,errW_some] <;> rfl),by repeat (first | (with_reducible first | exact HB.out | apply below_alloc | apply pw_below_drewN | apply below_drew1) | exact HB.out)⟩
   ·replace c11:=Bool.eq_false_iff.mpr c11
    subst c11
    have H1 : ((cut_Blocks.f kj3 l0 l1 a2).bind fun bt265 => (if bt265.2 = 0 then (tachographlaw16_CutNoLess.l0 kj3 l0 a2 bt265.1 bt265.1 (bt265.1.length : Int) 0) else ((tachographlaw16_fixed.f kj3).bind fun t269 => (if t269 = true then (some ((bt265.1.length : Int) == 0)) else (some false))))) = some r:=by rw [if_neg (show ¬ (false = true) by decide)] at H;exact H
    clear H
    have H:=H1
    clear H1
    replace H:=Option.bind_eq_some_iff.mp H
    obtain ⟨⟨t265,t268⟩,A140,H⟩:=H
    replace H : (if t268 = 0 then (tachographlaw16_CutNoLess.l0 kj3 l0 a2 t265 t265 (t265.length : Int) 0) else ((tachographlaw16_fixed.f kj3).bind fun t269 => (if t269 = true then (some ((t265.length : Int) == 0)) else (some false)))) = some r:=H
    have A14:=Aside0.mk A140
    clear A140
    by_cases c15 : t268 = 0
    ·rw [if_pos c15] at H
     have c15b0 : (t268 == 0) = true:=beq_iff_eq.mpr c15
     have c15b1 : (t268 != 0) = false:=bne_eq_false_iff_eq.mpr c15
     clear c15
     have H':=Aside0.mk H
     clear H
     go_wp2_with (first | ((with_reducible refine gate_callee (f:=18) rfl ?_);refine goesL_ (some 27) rfl rfl Try.func18 (by kernel_rfl) rfl #[.slice A0 l0.length c0,.slice A1 l1.length c1,.int .i64 a2] rfl (by (try simp only [List.map_toArray,List.map_cons,List.map_nil]);first | done | rfl | (simp only [List.length_drop,List.length_take];rfl)) ?_;(with_reducible refine (cut_Blocks.calls kj3 _ _ l0 (fun k_ => k_ < w.heap.size) _ _ l1 a2 t265 t268 _ ?side1 ?side2 ?side3 A14.out).mono ?_);(case side1 => repeat (first | exact (Kd.C_below HR0.out HB.out) | (with_reducible refine Kd.C_alloc ?_ _) | (with_reducible refine Kd.C_drewN ?_ _) | (with_reducible refine Kd.C_drew ?_)));(case side2 => exact HC0.out);(case side3 => exact Kd.V_mk HC1.out (Kd.F_below (Kd.C_F k56_heap HR1.out) (by repeat (first | (with_reducible first | exact HB.out | apply below_alloc | apply pw_below_drewN | apply below_drew1) | exact HB.out))));rintro e w16 ⟨v266,rfl,ho0,hb⟩;refine ⟨_,rfl,?_⟩;have n0_:=Aside0.mk (Kd.N_lower (Kd.N_mono (ok':=fun k_ => True) (Kd.R_N ho0) (fun k_ hk_ => trivial)) (below_size (by repeat (first | (with_reducible first | exact HB.out | apply below_alloc | apply pw_below_drewN | apply below_drew1) | exact HB.out))));have n1_:=Aside0.mk (below_step (by repeat (first | (with_reducible first | exact HB.out | apply below_alloc | apply pw_below_drewN | apply below_drew1) | exact HB.out)) hb);clear HB;have HO267:=n0_;have HB:=n1_;clear n0_ n1_;(try clear hb);(try clear hb2);(try clear hk);(try clear hi);(try clear ho0);obtain ⟨Ao17,co17,eo17⟩:=Kd.N_slice HO267.out;subst eo17))
     go_loopg [40] kj3 (fun kq v40 w' => ∃ (x40_2 : Int),v40 = .int .i64 x40_2 ∧ Aside0 (tachographlaw16_CutNoLess.l0 kq l0 a2 t265 t265 (t265.length : Int) x40_2 = some r) ∧ Aside0 (kq ≤ kj3) ∧ Aside0 (Kd.N (Kd.slice 56 k56) 23 w' w.heap.size (fun _ => True) (.slice Ao17 t265.length co17) t265) ∧ Aside0 (Kd.N (Kd.slice 56 k56) 23 w' w.heap.size (fun _ => True) (.slice Ao17 t265.length co17) t265) ∧ Aside0 (Below w.heap.size w w'))
     case atStart => exact ⟨(0),(by first | rfl | (simp;done) | (simp [*];done)),H',⟨Nat.le_refl _⟩,⟨by (with_reducible repeat (first | apply Kd.N_alloc | apply Kd.N_drewN | apply Kd.N_drew));exact HO267.out⟩,⟨by (with_reducible repeat (first | apply Kd.N_alloc | apply Kd.N_drewN | apply Kd.N_drew));exact HO267.out⟩,⟨by repeat (first | (with_reducible first | exact HB.out | apply below_alloc | apply pw_below_drewN | apply below_drew1) | exact HB.out)⟩⟩
     case round =>
      clear H'
      (try clear c1);(try clear p2);(try clear c6);(try clear c7);(try clear c11);(try clear c15);(try clear c15b0);(try clear c15b1);(try clear c17);(try clear p2)
      obtain ⟨x40_2,rfl,HA,HK2,HO_7,HO_38,HB⟩:=hrel
      cases gk with
      | zero => exact absurd HA.out (by simp [tachographlaw16_CutNoLess.l0])
      | succ k2 =>
       have H:=HA.out
       clear HA
       simp only [tachographlaw16_CutNoLess.l0] at H
       by_cases c18 : x40_2 < (t265.length : Int)
       ·rw [if_pos c18] at H
        have c18b0 : decide (x40_2 < (t265.length : Int)) = true:=decide_eq_true c18
        clear c18
        by_cases c19 : 0 ≤ x40_2
        ·rw [if_pos c19] at H
         have c19b0 : decide (0 ≤ x40_2) = true:=decide_eq_true c19
         clear c19
         by_cases c20 : x40_2 < (t265.length : Int)
         ·rw [if_pos c20] at H
          have c20b0 : decide (x40_2 < (t265.length : Int)) = true:=decide_eq_true c20
          clear c20
          by_cases c21 : ((rd_L11 t265 x40_2).length : Int) < 1
          ·rw [if_pos c21] at H
           have c21b0 : decide (((rd_L11 t265 x40_2).length : Int) < 1) = true:=decide_eq_true c21
           have c21b1 : decide ((rd_L11 t265 x40_2).length < 1) = true:=decide_eq_true (by omega)
           clear c21
           obtain rfl:=Option.some.inj H
           have p271 : 0 ≤ (x40_2 : Int):=of_decide_eq_true (by first | (with_reducible assumption) | assumption)
           have q271 : x40_2 < (t265.length : Int):=of_decide_eq_true (by first | (with_reducible assumption) | assumption)
           obtain ⟨ad271,A271_0,c271_0,e271,hx271_0,hl271_0,hi271_0⟩:=at_L11 (Kd.N_reads' HO_38.out).2.2 x40_2 p271 q271
           cases e271
           obtain ⟨ce271,hce271,hMe271,hcc271⟩:=Kd.N_get HO_38.out [] x40_2 p271 (by first | exact q271 | exact of_decide_eq_true (by first | (with_reducible assumption) | assumption) | (have e_:=(Kd.N_reads' HO_38.out).1;omega))
           obtain ⟨ua271_0,uc271_0,rfl,ul271_0,ge271_0⟩:=Kd.FK_slice_open hMe271
           have hv271_0:=hcc271 0 _ rfl
           rw [Nat.add_zero,show ((Kd.slice 56 k56)).sz = 1 from rfl,Nat.mul_one] at hv271_0
           replace hv271_0:=Option.some.inj (hv271_0.symm.trans hx271_0)
           injection hv271_0 with hva_ hvn_ hvc_
           rw [hva_] at ge271_0
           rw [hvc_] at ul271_0
           have HL271_0:=Aside0.mk (show Kd.V k56 56 _ w.heap.size _ _ (rd_L11 t265 x40_2) from Kd.V_mk ul271_0 ge271_0)
           clear hva_ hvn_ hvc_ ge271_0 ul271_0
           clear hcc271 hce271
           have HR271_0:=Aside0.mk hi271_0
           have HC271_0:=Aside0.mk hl271_0
           clear hi271_0 hl271_0
           replace p271:=eq_true p271
           replace q271:=eq_true q271
           go_wp2
           go_ret
           exact ⟨by first | rfl | (simp [errW_none,errW_some] <;> rfl) | (simp [*,errW_none,errW_some] <;> rfl),by repeat (first | (with_reducible first | exact HB.out | apply below_alloc | apply pw_below_drewN | apply below_drew1) | exact HB.out)⟩
          ·rw [if_neg c21] at H
           have c21b0 : decide (((rd_L11 t265 x40_2).length : Int) < 1) = false:=decide_eq_false c21
           have c21b1 : decide ((rd_L11 t265 x40_2).length < 1) = false:=decide_eq_false (by omega)
           clear c21
           by_cases c22 : ((rd_L11 t265 x40_2).length : Int) > a2
           ·rw [if_pos c22] at H
            have c22b0 : decide (a2 < ((rd_L11 t265 x40_2).length : Int)) = true:=decide_eq_true c22
            clear c22
            obtain rfl:=Option.some.inj H
            have p271 : 0 ≤ (x40_2 : Int):=of_decide_eq_true (by first | (with_reducible assumption) | assumption)
            have q271 : x40_2 < (t265.length : Int):=of_decide_eq_true (by first | (with_reducible assumption) | assumption)
            obtain ⟨ad271,A271_0,c271_0,e271,hx271_0,hl271_0,hi271_0⟩:=at_L11 (Kd.N_reads' HO_38.out).2.2 x40_2 p271 q271
            cases e271
            obtain ⟨ce271,hce271,hMe271,hcc271⟩:=Kd.N_get HO_38.out [] x40_2 p271 (by first | exact q271 | exact of_decide_eq_true (by first | (with_reducible assumption) | assumption) | (have e_:=(Kd.N_reads' HO_38.out).1;omega))
            obtain ⟨ua271_0,uc271_0,rfl,ul271_0,ge271_0⟩:=Kd.FK_slice_open hMe271
            have hv271_0:=hcc271 0 _ rfl
            rw [Nat.add_zero,show ((Kd.slice 56 k56)).sz = 1 from rfl,Nat.mul_one] at hv271_0
            replace hv271_0:=Option.some.inj (hv271_0.symm.trans hx271_0)
            injection hv271_0 with hva_ hvn_ hvc_
            rw [hva_] at ge271_0
            rw [hvc_] at ul271_0
            have HL271_0:=Aside0.mk (show Kd.V k56 56 _ w.heap.size _ _ (rd_L11 t265 x40_2) from Kd.V_mk ul271_0 ge271_0)
            clear hva_ hvn_ hvc_ ge271_0 ul271_0
            clear hcc271 hce271
            have HR271_0:=Aside0.mk hi271_0
            have HC271_0:=Aside0.mk hl271_0
            clear hi271_0 hl271_0
            replace p271:=eq_true p271
            replace q271:=eq_true q271
            go_wp2
            go_ret
            exact ⟨by first | rfl | (simp [errW_none,errW_some] <;> rfl) | (simp [*,errW_none,errW_some] <;> rfl),by repeat (first | (with_reducible first | exact HB.out | apply below_alloc | apply pw_below_drewN | apply below_drew1) | exact HB.out)⟩
           ·rw [if_neg c22] at H
            have c22b0 : decide (a2 < ((rd_L11 t265 x40_2).length : Int)) = false:=decide_eq_false c22
            clear c22
            by_cases c23 : ((rd_L11 t265 x40_2).length : Int) > 1024
            ·rw [if_pos c23] at H
             have c23b0 : decide (1024 < ((rd_L11 t265 x40_2).length : Int)) = true:=decide_eq_true c23
             have c23b1 : decide (1024 < (rd_L11 t265 x40_2).length) = true:=decide_eq_true (by omega)
             clear c23
             obtain rfl:=Option.some.inj H
             have p271 : 0 ≤ (x40_2 : Int):=of_decide_eq_true (by first | (with_reducible assumption) | assumption)
             have q271 : x40_2 < (t265.length : Int):=of_decide_eq_true (by first | (with_reducible assumption) | assumption)
             obtain ⟨ad271,A271_0,c271_0,e271,hx271_0,hl271_0,hi271_0⟩:=at_L11 (Kd.N_reads' HO_38.out).2.2 x40_2 p271 q271
             cases e271
             obtain ⟨ce271,hce271,hMe271,hcc271⟩:=Kd.N_get HO_38.out [] x40_2 p271 (by first | exact q271 | exact of_decide_eq_true (by first | (with_reducible assumption) | assumption) | (have e_:=(Kd.N_reads' HO_38.out).1;omega))
             obtain ⟨ua271_0,uc271_0,rfl,ul271_0,ge271_0⟩:=Kd.FK_slice_open hMe271
             have hv271_0:=hcc271 0 _ rfl
             rw [Nat.add_zero,show ((Kd.slice 56 k56)).sz = 1 from rfl,Nat.mul_one] at hv271_0
             replace hv271_0:=Option.some.inj (hv271_0.symm.trans hx271_0)
             injection hv271_0 with hva_ hvn_ hvc_
             rw [hva_] at ge271_0
             rw [hvc_] at ul271_0
             have HL271_0:=Aside0.mk (show Kd.V k56 56 _ w.heap.size _ _ (rd_L11 t265 x40_2) from Kd.V_mk ul271_0 ge271_0)
             clear hva_ hvn_ hvc_ ge271_0 ul271_0
             clear hcc271 hce271
             have HR271_0:=Aside0.mk hi271_0
             have HC271_0:=Aside0.mk hl271_0
             clear hi271_0 hl271_0
             replace p271:=eq_true p271
             replace q271:=eq_true q271
             go_wp2
             go_ret
             exact ⟨by first | rfl | (simp [errW_none,errW_some] <;> rfl) | (simp [*,errW_none,errW_some] <;> rfl),by repeat (first | (with_reducible first | exact HB.out | apply below_alloc | apply pw_below_drewN | apply below_drew1) | exact HB.out)⟩
            ·rw [if_neg c23] at H
             have c23b0 : decide (1024 < ((rd_L11 t265 x40_2).length : Int)) = false:=decide_eq_false c23
             have c23b1 : decide (1024 < (rd_L11 t265 x40_2).length) = false:=decide_eq_false (by omega)
             clear c23
             replace H:=Option.bind_eq_some_iff.mp H
             obtain ⟨⟨t272,t273⟩,A240,H⟩:=H
             replace H : (if t273 = 0 then (if (wrap64 (x40_2 + 1)) < (t265.length : Int) then ((some (([] : List (S56)) : List (S56))).bind fun y276 => (if y276.length + (rd_L11 t265 x40_2).length < 4398046511104 then ((some (y276 ++ (rd_L11 t265 x40_2) : List (S56))).bind fun y279 => (if 0 ≤ (wrap64 (x40_2 + 1)) then (if 0 ≤ (mn 1 ((rd_L11 t265 (wrap64 (x40_2 + 1))).length : Int)) then (if (mn 1 ((rd_L11 t265 (wrap64 (x40_2 + 1))).length : Int)) ≤ ((rd_L11 t265 (wrap64 (x40_2 + 1))).length : Int) then ((some ((rd_L11 t265 (wrap64 (x40_2 + 1))).take ((mn 1 ((rd_L11 t265 (wrap64 (x40_2 + 1))).length : Int)) : Int).toNat : List (S56))).bind fun y284 => (if y279.length + y284.length < 4398046511104 then ((block_Put.f k2 l0 (y279 ++ y284)).bind fun bt292 => (if ((rd_L11 t265 x40_2).length : Int) < (mn a2 1024) then (if bt292.2 = 6 then (tachographlaw16_CutNoLess.l0 k2 l0 a2 t265 t265 (t265.length : Int) (wrap64 (x40_2 + 1))) else (some false)) else (tachographlaw16_CutNoLess.l0 k2 l0 a2 t265 t265 (t265.length : Int) (wrap64 (x40_2 + 1))))) else (none))) else (none)) else (none)) else (none))) else (none))) else (tachographlaw16_CutNoLess.l0 k2 l0 a2 t265 t265 (t265.length : Int) (wrap64 (x40_2 + 1)))) else (some false)) = some r:=H
             have A24:=Aside0.mk A240
             clear A240
             by_cases c25 : t273 = 0
             ·rw [if_pos c25] at H
              have c25b0 : (t273 == 0) = true:=beq_iff_eq.mpr c25
              have c25b1 : (t273 != 0) = false:=bne_eq_false_iff_eq.mpr c25
              clear c25
              by_cases c26 : (wrap64 (x40_2 + 1)) < (t265.length : Int)
              ·rw [if_pos c26] at H
               have c26b0 : decide ((wrap64 (x40_2 + 1)) < (t265.length : Int)) = true:=decide_eq_true c26
               clear c26
               obtain ⟨y276,hy276⟩ : ∃ y_ : List (S56),y_ = (([] : List (S56))):=⟨_,rfl⟩
               replace H : (if y276.length + (rd_L11 t265 x40_2).length < 4398046511104 then ((some (y276 ++ (rd_L11 t265 x40_2) : List (S56))).bind fun y279 => (if 0 ≤ (wrap64 (x40_2 + 1)) then (if 0 ≤ (mn 1 ((rd_L11 t265 (wrap64 (x40_2 + 1))).length : Int)) then (if (mn 1 ((rd_L11 t265 (wrap64 (x40_2 + 1))).length : Int)) ≤ ((rd_L11 t265 (wrap64 (x40_2 + 1))).length : Int) then ((some ((rd_L11 t265 (wrap64 (x40_2 + 1))).take ((mn 1 ((rd_L11 t265 (wrap64 (x40_2 + 1))).length : Int)) : Int).toNat : List (S56))).bind fun y284 => (if y279.length + y284.length < 4398046511104 then ((block_Put.f k2 l0 (y279 ++ y284)).bind fun bt292 => (if ((rd_L11 t265 x40_2).length : Int) < (mn a2 1024) then (if bt292.2 = 6 then (tachographlaw16_CutNoLess.l0 k2 l0 a2 t265 t265 (t265.length : Int) (wrap64 (x40_2 + 1))) else (some false)) else (tachographlaw16_CutNoLess.l0 k2 l0 a2 t265 t265 (t265.length : Int) (wrap64 (x40_2 + 1))))) else (none))) else (none)) else (none)) else (none))) else (none)) = some r:=by first | (rw [hy276];with_reducible exact H) | (have H2_:=(Option.bind_some _ _).symm.trans H;rw [hy276];with_reducible exact H2_) | (have H2_:=(Option.bind_some _ _).symm.trans H;with_reducible exact H2_) | with_reducible exact H | (rw [hy276];exact H) | exact H
               have Ny276:=Aside0.mk hy276
               clear hy276
               by_cases c27 : y276.length + (rd_L11 t265 x40_2).length < 4398046511104
               ·rw [if_pos c27] at H
                have LMc27:=Aside0.mk c27
                clear c27
                obtain ⟨y279,hy279⟩ : ∃ y_ : List (S56),y_ = (y276 ++ (rd_L11 t265 x40_2)):=⟨_,rfl⟩
                replace H : (if 0 ≤ (wrap64 (x40_2 + 1)) then (if 0 ≤ (mn 1 ((rd_L11 t265 (wrap64 (x40_2 + 1))).length : Int)) then (if (mn 1 ((rd_L11 t265 (wrap64 (x40_2 + 1))).length : Int)) ≤ ((rd_L11 t265 (wrap64 (x40_2 + 1))).length : Int) then ((some ((rd_L11 t265 (wrap64 (x40_2 + 1))).take ((mn 1 ((rd_L11 t265 (wrap64 (x40_2 + 1))).length : Int)) : Int).toNat : List (S56))).bind fun y284 => (if y279.length + y284.length < 4398046511104 then ((block_Put.f k2 l0 (y279 ++ y284)).bind fun bt292 => (if ((rd_L11 t265 x40_2).length : Int) < (mn a2 1024) then (if bt292.2 = 6 then (tachographlaw16_CutNoLess.l0 k2 l0 a2 t265 t265 (t265.length : Int) (wrap64 (x40_2 + 1))) else (some false)) else (tachographlaw16_CutNoLess.l0 k2 l0 a2 t265 t265 (t265.length : Int) (wrap64 (x40_2 + 1))))) else (none))) else (none)) else (none)) else (none)) = some r:=by first | (rw [hy279];with_reducible exact H) | (have H2_:=(Option.bind_some _ _).symm.trans H;rw [hy279];with_reducible exact H2_) | (have H2_:=(Option.bind_some _ _).symm.trans H;with_reducible exact H2_) | with_reducible exact H | (rw [hy279];exact H) | exact H
                have Ny279:=Aside0.mk hy279
                clear hy279
                obtain ⟨ji28,hji28⟩ : ∃ j_ : Int,(wrap64 (x40_2 + 1)) = j_:=⟨_,rfl⟩
                replace H : (if 0 ≤ (ji28) then (if 0 ≤ (mn 1 ((rd_L11 t265 (ji28)).length : Int)) then (if (mn 1 ((rd_L11 t265 (ji28)).length : Int)) ≤ ((rd_L11 t265 (ji28)).length : Int) then ((some ((rd_L11 t265 (ji28)).take ((mn 1 ((rd_L11 t265 (ji28)).length : Int)) : Int).toNat : List (S56))).bind fun y284 => (if y279.length + y284.length < 4398046511104 then ((block_Put.f k2 l0 (y279 ++ y284)).bind fun bt292 => (if ((rd_L11 t265 x40_2).length : Int) < (mn a2 1024) then (if bt292.2 = 6 then (tachographlaw16_CutNoLess.l0 k2 l0 a2 t265 t265 (t265.length : Int) ji28) else (some false)) else (tachographlaw16_CutNoLess.l0 k2 l0 a2 t265 t265 (t265.length : Int) ji28))) else (none))) else (none)) else (none)) else (none)) = some r:=by first | (rw [hji28] at H;exact H) | (simp only [hji28] at H ⊢;exact H)
                (try rw [hji28] at c26b0)
                (try rw [hji28] at A24)
                have hji28w : (IntKind.i64.wrap (x40_2 + 1)) = ji28:=(i64_w _).trans hji28
                by_cases c29 : 0 ≤ (ji28)
                ·rw [if_pos c29] at H
                 have c29b0 : decide (0 ≤ (ji28)) = true:=decide_eq_true c29
                 clear c29
                 obtain ⟨ji30,hji30⟩ : ∃ j_ : Int,(mn 1 ((rd_L11 t265 (ji28)).length : Int)) = j_:=⟨_,rfl⟩
                 replace H : (if 0 ≤ (ji30) then (if (ji30) ≤ ((rd_L11 t265 (ji28)).length : Int) then ((some ((rd_L11 t265 (ji28)).take ((ji30) : Int).toNat : List (S56))).bind fun y284 => (if y279.length + y284.length < 4398046511104 then ((block_Put.f k2 l0 (y279 ++ y284)).bind fun bt292 => (if ((rd_L11 t265 x40_2).length : Int) < (mn a2 1024) then (if bt292.2 = 6 then (tachographlaw16_CutNoLess.l0 k2 l0 a2 t265 t265 (t265.length : Int) ji28) else (some false)) else (tachographlaw16_CutNoLess.l0 k2 l0 a2 t265 t265 (t265.length : Int) ji28))) else (none))) else (none)) else (none)) = some r:=by first | (rw [hji30] at H;exact H) | (simp only [hji30] at H ⊢;exact H)
                 (try rw [hji30] at A24)
                 have hji30_ : (if ((rd_L11 t265 (ji28)).length : Int) < 1 then ((rd_L11 t265 (ji28)).length : Int) else 1) = ji30:=hji30
                 by_cases c31 : 0 ≤ (ji30)
                 ·rw [if_pos c31] at H
                  have c31b0:=eq_true c31
                  have c31b1 : decide (0 ≤ (ji30)) = true:=decide_eq_true c31
                  clear c31
                  by_cases c32 : (ji30) ≤ ((rd_L11 t265 (ji28)).length : Int)
                  ·rw [if_pos c32] at H
                   have c32b0:=eq_true c32
                   have c32b1 : decide ((ji30) ≤ ((rd_L11 t265 (ji28)).length : Int)) = true:=decide_eq_true c32
                   clear c32
                   obtain ⟨y284,hy284⟩ : ∃ y_ : List (S56),y_ = ((rd_L11 t265 (ji28)).take ((ji30) : Int).toNat):=⟨_,rfl⟩
                   replace H : (if y279.length + y284.length < 4398046511104 then ((block_Put.f k2 l0 (y279 ++ y284)).bind fun bt292 => (if ((rd_L11 t265 x40_2).length : Int) < (mn a2 1024) then (if bt292.2 = 6 then (tachographlaw16_CutNoLess.l0 k2 l0 a2 t265 t265 (t265.length : Int) ji28) else (some false)) else (tachographlaw16_CutNoLess.l0 k2 l0 a2 t265 t265 (t265.length : Int) ji28))) else (none)) = some r:=by first | (rw [hy284];with_reducible exact H) | (have H2_:=(Option.bind_some _ _).symm.trans H;rw [hy284];with_reducible exact H2_) | (have H2_:=(Option.bind_some _ _).symm.trans H;with_reducible exact H2_) | with_reducible exact H | (rw [hy284];exact H) | exact H
                   have Ny284:=Aside0.mk hy284
                   clear hy284
                   by_cases c33 : y279.length + y284.length < 4398046511104
                   ·rw [if_pos c33] at H
                    have LMc33:=Aside0.mk c33
                    clear c33
                    obtain ⟨y289,hy289⟩ : ∃ y_ : List (S56),y_ = (y279 ++ y284):=⟨_,rfl⟩
                    replace H : ((block_Put.f k2 l0 y289).bind fun bt292 => (if ((rd_L11 t265 x40_2).length : Int) < (mn a2 1024) then (if bt292.2 = 6 then (tachographlaw16_CutNoLess.l0 k2 l0 a2 t265 t265 (t265.length : Int) ji28) else (some false)) else (tachographlaw16_CutNoLess.l0 k2 l0 a2 t265 t265 (t265.length : Int) ji28))) = some r:=by first | (rw [hy289];with_reducible exact H) | (have H2_:=(Option.bind_some _ _).symm.trans H;rw [hy289];with_reducible exact H2_) | (have H2_:=(Option.bind_some _ _).symm.trans H;with_reducible exact H2_) | with_reducible exact H | (rw [hy289];exact H) | exact H
                    have Ny289:=Aside0.mk hy289
                    clear hy289
                    replace H:=Option.bind_eq_some_iff.mp H
                    obtain ⟨⟨t292,t293⟩,A340,H⟩:=H
                    replace H : (if ((rd_L11 t265 x40_2).length : Int) < (mn a2 1024) then (if t293 = 6 then (tachographlaw16_CutNoLess.l0 k2 l0 a2 t265 t265 (t265.length : Int) ji28) else (some false)) else (tachographlaw16_CutNoLess.l0 k2 l0 a2 t265 t265 (t265.length : Int) ji28)) = some r:=H
                    have A34:=Aside0.mk A340
                    clear A340
                    obtain ⟨ji35,hji35⟩ : ∃ j_ : Int,(mn a2 1024) = j_:=⟨_,rfl⟩
                    replace H : (if ((rd_L11 t265 x40_2).length : Int) < (ji35) then (if t293 = 6 then (tachographlaw16_CutNoLess.l0 k2 l0 a2 t265 t265 (t265.length : Int) ji28) else (some false)) else (tachographlaw16_CutNoLess.l0 k2 l0 a2 t265 t265 (t265.length : Int) ji28)) = some r:=by first | (rw [hji35] at H;exact H) | (simp only [hji35] at H ⊢;exact H)
                    (try rw [hji35] at A24)
                    (try rw [hji35] at A34)
                    have hji35_ : (if 1024 < a2 then 1024 else a2) = ji35:=hji35
                    by_cases c36 : ((rd_L11 t265 x40_2).length : Int) < (ji35)
                    ·rw [if_pos c36] at H
                     have c36b0 : decide (((rd_L11 t265 x40_2).length : Int) < (ji35)) = true:=decide_eq_true c36
                     clear c36
                     by_cases c37 : t293 = 6
                     ·rw [if_pos c37] at H
                      have c37b0 : (t293 == 6) = true:=beq_iff_eq.mpr c37
                      have c37b1 : (t293 != 6) = false:=bne_eq_false_iff_eq.mpr c37
                      clear c37
                      have H':=Aside0.mk H
                      clear H
                      have p271 : 0 ≤ (x40_2 : Int):=of_decide_eq_true (by first | (with_reducible assumption) | assumption)
                      have q271 : x40_2 < (t265.length : Int):=of_decide_eq_true (by first | (with_reducible assumption) | assumption)
                      obtain ⟨ad271,A271_0,c271_0,e271,hx271_0,hl271_0,hi271_0⟩:=at_L11 (Kd.N_reads' HO_38.out).2.2 x40_2 p271 q271
                      cases e271
                      obtain ⟨ce271,hce271,hMe271,hcc271⟩:=Kd.N_get HO_38.out [] x40_2 p271 (by first | exact q271 | exact of_decide_eq_true (by first | (with_reducible assumption) | assumption) | (have e_:=(Kd.N_reads' HO_38.out).1;omega))
                      obtain ⟨ua271_0,uc271_0,rfl,ul271_0,ge271_0⟩:=Kd.FK_slice_open hMe271
                      have hv271_0:=hcc271 0 _ rfl
                      rw [Nat.add_zero,show ((Kd.slice 56 k56)).sz = 1 from rfl,Nat.mul_one] at hv271_0
                      replace hv271_0:=Option.some.inj (hv271_0.symm.trans hx271_0)
                      injection hv271_0 with hva_ hvn_ hvc_
                      rw [hva_] at ge271_0
                      rw [hvc_] at ul271_0
                      have HL271_0:=Aside0.mk (show Kd.V k56 56 _ w.heap.size _ _ (rd_L11 t265 x40_2) from Kd.V_mk ul271_0 ge271_0)
                      clear hva_ hvn_ hvc_ ge271_0 ul271_0
                      clear hcc271 hce271
                      have HR271_0:=Aside0.mk hi271_0
                      have HC271_0:=Aside0.mk hl271_0
                      clear hi271_0 hl271_0
                      replace p271:=eq_true p271
                      replace q271:=eq_true q271
                      try go_wp2_with (first | ((with_reducible refine gate_callee (f:=10) rfl ?_);refine goesL_ (some 62) rfl rfl Try.func10 (by kernel_rfl) rfl #[.slice A0 l0.length c0,.slice A271_0 (rd_L11 t265 x40_2).length c271_0] rfl (by (try simp only [List.map_toArray,List.map_cons,List.map_nil]);first | done | rfl | (simp only [List.length_drop,List.length_take];rfl)) ?_;(with_reducible refine (block_Put.calls k2 _ _ l0 _ _ (rd_L11 t265 x40_2) t272 t273 _ ?side1 ?side2 ?side3 ?side4 A24.out).mono ?_);(case side1 => repeat (first | exact (Kd.C_below HR0.out HB.out) | (with_reducible refine Kd.C_alloc ?_ _) | (with_reducible refine Kd.C_drewN ?_ _) | (with_reducible refine Kd.C_drew ?_)));(case side2 => exact HC0.out);(case side3 => repeat (first | exact (by repeat (first | (with_reducible exact HR271_0.out) | (with_reducible refine Kd.C_alloc ?_ _) | (with_reducible refine Kd.C_drewN ?_ _) | (with_reducible refine Kd.C_drew ?_) | exact HR271_0.out)) | (with_reducible refine Kd.C_alloc ?_ _) | (with_reducible refine Kd.C_drewN ?_ _) | (with_reducible refine Kd.C_drew ?_)));(case side4 => exact HC271_0.out);rintro e w38 ⟨v274,rfl,ho0,hb⟩;refine ⟨_,rfl,?_⟩;have n0_:=Aside0.mk (Kd.N_elder' (by (with_reducible repeat (first | apply Kd.N_alloc | apply Kd.N_drewN | apply Kd.N_drew));exact HO_7.out) (Kd.R_base ho0) hb);have n1_:=Aside0.mk (Kd.N_elder' (by (with_reducible repeat (first | apply Kd.N_alloc | apply Kd.N_drewN | apply Kd.N_drew));exact HO_38.out) (Kd.R_base ho0) hb);have n2_:=Aside0.mk (Kd.V_elder' (by (with_reducible repeat (first | apply Kd.V_alloc | apply Kd.V_drewN | apply Kd.V_drew));exact HL271_0.out) (Kd.R_base ho0) hb);have n3_:=Aside0.mk (Kd.R_lower ho0 (below_size (by repeat (first | (with_reducible first | exact HB.out | apply below_alloc | apply pw_below_drewN | apply below_drew1) | exact HB.out))));have n4_:=Aside0.mk (Kd.C_below (by repeat (first | (with_reducible exact HR271_0.out) | (with_reducible refine Kd.C_alloc ?_ _) | (with_reducible refine Kd.C_drewN ?_ _) | (with_reducible refine Kd.C_drew ?_) | exact HR271_0.out)) hb);have n5_:=Aside0.mk (below_step (by repeat (first | (with_reducible first | exact HB.out | apply below_alloc | apply pw_below_drewN | apply below_drew1) | exact HB.out)) hb);clear HO_7;clear HO_38;clear HL271_0;clear HR271_0;clear HB;have HO_7:=n0_;have HO_38:=n1_;have HL271_0:=n2_;have HO275:=n3_;have HR271_0:=n4_;have HB:=n5_;clear n0_ n1_ n2_ n3_ n4_ n5_;(try clear hb);(try clear hb2);(try clear hk);(try clear hi);(try clear ho0)))
                      have n0_:=Aside0.mk (Kd.N_drew HO_7.out)
                      have n1_:=Aside0.mk (Kd.N_drew HO_38.out)
                      have n2_:=Aside0.mk (Kd.V_drew HL271_0.out)
                      have n3_:=Aside0.mk (Kd.R_drew HO275.out)
                      have n4_:=Aside0.mk (Kd.C_drew HR271_0.out)
                      have n5_:=Aside0.mk (below_drew1 HB.out)
                      clear HO_7
                      clear HO_38
                      clear HL271_0
                      clear HO275
                      clear HR271_0
                      clear HB
                      have HO_7:=n0_
                      have HO_38:=n1_
                      have HL271_0:=n2_
                      have HO275:=n3_
                      have HR271_0:=n4_
                      have HB:=n5_
                      clear n0_ n1_ n2_ n3_ n4_ n5_
                      have p282 : 0 ≤ ((ji28) : Int):=of_decide_eq_true (by first | (with_reducible assumption) | assumption)
                      have q282 : (ji28) < (t265.length : Int):=of_decide_eq_true (by first | (with_reducible assumption) | assumption)
                      obtain ⟨ad282,A282_0,c282_0,e282,hx282_0,hl282_0,hi282_0⟩:=at_L11 (Kd.N_reads' HO_7.out).2.2 (ji28) p282 q282
                      obtain rfl : ad271 = ad282:=(by injection e282)
                      obtain ⟨ce282,hce282,hMe282,hcc282⟩:=Kd.N_get HO_7.out [] (ji28) p282 (by first | exact q282 | exact of_decide_eq_true (by first | (with_reducible assumption) | assumption) | (have e_:=(Kd.N_reads' HO_7.out).1;omega))
                      obtain ⟨ua282_0,uc282_0,rfl,ul282_0,ge282_0⟩:=Kd.FK_slice_open hMe282
                      have hv282_0:=hcc282 0 _ rfl
                      rw [Nat.add_zero,show ((Kd.slice 56 k56)).sz = 1 from rfl,Nat.mul_one] at hv282_0
                      replace hv282_0:=Option.some.inj (hv282_0.symm.trans hx282_0)
                      injection hv282_0 with hva_ hvn_ hvc_
                      rw [hva_] at ge282_0
                      rw [hvc_] at ul282_0
                      have HL282_0:=Aside0.mk (show Kd.V k56 56 _ w.heap.size _ _ (rd_L11 t265 (ji28)) from Kd.V_mk ul282_0 ge282_0)
                      clear hva_ hvn_ hvc_ ge282_0 ul282_0
                      clear hcc282 hce282
                      have HR282_0:=Aside0.mk hi282_0
                      have HC282_0:=Aside0.mk hl282_0
                      clear hi282_0 hl282_0
                      replace p282:=eq_true p282
                      replace q282:=eq_true q282
                      have p283 : 0 ≤ ((ji28) : Int):=of_decide_eq_true (by first | (with_reducible assumption) | assumption)
                      have q283 : (ji28) < (t265.length : Int):=of_decide_eq_true (by first | (with_reducible assumption) | assumption)
                      obtain ⟨ad283,A283_0,c283_0,e283,hx283_0,hl283_0,hi283_0⟩:=at_L11 (Kd.N_reads' HO_7.out).2.2 (ji28) p283 q283
                      obtain rfl : ad271 = ad283:=(by injection e283)
                      obtain ⟨ce283,hce283,hMe283,hcc283⟩:=Kd.N_get HO_7.out [] (ji28) p283 (by first | exact q283 | exact of_decide_eq_true (by first | (with_reducible assumption) | assumption) | (have e_:=(Kd.N_reads' HO_7.out).1;omega))
                      obtain ⟨ua283_0,uc283_0,rfl,ul283_0,ge283_0⟩:=Kd.FK_slice_open hMe283
                      have hv283_0:=hcc283 0 _ rfl
                      rw [Nat.add_zero,show ((Kd.slice 56 k56)).sz = 1 from rfl,Nat.mul_one] at hv283_0
                      replace hv283_0:=Option.some.inj (hv283_0.symm.trans hx283_0)
                      injection hv283_0 with hva_ hvn_ hvc_
                      rw [hva_] at ge283_0
                      rw [hvc_] at ul283_0
                      have HL283_0:=Aside0.mk (show Kd.V k56 56 _ w.heap.size _ _ (rd_L11 t265 (ji28)) from Kd.V_mk ul283_0 ge283_0)
                      clear hva_ hvn_ hvc_ ge283_0 ul283_0
                      clear hcc283 hce283
                      have HR283_0:=Aside0.mk hi283_0
                      have HC283_0:=Aside0.mk hl283_0
                      clear hi283_0 hl283_0
                      replace p283:=eq_true p283
                      replace q283:=eq_true q283
                      have ea_:=Option.some.inj (hx282_0.symm.trans hx283_0)
                      injection ea_ with ea_ en_ ec_
                      subst ea_
                      subst ec_
                      clear en_
                      have q40 : ((ji30) : Int) ≤ (((rd_L11 t265 (ji28)).length : Int) : Int):=of_decide_eq_true (by first | (with_reducible assumption) | assumption)
                      obtain ⟨i040,hi040,_,hsz40,_⟩:=info_parts info56
                      have hroom40 : (rd_L11 t265 (ji28)).length ≤ c282_0:=HC282_0.out
                      have hC40 : Kd.F k56 _ _ A282_0 (rd_L11 t265 (ji28)).length (rd_L11 t265 (ji28)):=(Kd.V_at (base:=w.heap.size) HL282_0.out).2.2
                      have hcut40:=cut_to (P:=Try.prog) 23 56 .i64 Try.underlying23 hi040 A282_0 (rd_L11 t265 (ji28)).length c282_0 (ji30) (of_decide_eq_true (by first | (with_reducible assumption) | assumption)) q40 hroom40
                      have hr40:=Kd.F_take (m:=((ji30) : Int).toNat) hC40 (by omega)
                      have hy40 : y284.length = ((ji30) : Int).toNat:=(by rw [Ny284.out,List.length_take];omega)
                      rw [← Ny284.out] at hr40
                      rw [← hy40] at hcut40
                      have HO288:=Aside0.mk (show Kd.V k56 56 _ w.heap.size _ (.slice A282_0 y284.length c282_0) y284 from Kd.V_mk (by omega) hr40)
                      have HC288:=Aside0.mk (show y284.length ≤ c282_0 from by omega)
                      clear hr40 hC40 hroom40 hi040 hsz40
                      have KY40:=Aside0.mk hy40
                      clear hy40
                      replace q40:=eq_true q40
                      refine start_ (n:=18) (S:=fun w' => w'.cell? (ad271.add ((ji28)).toNat) = some (.slice A282_0 (rd_L11 t265 (ji28)).length c282_0) ∧ w'.cell? (ad271.add ((ji28)).toNat) = some (.slice A282_0 (rd_L11 t265 (ji28)).length c282_0)) (ds:=[]) #[n_,n_,n_,n_,n_,n_,n_,n_,n_,n_,n_,n_,n_,n_,n_,n_,n_,n_] (by kernel_rfl) rfl rfl ⟨hx282_0,hx283_0⟩ (fun hHeld => ?_);refine with_tabW tachographlaw16_CutNoLess.tab15 tachographlaw16_CutNoLess.bits15 (fun HT_ HW_ => ?_)
                      generalize w38.drew = w39 at HO_7 HO_38 HL271_0 HO275 HR271_0 HB HL282_0 HL283_0 HO288 HR282_0 HR283_0 hx282_0 hx283_0 hHeld ⊢
                      refine pure_ (i:=1) (N:=some 73) (v:=?_) (a':=?_) #[n_,y_,n_,n_,n_,n_,n_,n_,n_,n_,n_,n_,n_,n_,n_,n_,n_,n_] rfl rfl (any_of HT_.out (by kernel_rfl)) (fun _ _ _ h => h) (Or.inl ⟨by rfl,?_⟩) ?_ ?_
                      rotate_left
                      ·intro w'
                       go_simp
                       with_reducible rfl
                      rotate_left
                      ·simp only [Act.put,sA_,sB_,sC_,i64_w,i32_w]
                       rfl
                      refine pure_ (i:=3) (N:=some 75) (v:=?_) (a':=?_) #[n_,y_,n_,y_,n_,n_,n_,n_,n_,n_,n_,n_,n_,n_,n_,n_,n_,n_] rfl rfl (any_of HT_.out (by kernel_rfl)) (fun _ _ _ h => h) (Or.inl ⟨by rfl,?_⟩) ?_ ?_
                      rotate_left
                      ·intro w'
                       go_simp
                       with_reducible rfl
                      rotate_left
                      ·simp only [Act.put,sA_,sB_,sC_,i64_w,i32_w]
                       rfl
                      refine pure_ (i:=4) (N:=some 76) (v:=?_) (a':=?_) #[n_,y_,n_,y_,y_,n_,n_,n_,n_,n_,n_,n_,n_,n_,n_,n_,n_,n_] rfl rfl (any_of HT_.out (by kernel_rfl)) (fun _ _ _ h => h) (Or.inl ⟨by rfl,?_⟩) ?_ ?_
                      rotate_left
                      ·intro w'
                       go_simp
                       with_reducible rfl
                      rotate_left
                      ·simp only [Act.put,sA_,sB_,sC_,i64_w,i32_w]
                       rfl
                      refine pure_ (i:=5) (N:=some 77) (v:=?_) (a':=?_) #[n_,y_,n_,y_,y_,y_,n_,n_,n_,n_,n_,n_,n_,n_,n_,n_,n_,n_] rfl rfl (any_of HT_.out (by kernel_rfl)) (fun _ _ _ h => h) (Or.inl ⟨by rfl,?_⟩) ?_ ?_
                      rotate_left
                      ·intro w'
                       go_simp
                       with_reducible rfl
                      rotate_left
                      ·simp only [Act.put,sA_,sB_,sC_,i64_w,i32_w]
                       rfl
                      refine pure_ (i:=6) (N:=some 78) (v:=?_) (a':=?_) #[n_,y_,n_,y_,y_,y_,y_,n_,n_,n_,n_,n_,n_,n_,n_,n_,n_,n_] rfl rfl (any_of HT_.out (by kernel_rfl)) (fun _ _ _ h => h) (Or.inl ⟨by rfl,?_⟩) ?_ ?_
                      rotate_left
                      ·intro w'
                       go_simp
                       with_reducible rfl
                      rotate_left
                      ·simp only [Act.put,sA_,sB_,sC_,i64_w,i32_w]
                       rfl
                      refine pure_ (i:=8) (N:=some 80) (v:=?_) (a':=?_) #[n_,y_,n_,y_,y_,y_,y_,n_,y_,n_,n_,n_,n_,n_,n_,n_,n_,n_] rfl rfl (any_of HT_.out (by kernel_rfl)) (fun _ _ _ h => h) (Or.inl ⟨by rfl,?_⟩) ?_ ?_
                      rotate_left
                      ·intro w'
                       go_simp
                       with_reducible rfl
                      rotate_left
                      ·simp only [Act.put,sA_,sB_,sC_,i64_w,i32_w]
                       rfl
                      refine pure_ (i:=9) (N:=some 81) (v:=?_) (a':=?_) #[n_,y_,n_,y_,y_,y_,y_,n_,y_,y_,n_,n_,n_,n_,n_,n_,n_,n_] rfl rfl (any_of HT_.out (by kernel_rfl)) (fun _ _ _ h => h) (Or.inl ⟨by rfl,?_⟩) ?_ ?_
                      rotate_left
                      ·intro w'
                       go_simp
                       with_reducible rfl
                      rotate_left
                      ·simp only [Act.put,sA_,sB_,sC_,i64_w,i32_w]
                       rfl
                      refine pure_ (i:=10) (N:=some 82) (v:=?_) (a':=?_) #[n_,y_,n_,y_,y_,y_,y_,n_,y_,y_,y_,n_,n_,n_,n_,n_,n_,n_] rfl rfl (any_of HT_.out (by kernel_rfl)) (fun _ _ _ h => h) (Or.inl ⟨by rfl,?_⟩) ?_ ?_
                      rotate_left
                      ·intro w'
                       go_simp
                       with_reducible rfl
                      rotate_left
                      ·simp only [Act.put,sA_,sB_,sC_,i64_w,i32_w]
                       rfl
                      refine pure_ (i:=11) (N:=some 83) (v:=?_) (a':=?_) #[n_,y_,n_,y_,y_,y_,y_,n_,y_,y_,y_,y_,n_,n_,n_,n_,n_,n_] rfl rfl (any_of HT_.out (by kernel_rfl)) (fun _ _ _ h => h) (Or.inl ⟨by rfl,?_⟩) ?_ ?_
                      rotate_left
                      ·intro w'
                       go_simp
                       with_reducible rfl
                      rotate_left
                      ·simp only [Act.put,sA_,sB_,sC_,i64_w,i32_w]
                       rfl
                      refine take_ (i:=7) (N:=some 79) (v:=?_) (a':=?_) #[n_,y_,n_,y_,y_,y_,y_,y_,y_,y_,y_,y_,n_,n_,n_,n_,n_,n_] rfl rfl (take_ofW HT_.out HW_.out (by kernel_rfl)) (fun _ _ _ h => h) (Or.inl ⟨by rfl,?_⟩) hHeld ?_ ?_
                      rotate_left
                      ·rintro w' ⟨s0,s1⟩
                       go_simp
                       with_reducible rfl
                      rotate_left
                      ·simp only [Act.put,sA_,sB_,sC_,i64_w,i32_w]
                       rfl
                      refine take_ (i:=12) (N:=some 84) (v:=?_) (a':=?_) #[n_,y_,n_,y_,y_,y_,y_,y_,y_,y_,y_,y_,y_,n_,n_,n_,n_,n_] rfl rfl (take_ofW HT_.out HW_.out (by kernel_rfl)) (fun _ _ _ h => h) (Or.inl ⟨by rfl,?_⟩) hHeld ?_ ?_
                      rotate_left
                      ·rintro w' ⟨s0,s1⟩
                       go_simp
                       with_reducible rfl
                      rotate_left
                      ·simp only [Act.put,sA_,sB_,sC_,i64_w,i32_w]
                       rfl
                      refine pure_ (i:=13) (N:=some 85) (v:=?_) (a':=?_) #[n_,y_,n_,y_,y_,y_,y_,y_,y_,y_,y_,y_,y_,y_,n_,n_,n_,n_] rfl rfl (any_of HT_.out (by kernel_rfl)) (fun _ _ _ h => h) (Or.inl ⟨by rfl,?_⟩) ?_ ?_
                      rotate_left
                      ·intro w'
                       go_simp
                       with_reducible rfl
                      rotate_left
                      ·simp only [Act.put,sA_,sB_,sC_,i64_w,i32_w]
                       rfl
                      refine pure_ (i:=14) (N:=some 86) (v:=?_) (a':=?_) #[n_,y_,n_,y_,y_,y_,y_,y_,y_,y_,y_,y_,y_,y_,y_,n_,n_,n_] rfl rfl (any_of HT_.out (by kernel_rfl)) (fun _ _ _ h => h) (Or.inl ⟨by rfl,?_⟩) ?_ ?_
                      rotate_left
                      ·intro w'
                       go_simp
                       with_reducible rfl
                      rotate_left
                      ·simp only [Act.put,sA_,sB_,sC_,i64_w,i32_w]
                       rfl
                      refine pure_ (i:=15) (N:=some 87) (v:=?_) (a':=?_) #[n_,y_,n_,y_,y_,y_,y_,y_,y_,y_,y_,y_,y_,y_,y_,y_,n_,n_] rfl rfl (any_of HT_.out (by kernel_rfl)) (fun _ _ _ h => h) (Or.inl ⟨by rfl,?_⟩) ?_ ?_
                      rotate_left
                      ·intro w'
                       go_simp
                       with_reducible rfl
                      rotate_left
                      ·simp only [Act.put,sA_,sB_,sC_,i64_w,i32_w]
                       rfl
                      refine one_ (i:=0) (N:=some 72) #[y_,y_,n_,y_,y_,y_,y_,y_,y_,y_,y_,y_,y_,y_,y_,y_,n_,n_] rfl rfl (one_of HT_.out (by kernel_rfl)) (by decide) (fun K hK => ?_)
                      refine Kd.N_lit_step k56 _ 56 ?hg (N':=72) ?hd (xs:=([] : List (S56))) (inner:=[]) (ok:=(fun k_ => some k_ ≠ (.slice (some ad271) t265.length co17 : Value).ownBlock ∧ some k_ ≠ (.slice (some ad271) t265.length co17 : Value).ownBlock ∧ some k_ ≠ (v274 : Value).ownBlock)) (okp:=(fun k_ => some k_ ≠ (.slice (some ad271) t265.length co17 : Value).ownBlock ∧ some k_ ≠ (.slice (some ad271) t265.length co17 : Value).ownBlock ∧ some k_ ≠ (v274 : Value).ownBlock)) ?hr ?hp (fun _ hk => hk) ((show ∀ k_,w39.heap.size ≤ k_ → (fun k_ => some k_ ≠ (.slice (some ad271) t265.length co17 : Value).ownBlock ∧ some k_ ≠ (.slice (some ad271) t265.length co17 : Value).ownBlock ∧ some k_ ≠ (v274 : Value).ownBlock) k_ from fun k_ hk => ⟨Kd.fresh' (Kd.N_lt (by (with_reducible repeat (first | apply Kd.N_alloc | apply Kd.N_drewN | apply Kd.N_drew));exact HO_7.out)) k_ hk,Kd.fresh' (Kd.N_lt (by (with_reducible repeat (first | apply Kd.N_alloc | apply Kd.N_drewN | apply Kd.N_drew));exact HO_38.out)) k_ hk,Kd.fresh' (Kd.R_lt (by (with_reducible repeat (first | apply Kd.R_alloc | apply Kd.R_drewN | apply Kd.R_drew));exact HO275.out)) k_ hk⟩) _ (Nat.le_refl _)) (Below.refl _ _) (Nat.le_refl _) (by simp) ?_;(case hd => rfl);(case hg => rfl);(case hr => first | (go_simp;done) | (go_simp;rfl));(case hp => exact (Reps.none _ _))
                      intro v277 w41 ho42 hb hg_ hnew_
                      have HS0_:=(hb.cell (World.block_lt_of_cell? _ _ (hHeld.1))).trans (hHeld.1)
                      have HS1_:=(hb.cell (World.block_lt_of_cell? _ _ (hHeld.2))).trans (hHeld.2)
                      clear hg_ hnew_
                      (first | rw [← Ny276.out] at ho42 | (simp only [Int.reduceToNat] at ho42;rw [← Ny276.out] at ho42))
                      have n0_:=Aside0.mk (Kd.N_elder' (by (with_reducible repeat (first | apply Kd.N_alloc | apply Kd.N_drewN | apply Kd.N_drew));exact HO_7.out) (Kd.N_base ho42) hb)
                      have n1_:=Aside0.mk (Kd.N_elder' (by (with_reducible repeat (first | apply Kd.N_alloc | apply Kd.N_drewN | apply Kd.N_drew));exact HO_38.out) (Kd.N_base ho42) hb)
                      have n2_:=Aside0.mk (Kd.V_elder' (by (with_reducible repeat (first | apply Kd.V_alloc | apply Kd.V_drewN | apply Kd.V_drew));exact HL271_0.out) (Kd.N_base ho42) hb)
                      have n3_:=Aside0.mk (Kd.R_below (by (with_reducible repeat (first | apply Kd.R_alloc | apply Kd.R_drewN | apply Kd.R_drew));exact HO275.out) hb)
                      have n4_:=Aside0.mk (Kd.V_elder' (by (with_reducible repeat (first | apply Kd.V_alloc | apply Kd.V_drewN | apply Kd.V_drew));exact HL282_0.out) (Kd.N_base ho42) hb)
                      have n5_:=Aside0.mk (Kd.V_elder' (by (with_reducible repeat (first | apply Kd.V_alloc | apply Kd.V_drewN | apply Kd.V_drew));exact HL283_0.out) (Kd.N_base ho42) hb)
                      have n6_:=Aside0.mk (Kd.V_elder' (by (with_reducible repeat (first | apply Kd.V_alloc | apply Kd.V_drewN | apply Kd.V_drew));exact HO288.out) (Kd.N_base ho42) hb)
                      have n7_:=Aside0.mk (Kd.N_lower ho42 (below_size (by repeat (first | (with_reducible first | exact HB.out | apply below_alloc | apply pw_below_drewN | apply below_drew1) | exact HB.out))))
                      have n8_:=Aside0.mk (Kd.C_below (by repeat (first | (with_reducible exact HR271_0.out) | (with_reducible refine Kd.C_alloc ?_ _) | (with_reducible refine Kd.C_drewN ?_ _) | (with_reducible refine Kd.C_drew ?_) | exact HR271_0.out)) hb)
                      have n9_:=Aside0.mk (Kd.C_below (by repeat (first | (with_reducible exact HR282_0.out) | (with_reducible refine Kd.C_alloc ?_ _) | (with_reducible refine Kd.C_drewN ?_ _) | (with_reducible refine Kd.C_drew ?_) | exact HR282_0.out)) hb)
                      have n10_:=Aside0.mk (Kd.C_below (by repeat (first | (with_reducible exact HR283_0.out) | (with_reducible refine Kd.C_alloc ?_ _) | (with_reducible refine Kd.C_drewN ?_ _) | (with_reducible refine Kd.C_drew ?_) | exact HR283_0.out)) hb)
                      have n11_:=Aside0.mk (below_step (by repeat (first | (with_reducible first | exact HB.out | apply below_alloc | apply pw_below_drewN | apply below_drew1) | exact HB.out)) hb)
                      clear HO_7
                      clear HO_38
                      clear HL271_0
                      clear HO275
                      clear HL282_0
                      clear HL283_0
                      clear HO288
                      clear HR271_0
                      clear HR282_0
                      clear HR283_0
                      clear HB
                      have HO_7:=n0_
                      have HO_38:=n1_
                      have HL271_0:=n2_
                      have HO275:=n3_
                      have HL282_0:=n4_
                      have HL283_0:=n5_
                      have HO288:=n6_
                      have HO278:=n7_
                      have HR271_0:=n8_
                      have HR282_0:=n9_
                      have HR283_0:=n10_
                      have HB:=n11_
                      clear n0_ n1_ n2_ n3_ n4_ n5_ n6_ n7_ n8_ n9_ n10_ n11_
                      clear hb ho42
                      refine hK.out _ _ ⟨HS0_,HS1_⟩ (fun hHeld => ?_)
                      clear hK K
                      refine norm_ (a':=?_) ?_ ?_
                      rotate_left
                      ·show Act.put _ (some 72) _ = _
                       simp only [Act.put,sA_,sB_,sC_,i64_w,i32_w]
                       rfl
                      refine one_ (i:=2) (N:=some 74) #[y_,y_,y_,y_,y_,y_,y_,y_,y_,y_,y_,y_,y_,y_,y_,y_,n_,n_] rfl rfl (one_of HT_.out (by kernel_rfl)) (by decide) (fun K hK => ?_)
                      refine Kd.N_append_rows_step k56 (w0:=w) w.heap.size (by rfl) (.tmp 72) (.tmp 73) 23 56 (.agg #[(.int .u64 0),(.slice none 0 0)]) 32 rfl Try.underlying23 info56 rfl (by decide) (by omega) v277 y276 (rd_L11 t265 x40_2) _ _ _ (fun k_ => some k_ ≠ (.slice (some ad271) t265.length co17 : Value).ownBlock ∧ some k_ ≠ (v274 : Value).ownBlock) (fun k_ => ((fun k_ => some k_ ≠ (.slice (some ad271) t265.length co17 : Value).ownBlock ∧ some k_ ≠ (v274 : Value).ownBlock)) k_ ∧ some k_ ≠ (v277 : Value).ownBlock) rfl rfl ?aO ?aR (fun _ hk => hk) ?aF ?aB ?aS ?aL ?_
                      (case aR => exact (by skip;exact Kd.V_F (Kd.V_mono (ok':=(fun k_ => ((fun k_ => some k_ ≠ (.slice (some ad271) t265.length co17 : Value).ownBlock ∧ some k_ ≠ (v274 : Value).ownBlock)) k_ ∧ some k_ ≠ (v277 : Value).ownBlock)) (HL271_0.out) (fun k_ hk => ⟨⟨hk.1.1.2,hk.1.2⟩,hk.2⟩))))
                      (case aB => exact (by repeat (first | (with_reducible first | exact HB.out | apply below_alloc | apply pw_below_drewN | apply below_drew1) | exact HB.out)))
                      (case aF => exact (fun k_ hk => ⟨Kd.fresh' (Kd.N_lt (by (with_reducible repeat (first | apply Kd.N_alloc | apply Kd.N_drewN | apply Kd.N_drew));exact HO_38.out)) k_ hk,Kd.fresh' (Kd.R_lt (by (with_reducible repeat (first | apply Kd.R_alloc | apply Kd.R_drewN | apply Kd.R_drew));exact HO275.out)) k_ hk⟩))
                      (case aO => exact (by (with_reducible repeat (first | apply Kd.N_alloc | apply Kd.N_drewN | apply Kd.N_drew));exact Kd.N_mono HO278.out (fun _ hk => ⟨hk.2.1,hk.2.2⟩)))
                      (case aS => exact (below_size (by repeat (first | (with_reducible first | exact HB.out | apply below_alloc | apply pw_below_drewN | apply below_drew1) | exact HB.out))))
                      (case aL => have:=LMc27.out;omega)
                      intro v280 w43 ho hb hg hat
                      have HS0_:=cell_grown hg (hHeld.1) (by first | (rw [add_block];exact (HO_7.out.1 _ rfl).2) | (show some (Addr.add _ _).block ≠ _;rw [add_block];exact (HO_7.out.1 _ rfl).2) | exact (HO_7.out.1 _ rfl).2)
                      have HS1_:=cell_grown hg (hHeld.2) (by first | (rw [add_block];exact (HO_7.out.1 _ rfl).2) | (show some (Addr.add _ _).block ≠ _;rw [add_block];exact (HO_7.out.1 _ rfl).2) | exact (HO_7.out.1 _ rfl).2)
                      rw [← Ny279.out] at ho
                      have n0_:=Aside0.mk (Kd.N_afterv (ok:=(fun k_ => some k_ ≠ (v274 : Value).ownBlock)) (by (with_reducible repeat (first | apply Kd.N_alloc | apply Kd.N_drewN | apply Kd.N_drew));exact Kd.N_mono HO_7.out (fun _ hk => ⟨hk.1.2,hk.2⟩)) hg hat)
                      have n1_:=Aside0.mk (Kd.N_afterv (ok:=(fun k_ => some k_ ≠ (v274 : Value).ownBlock)) (by (with_reducible repeat (first | apply Kd.N_alloc | apply Kd.N_drewN | apply Kd.N_drew));exact Kd.N_mono HO_38.out (fun _ hk => ⟨hk.1.2,hk.2⟩)) hg hat)
                      have n2_:=Aside0.mk (Kd.V_afterv (ok:=(fun k_ => some k_ ≠ (.slice (some ad271) t265.length co17 : Value).ownBlock ∧ some k_ ≠ (v274 : Value).ownBlock)) (by (with_reducible repeat (first | apply Kd.V_alloc | apply Kd.V_drewN | apply Kd.V_drew));exact Kd.V_mono HL271_0.out (fun _ hk => ⟨⟨hk.1.1.2,hk.1.2⟩,hk.2⟩)) hg hat)
                      have n3_:=Aside0.mk (Kd.R_over' (by (with_reducible repeat (first | apply Kd.R_alloc | apply Kd.R_drewN | apply Kd.R_drew));exact HO275.out) (Kd.N_typed (by (with_reducible repeat (first | apply Kd.N_alloc | apply Kd.N_drewN | apply Kd.N_drew));exact HO278.out)) (by decide) hg)
                      have n4_:=Aside0.mk (Kd.V_afterv (ok:=(fun k_ => some k_ ≠ (.slice (some ad271) t265.length co17 : Value).ownBlock ∧ some k_ ≠ (v274 : Value).ownBlock)) (by (with_reducible repeat (first | apply Kd.V_alloc | apply Kd.V_drewN | apply Kd.V_drew));exact Kd.V_mono HL282_0.out (fun _ hk => ⟨⟨hk.1.2,hk.1.1.2⟩,hk.2⟩)) hg hat)
                      have n5_:=Aside0.mk (Kd.V_afterv (ok:=(fun k_ => some k_ ≠ (.slice (some ad271) t265.length co17 : Value).ownBlock ∧ some k_ ≠ (v274 : Value).ownBlock)) (by (with_reducible repeat (first | apply Kd.V_alloc | apply Kd.V_drewN | apply Kd.V_drew));exact Kd.V_mono HL283_0.out (fun _ hk => ⟨⟨hk.1.2,hk.1.1.2⟩,hk.2⟩)) hg hat)
                      have n6_:=Aside0.mk (Kd.V_afterv (ok:=(fun k_ => some k_ ≠ (.slice (some ad271) t265.length co17 : Value).ownBlock ∧ some k_ ≠ (v274 : Value).ownBlock)) (by (with_reducible repeat (first | apply Kd.V_alloc | apply Kd.V_drewN | apply Kd.V_drew));exact Kd.V_mono HO288.out (fun _ hk => ⟨⟨hk.1.2,hk.1.1.2⟩,hk.2⟩)) hg hat)
                      have n7_:=Aside0.mk (hb)
                      have n8_:=Aside0.mk (ho)
                      clear HO_7
                      clear HO_38
                      clear HL271_0
                      clear HO275
                      clear HL282_0
                      clear HL283_0
                      clear HO288
                      clear HB
                      clear HO278
                      have HO_7:=n0_
                      have HO_38:=n1_
                      have HL271_0:=n2_
                      have HO275:=n3_
                      have HL282_0:=n4_
                      have HL283_0:=n5_
                      have HO288:=n6_
                      have HB:=n7_
                      have HO281:=n8_
                      clear n0_ n1_ n2_ n3_ n4_ n5_ n6_ n7_ n8_
                      clear ho hb hg hat
                      refine hK.out _ _ ⟨HS0_,HS1_⟩ (fun hHeld => ?_)
                      clear hK K
                      refine norm_ (a':=?_) ?_ ?_
                      rotate_left
                      ·show Act.put _ (some 74) _ = _
                       simp only [Act.put,sA_,sB_,sC_,i64_w,i32_w]
                       rfl
                      refine one_ (i:=16) (N:=some 88) #[y_,y_,y_,y_,y_,y_,y_,y_,y_,y_,y_,y_,y_,y_,y_,y_,y_,n_] rfl rfl (one_of HT_.out (by kernel_rfl)) (by decide) (fun K hK => ?_)
                      refine Kd.N_append_rows_step k56 (w0:=w) w.heap.size (by rfl) (.tmp 74) (.tmp 87) 23 56 (.agg #[(.int .u64 0),(.slice none 0 0)]) 32 rfl Try.underlying23 info56 rfl (by decide) (by omega) v280 y279 y284 _ _ _ (fun k_ => some k_ ≠ (v274 : Value).ownBlock) (fun k_ => ((fun k_ => some k_ ≠ (v274 : Value).ownBlock)) k_ ∧ some k_ ≠ (v280 : Value).ownBlock) rfl rfl ?aO ?aR (fun _ hk => hk) ?aF ?aB ?aS ?aL ?_
                      (case aR => exact (by skip;exact Kd.V_F (Kd.V_mono (ok':=(fun k_ => ((fun k_ => some k_ ≠ (v274 : Value).ownBlock)) k_ ∧ some k_ ≠ (v280 : Value).ownBlock)) (HO288.out) (fun k_ hk => ⟨hk.1.2,hk.2⟩))))
                      (case aB => exact (by repeat (first | (with_reducible first | exact HB.out | apply below_alloc | apply pw_below_drewN | apply below_drew1) | exact HB.out)))
                      (case aF => exact (fun k_ hk => Kd.fresh' (Kd.R_lt (by (with_reducible repeat (first | apply Kd.R_alloc | apply Kd.R_drewN | apply Kd.R_drew));exact HO275.out)) k_ hk))
                      (case aO => exact (by (with_reducible repeat (first | apply Kd.N_alloc | apply Kd.N_drewN | apply Kd.N_drew));exact Kd.N_mono HO281.out (fun _ hk => hk.2)))
                      (case aS => exact (below_size (by repeat (first | (with_reducible first | exact HB.out | apply below_alloc | apply pw_below_drewN | apply below_drew1) | exact HB.out))))
                      (case aL => have:=LMc33.out;omega)
                      intro v290 w44 ho hb hg hat
                      have HS0_:=cell_grown hg (hHeld.1) (by first | (rw [add_block];exact (HO_7.out.1 _ rfl).2) | (show some (Addr.add _ _).block ≠ _;rw [add_block];exact (HO_7.out.1 _ rfl).2) | exact (HO_7.out.1 _ rfl).2)
                      have HS1_:=cell_grown hg (hHeld.2) (by first | (rw [add_block];exact (HO_7.out.1 _ rfl).2) | (show some (Addr.add _ _).block ≠ _;rw [add_block];exact (HO_7.out.1 _ rfl).2) | exact (HO_7.out.1 _ rfl).2)
                      rw [← Ny289.out] at ho
                      have n0_:=Aside0.mk (Kd.N_afterv (ok:=(fun k_ => some k_ ≠ (v274 : Value).ownBlock)) (by (with_reducible repeat (first | apply Kd.N_alloc | apply Kd.N_drewN | apply Kd.N_drew));exact HO_7.out) hg hat)
                      have n1_:=Aside0.mk (Kd.N_afterv (ok:=(fun k_ => some k_ ≠ (v274 : Value).ownBlock)) (by (with_reducible repeat (first | apply Kd.N_alloc | apply Kd.N_drewN | apply Kd.N_drew));exact HO_38.out) hg hat)
                      have n2_:=Aside0.mk (Kd.V_afterv (ok:=(fun k_ => some k_ ≠ (.slice (some ad271) t265.length co17 : Value).ownBlock ∧ some k_ ≠ (v274 : Value).ownBlock)) (by (with_reducible repeat (first | apply Kd.V_alloc | apply Kd.V_drewN | apply Kd.V_drew));exact HL271_0.out) hg hat)
                      have n3_:=Aside0.mk (Kd.R_over' (by (with_reducible repeat (first | apply Kd.R_alloc | apply Kd.R_drewN | apply Kd.R_drew));exact HO275.out) (Kd.N_typed (by (with_reducible repeat (first | apply Kd.N_alloc | apply Kd.N_drewN | apply Kd.N_drew));exact HO281.out)) (by decide) hg)
                      have n4_:=Aside0.mk (Kd.V_afterv (ok:=(fun k_ => some k_ ≠ (.slice (some ad271) t265.length co17 : Value).ownBlock ∧ some k_ ≠ (v274 : Value).ownBlock)) (by (with_reducible repeat (first | apply Kd.V_alloc | apply Kd.V_drewN | apply Kd.V_drew));exact HL282_0.out) hg hat)
                      have n5_:=Aside0.mk (Kd.V_afterv (ok:=(fun k_ => some k_ ≠ (.slice (some ad271) t265.length co17 : Value).ownBlock ∧ some k_ ≠ (v274 : Value).ownBlock)) (by (with_reducible repeat (first | apply Kd.V_alloc | apply Kd.V_drewN | apply Kd.V_drew));exact HL283_0.out) hg hat)
                      have n6_:=Aside0.mk (Kd.V_afterv (ok:=(fun k_ => some k_ ≠ (.slice (some ad271) t265.length co17 : Value).ownBlock ∧ some k_ ≠ (v274 : Value).ownBlock)) (by (with_reducible repeat (first | apply Kd.V_alloc | apply Kd.V_drewN | apply Kd.V_drew));exact HO288.out) hg hat)
                      have n7_:=Aside0.mk (hb)
                      have n8_:=Aside0.mk (ho)
                      clear HO_7
                      clear HO_38
                      clear HL271_0
                      clear HO275
                      clear HL282_0
                      clear HL283_0
                      clear HO288
                      clear HB
                      clear HO281
                      have HO_7:=n0_
                      have HO_38:=n1_
                      have HL271_0:=n2_
                      have HO275:=n3_
                      have HL282_0:=n4_
                      have HL283_0:=n5_
                      have HO288:=n6_
                      have HB:=n7_
                      have HO291:=n8_
                      clear n0_ n1_ n2_ n3_ n4_ n5_ n6_ n7_ n8_
                      clear ho hb hg hat
                      refine hK.out _ _ ⟨HS0_,HS1_⟩ (fun hHeld => ?_)
                      clear hK K
                      refine norm_ (a':=?_) ?_ ?_
                      rotate_left
                      ·show Act.put _ (some 88) _ = _
                       simp only [Act.put,sA_,sB_,sC_,i64_w,i32_w]
                       rfl
                      refine pure_ (i:=17) (N:=some 13) (v:=?_) (a':=?_) #[y_,y_,y_,y_,y_,y_,y_,y_,y_,y_,y_,y_,y_,y_,y_,y_,y_,y_] rfl rfl (any_of HT_.out (by kernel_rfl)) (fun _ _ _ h => h) (Or.inl ⟨by rfl,?_⟩) ?_ ?_
                      rotate_left
                      ·intro w'
                       go_simp
                       with_reducible rfl
                      rotate_left
                      ·simp only [Act.put,sA_,sB_,sC_,i64_w,i32_w]
                       rfl
                      refine done_ (done_of HT_.out (by kernel_rfl)) ?_
                      obtain ⟨Ao45,co45,eo45⟩:=Kd.N_slice HO291.out
                      subst eo45
                      try go_wp2_with (first | ((with_reducible refine gate_callee (f:=10) rfl ?_);refine goesL_ (some 92) rfl rfl Try.func10 (by kernel_rfl) rfl #[.slice A0 l0.length c0,.slice Ao45 y289.length co45] rfl (by (try simp only [List.map_toArray,List.map_cons,List.map_nil]);first | done | rfl | (simp only [List.length_drop,List.length_take];rfl)) ?_;(with_reducible refine (block_Put.calls k2 _ _ l0 _ _ y289 t292 t293 _ ?side1 ?side2 ?side3 ?side4 A34.out).mono ?_);(case side1 => repeat (first | exact (Kd.C_below HR0.out HB.out) | (with_reducible refine Kd.C_alloc ?_ _) | (with_reducible refine Kd.C_drewN ?_ _) | (with_reducible refine Kd.C_drew ?_)));(case side2 => exact HC0.out);(case side3 => repeat (first | exact (Kd.N_reads' HO291.out).2.2 | (with_reducible refine Kd.C_alloc ?_ _) | (with_reducible refine Kd.C_drewN ?_ _) | (with_reducible refine Kd.C_drew ?_)));(case side4 => exact (Kd.N_reads' HO291.out).2.1);rintro e w46 ⟨v294,rfl,ho0,hb⟩;refine ⟨_,rfl,?_⟩;have n0_:=Aside0.mk (Kd.N_elder' (by (with_reducible repeat (first | apply Kd.N_alloc | apply Kd.N_drewN | apply Kd.N_drew));exact HO_7.out) (Kd.R_base ho0) hb);have n1_:=Aside0.mk (Kd.N_elder' (by (with_reducible repeat (first | apply Kd.N_alloc | apply Kd.N_drewN | apply Kd.N_drew));exact HO_38.out) (Kd.R_base ho0) hb);have n2_:=Aside0.mk (Kd.V_elder' (by (with_reducible repeat (first | apply Kd.V_alloc | apply Kd.V_drewN | apply Kd.V_drew));exact HL271_0.out) (Kd.R_base ho0) hb);have n3_:=Aside0.mk (Kd.R_elder' (by (with_reducible repeat (first | apply Kd.R_alloc | apply Kd.R_drewN | apply Kd.R_drew));exact HO275.out) (Kd.R_base ho0) hb);have n4_:=Aside0.mk (Kd.V_elder' (by (with_reducible repeat (first | apply Kd.V_alloc | apply Kd.V_drewN | apply Kd.V_drew));exact HL282_0.out) (Kd.R_base ho0) hb);have n5_:=Aside0.mk (Kd.V_elder' (by (with_reducible repeat (first | apply Kd.V_alloc | apply Kd.V_drewN | apply Kd.V_drew));exact HL283_0.out) (Kd.R_base ho0) hb);have n6_:=Aside0.mk (Kd.V_elder' (by (with_reducible repeat (first | apply Kd.V_alloc | apply Kd.V_drewN | apply Kd.V_drew));exact HO288.out) (Kd.R_base ho0) hb);have n7_:=Aside0.mk (Kd.N_elder' (by (with_reducible repeat (first | apply Kd.N_alloc | apply Kd.N_drewN | apply Kd.N_drew));exact HO291.out) (Kd.R_base ho0) hb);have n8_:=Aside0.mk (Kd.R_lower (Kd.R_new' ho0 (Kd.R_lt (by (with_reducible repeat (first | apply Kd.R_alloc | apply Kd.R_drewN | apply Kd.R_drew));exact HO275.out))) (below_size (by repeat (first | (with_reducible first | exact HB.out | apply below_alloc | apply pw_below_drewN | apply below_drew1) | exact HB.out))));have n9_:=Aside0.mk (below_step (by repeat (first | (with_reducible first | exact HB.out | apply below_alloc | apply pw_below_drewN | apply below_drew1) | exact HB.out)) hb);clear HO_7;clear HO_38;clear HL271_0;clear HO275;clear HL282_0;clear HL283_0;clear HO288;clear HO291;clear HB;have HO_7:=n0_;have HO_38:=n1_;have HL271_0:=n2_;have HO275:=n3_;have HL282_0:=n4_;have HL283_0:=n5_;have HO288:=n6_;have HO291:=n7_;have HO295:=n8_;have HB:=n9_;clear n0_ n1_ n2_ n3_ n4_ n5_ n6_ n7_ n8_ n9_;(try clear hb);(try clear hb2);(try clear hk);(try clear hi);(try clear ho0)))
                      go_roundg k2
                      case measure => have:=HJ3.out;have:=HK2.out;omega
                      case rel => exact ⟨(ji28),(by first | rfl | (simp;done) | (simp only [← hji28] <;> (first | rfl | simp)) | (simp [*];done)),H',⟨by have:=HJ3.out;have:=HK2.out;omega⟩,⟨by (with_reducible repeat (first | apply Kd.N_alloc | apply Kd.N_drewN | apply Kd.N_drew));exact Kd.N_mono HO_7.out (fun _ hk => trivial)⟩,⟨by (with_reducible repeat (first | apply Kd.N_alloc | apply Kd.N_drewN | apply Kd.N_drew));exact Kd.N_mono HO_38.out (fun _ hk => trivial)⟩,⟨by repeat (first | (with_reducible first | exact HB.out | apply below_alloc | apply pw_below_drewN | apply below_drew1) | exact HB.out)⟩⟩
                     ·rw [if_neg c37] at H
                      have c37b0 : (t293 == 6) = false:=beq_eq_false_iff_ne.mpr c37
                      have c37b1 : (t293 != 6) = true:=bne_iff_ne.mpr c37
                      obtain rfl:=Option.some.inj H
                      have p271 : 0 ≤ (x40_2 : Int):=of_decide_eq_true (by first | (with_reducible assumption) | assumption)
                      have q271 : x40_2 < (t265.length : Int):=of_decide_eq_true (by first | (with_reducible assumption) | assumption)
                      obtain ⟨ad271,A271_0,c271_0,e271,hx271_0,hl271_0,hi271_0⟩:=at_L11 (Kd.N_reads' HO_38.out).2.2 x40_2 p271 q271
                      cases e271
                      obtain ⟨ce271,hce271,hMe271,hcc271⟩:=Kd.N_get HO_38.out [] x40_2 p271 (by first | exact q271 | exact of_decide_eq_true (by first | (with_reducible assumption) | assumption) | (have e_:=(Kd.N_reads' HO_38.out).1;omega))
                      obtain ⟨ua271_0,uc271_0,rfl,ul271_0,ge271_0⟩:=Kd.FK_slice_open hMe271
                      have hv271_0:=hcc271 0 _ rfl
                      rw [Nat.add_zero,show ((Kd.slice 56 k56)).sz = 1 from rfl,Nat.mul_one] at hv271_0
                      replace hv271_0:=Option.some.inj (hv271_0.symm.trans hx271_0)
                      injection hv271_0 with hva_ hvn_ hvc_
                      rw [hva_] at ge271_0
                      rw [hvc_] at ul271_0
                      have HL271_0:=Aside0.mk (show Kd.V k56 56 _ w.heap.size _ _ (rd_L11 t265 x40_2) from Kd.V_mk ul271_0 ge271_0)
                      clear hva_ hvn_ hvc_ ge271_0 ul271_0
                      clear hcc271 hce271
                      have HR271_0:=Aside0.mk hi271_0
                      have HC271_0:=Aside0.mk hl271_0
                      clear hi271_0 hl271_0
                      replace p271:=eq_true p271
                      replace q271:=eq_true q271
                      try go_wp2_with (first | ((with_reducible refine gate_callee (f:=10) rfl ?_);refine goesL_ (some 62) rfl rfl Try.func10 (by kernel_rfl) rfl #[.slice A0 l0.length c0,.slice A271_0 (rd_L11 t265 x40_2).length c271_0] rfl (by (try simp only [List.map_toArray,List.map_cons,List.map_nil]);first | done | rfl | (simp only [List.length_drop,List.length_take];rfl)) ?_;(with_reducible refine (block_Put.calls k2 _ _ l0 _ _ (rd_L11 t265 x40_2) t272 t273 _ ?side1 ?side2 ?side3 ?side4 A24.out).mono ?_);(case side1 => repeat (first | exact (Kd.C_below HR0.out HB.out) | (with_reducible refine Kd.C_alloc ?_ _) | (with_reducible refine Kd.C_drewN ?_ _) | (with_reducible refine Kd.C_drew ?_)));(case side2 => exact HC0.out);(case side3 => repeat (first | exact (by repeat (first | (with_reducible exact HR271_0.out) | (with_reducible refine Kd.C_alloc ?_ _) | (with_reducible refine Kd.C_drewN ?_ _) | (with_reducible refine Kd.C_drew ?_) | exact HR271_0.out)) | (with_reducible refine Kd.C_alloc ?_ _) | (with_reducible refine Kd.C_drewN ?_ _) | (with_reducible refine Kd.C_drew ?_)));(case side4 => exact HC271_0.out);rintro e w47 ⟨v274,rfl,ho0,hb⟩;refine ⟨_,rfl,?_⟩;have n0_:=Aside0.mk (Kd.N_elder' (by (with_reducible repeat (first | apply Kd.N_alloc | apply Kd.N_drewN | apply Kd.N_drew));exact HO_7.out) (Kd.R_base ho0) hb);have n1_:=Aside0.mk (Kd.N_elder' (by (with_reducible repeat (first | apply Kd.N_alloc | apply Kd.N_drewN | apply Kd.N_drew));exact HO_38.out) (Kd.R_base ho0) hb);have n2_:=Aside0.mk (Kd.V_elder' (by (with_reducible repeat (first | apply Kd.V_alloc | apply Kd.V_drewN | apply Kd.V_drew));exact HL271_0.out) (Kd.R_base ho0) hb);have n3_:=Aside0.mk (Kd.R_lower ho0 (below_size (by repeat (first | (with_reducible first | exact HB.out | apply below_alloc | apply pw_below_drewN | apply below_drew1) | exact HB.out))));have n4_:=Aside0.mk (Kd.C_below (by repeat (first | (with_reducible exact HR271_0.out) | (with_reducible refine Kd.C_alloc ?_ _) | (with_reducible refine Kd.C_drewN ?_ _) | (with_reducible refine Kd.C_drew ?_) | exact HR271_0.out)) hb);have n5_:=Aside0.mk (below_step (by repeat (first | (with_reducible first | exact HB.out | apply below_alloc | apply pw_below_drewN | apply below_drew1) | exact HB.out)) hb);clear HO_7;clear HO_38;clear HL271_0;clear HR271_0;clear HB;have HO_7:=n0_;have HO_38:=n1_;have HL271_0:=n2_;have HO275:=n3_;have HR271_0:=n4_;have HB:=n5_;clear n0_ n1_ n2_ n3_ n4_ n5_;(try clear hb);(try clear hb2);(try clear hk);(try clear hi);(try clear ho0)))
                      have n0_:=Aside0.mk (Kd.N_drew HO_7.out)
                      have n1_:=Aside0.mk (Kd.N_drew HO_38.out)
                      have n2_:=Aside0.mk (Kd.V_drew HL271_0.out)
                      have n3_:=Aside0.mk (Kd.R_drew HO275.out)
                      have n4_:=Aside0.mk (Kd.C_drew HR271_0.out)
                      have n5_:=Aside0.mk (below_drew1 HB.out)
                      clear HO_7
                      clear HO_38
                      clear HL271_0
                      clear HO275
                      clear HR271_0
                      clear HB
                      have HO_7:=n0_
                      have HO_38:=n1_
                      have HL271_0:=n2_
                      have HO275:=n3_
                      have HR271_0:=n4_
                      have HB:=n5_
                      clear n0_ n1_ n2_ n3_ n4_ n5_
                      have p282 : 0 ≤ ((ji28) : Int):=of_decide_eq_true (by first | (with_reducible assumption) | assumption)
                      have q282 : (ji28) < (t265.length : Int):=of_decide_eq_true (by first | (with_reducible assumption) | assumption)
                      obtain ⟨ad282,A282_0,c282_0,e282,hx282_0,hl282_0,hi282_0⟩:=at_L11 (Kd.N_reads' HO_7.out).2.2 (ji28) p282 q282
                      obtain rfl : ad271 = ad282:=(by injection e282)
                      obtain ⟨ce282,hce282,hMe282,hcc282⟩:=Kd.N_get HO_7.out [] (ji28) p282 (by first | exact q282 | exact of_decide_eq_true (by first | (with_reducible assumption) | assumption) | (have e_:=(Kd.N_reads' HO_7.out).1;omega))
                      obtain ⟨ua282_0,uc282_0,rfl,ul282_0,ge282_0⟩:=Kd.FK_slice_open hMe282
                      have hv282_0:=hcc282 0 _ rfl
                      rw [Nat.add_zero,show ((Kd.slice 56 k56)).sz = 1 from rfl,Nat.mul_one] at hv282_0
                      replace hv282_0:=Option.some.inj (hv282_0.symm.trans hx282_0)
                      injection hv282_0 with hva_ hvn_ hvc_
                      rw [hva_] at ge282_0
                      rw [hvc_] at ul282_0
                      have HL282_0:=Aside0.mk (show Kd.V k56 56 _ w.heap.size _ _ (rd_L11 t265 (ji28)) from Kd.V_mk ul282_0 ge282_0)
                      clear hva_ hvn_ hvc_ ge282_0 ul282_0
                      clear hcc282 hce282
                      have HR282_0:=Aside0.mk hi282_0
                      have HC282_0:=Aside0.mk hl282_0
                      clear hi282_0 hl282_0
                      replace p282:=eq_true p282
                      replace q282:=eq_true q282
                      have p283 : 0 ≤ ((ji28) : Int):=of_decide_eq_true (by first | (with_reducible assumption) | assumption)
                      have q283 : (ji28) < (t265.length : Int):=of_decide_eq_true (by first | (with_reducible assumption) | assumption)
                      obtain ⟨ad283,A283_0,c283_0,e283,hx283_0,hl283_0,hi283_0⟩:=at_L11 (Kd.N_reads' HO_7.out).2.2 (ji28) p283 q283
                      obtain rfl : ad271 = ad283:=(by injection e283)
                      obtain ⟨ce283,hce283,hMe283,hcc283⟩:=Kd.N_get HO_7.out [] (ji28) p283 (by first | exact q283 | exact of_decide_eq_true (by first | (with_reducible assumption) | assumption) | (have e_:=(Kd.N_reads' HO_7.out).1;omega))
                      obtain ⟨ua283_0,uc283_0,rfl,ul283_0,ge283_0⟩:=Kd.FK_slice_open hMe283
                      have hv283_0:=hcc283 0 _ rfl
                      rw [Nat.add_zero,show ((Kd.slice 56 k56)).sz = 1 from rfl,Nat.mul_one] at hv283_0
                      replace hv283_0:=Option.some.inj (hv283_0.symm.trans hx283_0)
                      injection hv283_0 with hva_ hvn_ hvc_
                      rw [hva_] at ge283_0
                      rw [hvc_] at ul283_0
                      have HL283_0:=Aside0.mk (show Kd.V k56 56 _ w.heap.size _ _ (rd_L11 t265 (ji28)) from Kd.V_mk ul283_0 ge283_0)
                      clear hva_ hvn_ hvc_ ge283_0 ul283_0
                      clear hcc283 hce283
                      have HR283_0:=Aside0.mk hi283_0
                      have HC283_0:=Aside0.mk hl283_0
                      clear hi283_0 hl283_0
                      replace p283:=eq_true p283
                      replace q283:=eq_true q283
                      have ea_:=Option.some.inj (hx282_0.symm.trans hx283_0)
                      injection ea_ with ea_ en_ ec_
                      subst ea_
                      subst ec_
                      clear en_
                      have q49 : ((ji30) : Int) ≤ (((rd_L11 t265 (ji28)).length : Int) : Int):=of_decide_eq_true (by first | (with_reducible assumption) | assumption)
                      obtain ⟨i049,hi049,_,hsz49,_⟩:=info_parts info56
                      have hroom49 : (rd_L11 t265 (ji28)).length ≤ c282_0:=HC282_0.out
                      have hC49 : Kd.F k56 _ _ A282_0 (rd_L11 t265 (ji28)).length (rd_L11 t265 (ji28)):=(Kd.V_at (base:=w.heap.size) HL282_0.out).2.2
                      have hcut49:=cut_to (P:=Try.prog) 23 56 .i64 Try.underlying23 hi049 A282_0 (rd_L11 t265 (ji28)).length c282_0 (ji30) (of_decide_eq_true (by first | (with_reducible assumption) | assumption)) q49 hroom49
                      have hr49:=Kd.F_take (m:=((ji30) : Int).toNat) hC49 (by omega)
                      have hy49 : y284.length = ((ji30) : Int).toNat:=(by rw [Ny284.out,List.length_take];omega)
                      rw [← Ny284.out] at hr49
                      rw [← hy49] at hcut49
                      have HO288:=Aside0.mk (show Kd.V k56 56 _ w.heap.size _ (.slice A282_0 y284.length c282_0) y284 from Kd.V_mk (by omega) hr49)
                      have HC288:=Aside0.mk (show y284.length ≤ c282_0 from by omega)
                      clear hr49 hC49 hroom49 hi049 hsz49
                      have KY49:=Aside0.mk hy49
                      clear hy49
                      replace q49:=eq_true q49
                      refine start_ (n:=18) (S:=fun w' => w'.cell? (ad271.add ((ji28)).toNat) = some (.slice A282_0 (rd_L11 t265 (ji28)).length c282_0) ∧ w'.cell? (ad271.add ((ji28)).toNat) = some (.slice A282_0 (rd_L11 t265 (ji28)).length c282_0)) (ds:=[]) #[n_,n_,n_,n_,n_,n_,n_,n_,n_,n_,n_,n_,n_,n_,n_,n_,n_,n_] (by kernel_rfl) rfl rfl ⟨hx282_0,hx283_0⟩ (fun hHeld => ?_);refine with_tabW tachographlaw16_CutNoLess.tab15 tachographlaw16_CutNoLess.bits15 (fun HT_ HW_ => ?_)
                      generalize w47.drew = w48 at HO_7 HO_38 HL271_0 HO275 HR271_0 HB HL282_0 HL283_0 HO288 HR282_0 HR283_0 hx282_0 hx283_0 hHeld ⊢
                      refine pure_ (i:=1) (N:=some 73) (v:=?_) (a':=?_) #[n_,y_,n_,n_,n_,n_,n_,n_,n_,n_,n_,n_,n_,n_,n_,n_,n_,n_] rfl rfl (any_of HT_.out (by kernel_rfl)) (fun _ _ _ h => h) (Or.inl ⟨by rfl,?_⟩) ?_ ?_
                      rotate_left
                      ·intro w'
                       go_simp
                       with_reducible rfl
                      rotate_left
                      ·simp only [Act.put,sA_,sB_,sC_,i64_w,i32_w]
                       rfl
                      refine pure_ (i:=3) (N:=some 75) (v:=?_) (a':=?_) #[n_,y_,n_,y_,n_,n_,n_,n_,n_,n_,n_,n_,n_,n_,n_,n_,n_,n_] rfl rfl (any_of HT_.out (by kernel_rfl)) (fun _ _ _ h => h) (Or.inl ⟨by rfl,?_⟩) ?_ ?_
                      rotate_left
                      ·intro w'
                       go_simp
                       with_reducible rfl
                      rotate_left
                      ·simp only [Act.put,sA_,sB_,sC_,i64_w,i32_w]
                       rfl
                      refine pure_ (i:=4) (N:=some 76) (v:=?_) (a':=?_) #[n_,y_,n_,y_,y_,n_,n_,n_,n_,n_,n_,n_,n_,n_,n_,n_,n_,n_] rfl rfl (any_of HT_.out (by kernel_rfl)) (fun _ _ _ h => h) (Or.inl ⟨by rfl,?_⟩) ?_ ?_
                      rotate_left
                      ·intro w'
                       go_simp
                       with_reducible rfl
                      rotate_left
                      ·simp only [Act.put,sA_,sB_,sC_,i64_w,i32_w]
                       rfl
                      refine pure_ (i:=5) (N:=some 77) (v:=?_) (a':=?_) #[n_,y_,n_,y_,y_,y_,n_,n_,n_,n_,n_,n_,n_,n_,n_,n_,n_,n_] rfl rfl (any_of HT_.out (by kernel_rfl)) (fun _ _ _ h => h) (Or.inl ⟨by rfl,?_⟩) ?_ ?_
                      rotate_left
                      ·intro w'
                       go_simp
                       with_reducible rfl
                      rotate_left
                      ·simp only [Act.put,sA_,sB_,sC_,i64_w,i32_w]
                       rfl
                      refine pure_ (i:=6) (N:=some 78) (v:=?_) (a':=?_) #[n_,y_,n_,y_,y_,y_,y_,n_,n_,n_,n_,n_,n_,n_,n_,n_,n_,n_] rfl rfl (any_of HT_.out (by kernel_rfl)) (fun _ _ _ h => h) (Or.inl ⟨by rfl,?_⟩) ?_ ?_
                      rotate_left
                      ·intro w'
                       go_simp
                       with_reducible rfl
                      rotate_left
                      ·simp only [Act.put,sA_,sB_,sC_,i64_w,i32_w]
                       rfl
                      refine pure_ (i:=8) (N:=some 80) (v:=?_) (a':=?_) #[n_,y_,n_,y_,y_,y_,y_,n_,y_,n_,n_,n_,n_,n_,n_,n_,n_,n_] rfl rfl (any_of HT_.out (by kernel_rfl)) (fun _ _ _ h => h) (Or.inl ⟨by rfl,?_⟩) ?_ ?_
                      rotate_left
                      ·intro w'
                       go_simp
                       with_reducible rfl
                      rotate_left
                      ·simp only [Act.put,sA_,sB_,sC_,i64_w,i32_w]
                       rfl
                      refine pure_ (i:=9) (N:=some 81) (v:=?_) (a':=?_) #[n_,y_,n_,y_,y_,y_,y_,n_,y_,y_,n_,n_,n_,n_,n_,n_,n_,n_] rfl rfl (any_of HT_.out (by kernel_rfl)) (fun _ _ _ h => h) (Or.inl ⟨by rfl,?_⟩) ?_ ?_
                      rotate_left
                      ·intro w'
                       go_simp
                       with_reducible rfl
                      rotate_left
                      ·simp only [Act.put,sA_,sB_,sC_,i64_w,i32_w]
                       rfl
                      refine pure_ (i:=10) (N:=some 82) (v:=?_) (a':=?_) #[n_,y_,n_,y_,y_,y_,y_,n_,y_,y_,y_,n_,n_,n_,n_,n_,n_,n_] rfl rfl (any_of HT_.out (by kernel_rfl)) (fun _ _ _ h => h) (Or.inl ⟨by rfl,?_⟩) ?_ ?_
                      rotate_left
                      ·intro w'
                       go_simp
                       with_reducible rfl
                      rotate_left
                      ·simp only [Act.put,sA_,sB_,sC_,i64_w,i32_w]
                       rfl
                      refine pure_ (i:=11) (N:=some 83) (v:=?_) (a':=?_) #[n_,y_,n_,y_,y_,y_,y_,n_,y_,y_,y_,y_,n_,n_,n_,n_,n_,n_] rfl rfl (any_of HT_.out (by kernel_rfl)) (fun _ _ _ h => h) (Or.inl ⟨by rfl,?_⟩) ?_ ?_
                      rotate_left
                      ·intro w'
                       go_simp
                       with_reducible rfl
                      rotate_left
                      ·simp only [Act.put,sA_,sB_,sC_,i64_w,i32_w]
                       rfl
                      refine take_ (i:=7) (N:=some 79) (v:=?_) (a':=?_) #[n_,y_,n_,y_,y_,y_,y_,y_,y_,y_,y_,y_,n_,n_,n_,n_,n_,n_] rfl rfl (take_ofW HT_.out HW_.out (by kernel_rfl)) (fun _ _ _ h => h) (Or.inl ⟨by rfl,?_⟩) hHeld ?_ ?_
                      rotate_left
                      ·rintro w' ⟨s0,s1⟩
                       go_simp
                       with_reducible rfl
                      rotate_left
                      ·simp only [Act.put,sA_,sB_,sC_,i64_w,i32_w]
                       rfl
                      refine take_ (i:=12) (N:=some 84) (v:=?_) (a':=?_) #[n_,y_,n_,y_,y_,y_,y_,y_,y_,y_,y_,y_,y_,n_,n_,n_,n_,n_] rfl rfl (take_ofW HT_.out HW_.out (by kernel_rfl)) (fun _ _ _ h => h) (Or.inl ⟨by rfl,?_⟩) hHeld ?_ ?_
                      rotate_left
                      ·rintro w' ⟨s0,s1⟩
                       go_simp
                       with_reducible rfl
                      rotate_left
                      ·simp only [Act.put,sA_,sB_,sC_,i64_w,i32_w]
                       rfl
                      refine pure_ (i:=13) (N:=some 85) (v:=?_) (a':=?_) #[n_,y_,n_,y_,y_,y_,y_,y_,y_,y_,y_,y_,y_,y_,n_,n_,n_,n_] rfl rfl (any_of HT_.out (by kernel_rfl)) (fun _ _ _ h => h) (Or.inl ⟨by rfl,?_⟩) ?_ ?_
                      rotate_left
                      ·intro w'
                       go_simp
                       with_reducible rfl
                      rotate_left
                      ·simp only [Act.put,sA_,sB_,sC_,i64_w,i32_w]
                       rfl
                      refine pure_ (i:=14) (N:=some 86) (v:=?_) (a':=?_) #[n_,y_,n_,y_,y_,y_,y_,y_,y_,y_,y_,y_,y_,y_,y_,n_,n_,n_] rfl rfl (any_of HT_.out (by kernel_rfl)) (fun _ _ _ h => h) (Or.inl ⟨by rfl,?_⟩) ?_ ?_
                      rotate_left
                      ·intro w'
                       go_simp
                       with_reducible rfl
                      rotate_left
                      ·simp only [Act.put,sA_,sB_,sC_,i64_w,i32_w]
                       rfl
                      refine pure_ (i:=15) (N:=some 87) (v:=?_) (a':=?_) #[n_,y_,n_,y_,y_,y_,y_,y_,y_,y_,y_,y_,y_,y_,y_,y_,n_,n_] rfl rfl (any_of HT_.out (by kernel_rfl)) (fun _ _ _ h => h) (Or.inl ⟨by rfl,?_⟩) ?_ ?_
                      rotate_left
                      ·intro w'
                       go_simp
                       with_reducible rfl
                      rotate_left
                      ·simp only [Act.put,sA_,sB_,sC_,i64_w,i32_w]
                       rfl
                      refine one_ (i:=0) (N:=some 72) #[y_,y_,n_,y_,y_,y_,y_,y_,y_,y_,y_,y_,y_,y_,y_,y_,n_,n_] rfl rfl (one_of HT_.out (by kernel_rfl)) (by decide) (fun K hK => ?_)
                      refine Kd.N_lit_step k56 _ 56 ?hg (N':=72) ?hd (xs:=([] : List (S56))) (inner:=[]) (ok:=(fun k_ => some k_ ≠ (.slice (some ad271) t265.length co17 : Value).ownBlock ∧ some k_ ≠ (.slice (some ad271) t265.length co17 : Value).ownBlock ∧ some k_ ≠ (v274 : Value).ownBlock)) (okp:=(fun k_ => some k_ ≠ (.slice (some ad271) t265.length co17 : Value).ownBlock ∧ some k_ ≠ (.slice (some ad271) t265.length co17 : Value).ownBlock ∧ some k_ ≠ (v274 : Value).ownBlock)) ?hr ?hp (fun _ hk => hk) ((show ∀ k_,w48.heap.size ≤ k_ → (fun k_ => some k_ ≠ (.slice (some ad271) t265.length co17 : Value).ownBlock ∧ some k_ ≠ (.slice (some ad271) t265.length co17 : Value).ownBlock ∧ some k_ ≠ (v274 : Value).ownBlock) k_ from fun k_ hk => ⟨Kd.fresh' (Kd.N_lt (by (with_reducible repeat (first | apply Kd.N_alloc | apply Kd.N_drewN | apply Kd.N_drew));exact HO_7.out)) k_ hk,Kd.fresh' (Kd.N_lt (by (with_reducible repeat (first | apply Kd.N_alloc | apply Kd.N_drewN | apply Kd.N_drew));exact HO_38.out)) k_ hk,Kd.fresh' (Kd.R_lt (by (with_reducible repeat (first | apply Kd.R_alloc | apply Kd.R_drewN | apply Kd.R_drew));exact HO275.out)) k_ hk⟩) _ (Nat.le_refl _)) (Below.refl _ _) (Nat.le_refl _) (by simp) ?_;(case hd => rfl);(case hg => rfl);(case hr => first | (go_simp;done) | (go_simp;rfl));(case hp => exact (Reps.none _ _))
                      intro v277 w50 ho51 hb hg_ hnew_
                      have HS0_:=(hb.cell (World.block_lt_of_cell? _ _ (hHeld.1))).trans (hHeld.1)
                      have HS1_:=(hb.cell (World.block_lt_of_cell? _ _ (hHeld.2))).trans (hHeld.2)
                      clear hg_ hnew_
                      (first | rw [← Ny276.out] at ho51 | (simp only [Int.reduceToNat] at ho51;rw [← Ny276.out] at ho51))
                      have n0_:=Aside0.mk (Kd.N_elder' (by (with_reducible repeat (first | apply Kd.N_alloc | apply Kd.N_drewN | apply Kd.N_drew));exact HO_7.out) (Kd.N_base ho51) hb)
                      have n1_:=Aside0.mk (Kd.N_elder' (by (with_reducible repeat (first | apply Kd.N_alloc | apply Kd.N_drewN | apply Kd.N_drew));exact HO_38.out) (Kd.N_base ho51) hb)
                      have n2_:=Aside0.mk (Kd.V_elder' (by (with_reducible repeat (first | apply Kd.V_alloc | apply Kd.V_drewN | apply Kd.V_drew));exact HL271_0.out) (Kd.N_base ho51) hb)
                      have n3_:=Aside0.mk (Kd.R_below (by (with_reducible repeat (first | apply Kd.R_alloc | apply Kd.R_drewN | apply Kd.R_drew));exact HO275.out) hb)
                      have n4_:=Aside0.mk (Kd.V_elder' (by (with_reducible repeat (first | apply Kd.V_alloc | apply Kd.V_drewN | apply Kd.V_drew));exact HL282_0.out) (Kd.N_base ho51) hb)
                      have n5_:=Aside0.mk (Kd.V_elder' (by (with_reducible repeat (first | apply Kd.V_alloc | apply Kd.V_drewN | apply Kd.V_drew));exact HL283_0.out) (Kd.N_base ho51) hb)
                      have n6_:=Aside0.mk (Kd.V_elder' (by (with_reducible repeat (first | apply Kd.V_alloc | apply Kd.V_drewN | apply Kd.V_drew));exact HO288.out) (Kd.N_base ho51) hb)
                      have n7_:=Aside0.mk (Kd.N_lower ho51 (below_size (by repeat (first | (with_reducible first | exact HB.out | apply below_alloc | apply pw_below_drewN | apply below_drew1) | exact HB.out))))
                      have n8_:=Aside0.mk (Kd.C_below (by repeat (first | (with_reducible exact HR271_0.out) | (with_reducible refine Kd.C_alloc ?_ _) | (with_reducible refine Kd.C_drewN ?_ _) | (with_reducible refine Kd.C_drew ?_) | exact HR271_0.out)) hb)
                      have n9_:=Aside0.mk (Kd.C_below (by repeat (first | (with_reducible exact HR282_0.out) | (with_reducible refine Kd.C_alloc ?_ _) | (with_reducible refine Kd.C_drewN ?_ _) | (with_reducible refine Kd.C_drew ?_) | exact HR282_0.out)) hb)
                      have n10_:=Aside0.mk (Kd.C_below (by repeat (first | (with_reducible exact HR283_0.out) | (with_reducible refine Kd.C_alloc ?_ _) | (with_reducible refine Kd.C_drewN ?_ _) | (with_reducible refine Kd.C_drew ?_) | exact HR283_0.out)) hb)
                      have n11_:=Aside0.mk (below_step (by repeat (first | (with_reducible first | exact HB.out | apply below_alloc | apply pw_below_drewN | apply below_drew1) | exact HB.out)) hb)
                      clear HO_7
                      clear HO_38
                      clear HL271_0
                      clear HO275
                      clear HL282_0
                      clear HL283_0
                      clear HO288
                      clear HR271_0
                      clear HR282_0
                      clear HR283_0
                      clear HB
                      have HO_7:=n0_
                      have HO_38:=n1_
                      have HL271_0:=n2_
                      have HO275:=n3_
                      have HL282_0:=n4_
                      have HL283_0:=n5_
                      have HO288:=n6_
                      have HO278:=n7_
                      have HR271_0:=n8_
                      have HR282_0:=n9_
                      have HR283_0:=n10_
                      have HB:=n11_
                      clear n0_ n1_ n2_ n3_ n4_ n5_ n6_ n7_ n8_ n9_ n10_ n11_
                      clear hb ho51
                      refine hK.out _ _ ⟨HS0_,HS1_⟩ (fun hHeld => ?_)
                      clear hK K
                      refine norm_ (a':=?_) ?_ ?_
                      rotate_left
                      ·show Act.put _ (some 72) _ = _
                       simp only [Act.put,sA_,sB_,sC_,i64_w,i32_w]
                       rfl
                      refine one_ (i:=2) (N:=some 74) #[y_,y_,y_,y_,y_,y_,y_,y_,y_,y_,y_,y_,y_,y_,y_,y_,n_,n_] rfl rfl (one_of HT_.out (by kernel_rfl)) (by decide) (fun K hK => ?_)
                      refine Kd.N_append_rows_step k56 (w0:=w) w.heap.size (by rfl) (.tmp 72) (.tmp 73) 23 56 (.agg #[(.int .u64 0),(.slice none 0 0)]) 32 rfl Try.underlying23 info56 rfl (by decide) (by omega) v277 y276 (rd_L11 t265 x40_2) _ _ _ (fun k_ => some k_ ≠ (.slice (some ad271) t265.length co17 : Value).ownBlock ∧ some k_ ≠ (v274 : Value).ownBlock) (fun k_ => ((fun k_ => some k_ ≠ (.slice (some ad271) t265.length co17 : Value).ownBlock ∧ some k_ ≠ (v274 : Value).ownBlock)) k_ ∧ some k_ ≠ (v277 : Value).ownBlock) rfl rfl ?aO ?aR (fun _ hk => hk) ?aF ?aB ?aS ?aL ?_
                      (case aR => exact (by skip;exact Kd.V_F (Kd.V_mono (ok':=(fun k_ => ((fun k_ => some k_ ≠ (.slice (some ad271) t265.length co17 : Value).ownBlock ∧ some k_ ≠ (v274 : Value).ownBlock)) k_ ∧ some k_ ≠ (v277 : Value).ownBlock)) (HL271_0.out) (fun k_ hk => ⟨⟨hk.1.1.2,hk.1.2⟩,hk.2⟩))))
                      (case aB => exact (by repeat (first | (with_reducible first | exact HB.out | apply below_alloc | apply pw_below_drewN | apply below_drew1) | exact HB.out)))
                      (case aF => exact (fun k_ hk => ⟨Kd.fresh' (Kd.N_lt (by (with_reducible repeat (first | apply Kd.N_alloc | apply Kd.N_drewN | apply Kd.N_drew));exact HO_38.out)) k_ hk,Kd.fresh' (Kd.R_lt (by (with_reducible repeat (first | apply Kd.R_alloc | apply Kd.R_drewN | apply Kd.R_drew));exact HO275.out)) k_ hk⟩))
                      (case aO => exact (by (with_reducible repeat (first | apply Kd.N_alloc | apply Kd.N_drewN | apply Kd.N_drew));exact Kd.N_mono HO278.out (fun _ hk => ⟨hk.2.1,hk.2.2⟩)))
                      (case aS => exact (below_size (by repeat (first | (with_reducible first | exact HB.out | apply below_alloc | apply pw_below_drewN | apply below_drew1) | exact HB.out))))
                      (case aL => have:=LMc27.out;omega)
                      intro v280 w52 ho hb hg hat
                      have HS0_:=cell_grown hg (hHeld.1) (by first | (rw [add_block];exact (HO_7.out.1 _ rfl).2) | (show some (Addr.add _ _).block ≠ _;rw [add_block];exact (HO_7.out.1 _ rfl).2) | exact (HO_7.out.1 _ rfl).2)
                      have HS1_:=cell_grown hg (hHeld.2) (by first | (rw [add_block];exact (HO_7.out.1 _ rfl).2) | (show some (Addr.add _ _).block ≠ _;rw [add_block];exact (HO_7.out.1 _ rfl).2) | exact (HO_7.out.1 _ rfl).2)
                      rw [← Ny279.out] at ho
                      have n0_:=Aside0.mk (Kd.N_afterv (ok:=(fun k_ => some k_ ≠ (v274 : Value).ownBlock)) (by (with_reducible repeat (first | apply Kd.N_alloc | apply Kd.N_drewN | apply Kd.N_drew));exact Kd.N_mono HO_7.out (fun _ hk => ⟨hk.1.2,hk.2⟩)) hg hat)
                      have n1_:=Aside0.mk (Kd.N_afterv (ok:=(fun k_ => some k_ ≠ (v274 : Value).ownBlock)) (by (with_reducible repeat (first | apply Kd.N_alloc | apply Kd.N_drewN | apply Kd.N_drew));exact Kd.N_mono HO_38.out (fun _ hk => ⟨hk.1.2,hk.2⟩)) hg hat)
                      have n2_:=Aside0.mk (Kd.V_afterv (ok:=(fun k_ => some k_ ≠ (.slice (some ad271) t265.length co17 : Value).ownBlock ∧ some k_ ≠ (v274 : Value).ownBlock)) (by (with_reducible repeat (first | apply Kd.V_alloc | apply Kd.V_drewN | apply Kd.V_drew));exact Kd.V_mono HL271_0.out (fun _ hk => ⟨⟨hk.1.1.2,hk.1.2⟩,hk.2⟩)) hg hat)
                      have n3_:=Aside0.mk (Kd.R_over' (by (with_reducible repeat (first | apply Kd.R_alloc | apply Kd.R_drewN | apply Kd.R_drew));exact HO275.out) (Kd.N_typed (by (with_reducible repeat (first | apply Kd.N_alloc | apply Kd.N_drewN | apply Kd.N_drew));exact HO278.out)) (by decide) hg)
                      have n4_:=Aside0.mk (Kd.V_afterv (ok:=(fun k_ => some k_ ≠ (.slice (some ad271) t265.length co17 : Value).ownBlock ∧ some k_ ≠ (v274 : Value).ownBlock)) (by (with_reducible repeat (first | apply Kd.V_alloc | apply Kd.V_drewN | apply Kd.V_drew));exact Kd.V_mono HL282_0.out (fun _ hk => ⟨⟨hk.1.2,hk.1.1.2⟩,hk.2⟩)) hg hat)
                      have n5_:=Aside0.mk (Kd.V_afterv (ok:=(fun k_ => some k_ ≠ (.slice (some ad271) t265.length co17 : Value).ownBlock ∧ some k_ ≠ (v274 : Value).ownBlock)) (by (with_reducible repeat (first | apply Kd.V_alloc | apply Kd.V_drewN | apply Kd.V_drew));exact Kd.V_mono HL283_0.out (fun _ hk => ⟨⟨hk.1.2,hk.1.1.2⟩,hk.2⟩)) hg hat)
                      have n6_:=Aside0.mk (Kd.V_afterv (ok:=(fun k_ => some k_ ≠ (.slice (some ad271) t265.length co17 : Value).ownBlock ∧ some k_ ≠ (v274 : Value).ownBlock)) (by (with_reducible repeat (first | apply Kd.V_alloc | apply Kd.V_drewN | apply Kd.V_drew));exact Kd.V_mono HO288.out (fun _ hk => ⟨⟨hk.1.2,hk.1.1.2⟩,hk.2⟩)) hg hat)
                      have n7_:=Aside0.mk (hb)
                      have n8_:=Aside0.mk (ho)
                      clear HO_7
                      clear HO_38
                      clear HL271_0
                      clear HO275
                      clear HL282_0
                      clear HL283_0
                      clear HO288
                      clear HB
                      clear HO278
                      have HO_7:=n0_
                      have HO_38:=n1_
                      have HL271_0:=n2_
                      have HO275:=n3_
                      have HL282_0:=n4_
                      have HL283_0:=n5_
                      have HO288:=n6_
                      have HB:=n7_
                      have HO281:=n8_
                      clear n0_ n1_ n2_ n3_ n4_ n5_ n6_ n7_ n8_
                      clear ho hb hg hat
                      refine hK.out _ _ ⟨HS0_,HS1_⟩ (fun hHeld => ?_)
                      clear hK K
                      refine norm_ (a':=?_) ?_ ?_
                      rotate_left
                      ·show Act.put _ (some 74) _ = _
                       simp only [Act.put,sA_,sB_,sC_,i64_w,i32_w]
                       rfl
                      refine one_ (i:=16) (N:=some 88) #[y_,y_,y_,y_,y_,y_,y_,y_,y_,y_,y_,y_,y_,y_,y_,y_,y_,n_] rfl rfl (one_of HT_.out (by kernel_rfl)) (by decide) (fun K hK => ?_)
                      refine Kd.N_append_rows_step k56 (w0:=w) w.heap.size (by rfl) (.tmp 74) (.tmp 87) 23 56 (.agg #[(.int .u64 0),(.slice none 0 0)]) 32 rfl Try.underlying23 info56 rfl (by decide) (by omega) v280 y279 y284 _ _ _ (fun k_ => some k_ ≠ (v274 : Value).ownBlock) (fun k_ => ((fun k_ => some k_ ≠ (v274 : Value).ownBlock)) k_ ∧ some k_ ≠ (v280 : Value).ownBlock) rfl rfl ?aO ?aR (fun _ hk => hk) ?aF ?aB ?aS ?aL ?_
                      (case aR => exact (by skip;exact Kd.V_F (Kd.V_mono (ok':=(fun k_ => ((fun k_ => some k_ ≠ (v274 : Value).ownBlock)) k_ ∧ some k_ ≠ (v280 : Value).ownBlock)) (HO288.out) (fun k_ hk => ⟨hk.1.2,hk.2⟩))))
                      (case aB => exact (by repeat (first | (with_reducible first | exact HB.out | apply below_alloc | apply pw_below_drewN | apply below_drew1) | exact HB.out)))
                      (case aF => exact (fun k_ hk => Kd.fresh' (Kd.R_lt (by (with_reducible repeat (first | apply Kd.R_alloc | apply Kd.R_drewN | apply Kd.R_drew));exact HO275.out)) k_ hk))
                      (case aO => exact (by (with_reducible repeat (first | apply Kd.N_alloc | apply Kd.N_drewN | apply Kd.N_drew));exact Kd.N_mono HO281.out (fun _ hk => hk.2)))
                      (case aS => exact (below_size (by repeat (first | (with_reducible first | exact HB.out | apply below_alloc | apply pw_below_drewN | apply below_drew1) | exact HB.out))))
                      (case aL => have:=LMc33.out;omega)
                      intro v290 w53 ho hb hg hat
                      have HS0_:=cell_grown hg (hHeld.1) (by first | (rw [add_block];exact (HO_7.out.1 _ rfl).2) | (show some (Addr.add _ _).block ≠ _;rw [add_block];exact (HO_7.out.1 _ rfl).2) | exact (HO_7.out.1 _ rfl).2)
                      have HS1_:=cell_grown hg (hHeld.2) (by first | (rw [add_block];exact (HO_7.out.1 _ rfl).2) | (show some (Addr.add _ _).block ≠ _;rw [add_block];exact (HO_7.out.1 _ rfl).2) | exact (HO_7.out.1 _ rfl).2)
                      rw [← Ny289.out] at ho
                      have n0_:=Aside0.mk (Kd.N_afterv (ok:=(fun k_ => some k_ ≠ (v274 : Value).ownBlock)) (by (with_reducible repeat (first | apply Kd.N_alloc | apply Kd.N_drewN | apply Kd.N_drew));exact HO_7.out) hg hat)
                      have n1_:=Aside0.mk (Kd.N_afterv (ok:=(fun k_ => some k_ ≠ (v274 : Value).ownBlock)) (by (with_reducible repeat (first | apply Kd.N_alloc | apply Kd.N_drewN | apply Kd.N_drew));exact HO_38.out) hg hat)
                      have n2_:=Aside0.mk (Kd.V_afterv (ok:=(fun k_ => some k_ ≠ (.slice (some ad271) t265.length co17 : Value).ownBlock ∧ some k_ ≠ (v274 : Value).ownBlock)) (by (with_reducible repeat (first | apply Kd.V_alloc | apply Kd.V_drewN | apply Kd.V_drew));exact HL271_0.out) hg hat)
                      have n3_:=Aside0.mk (Kd.R_over' (by (with_reducible repeat (first | apply Kd.R_alloc | apply Kd.R_drewN | apply Kd.R_drew));exact HO275.out) (Kd.N_typed (by (with_reducible repeat (first | apply Kd.N_alloc | apply Kd.N_drewN | apply Kd.N_drew));exact HO281.out)) (by decide) hg)
                      have n4_:=Aside0.mk (Kd.V_afterv (ok:=(fun k_ => some k_ ≠ (.slice (some ad271) t265.length co17 : Value).ownBlock ∧ some k_ ≠ (v274 : Value).ownBlock)) (by (with_reducible repeat (first | apply Kd.V_alloc | apply Kd.V_drewN | apply Kd.V_drew));exact HL282_0.out) hg hat)
                      have n5_:=Aside0.mk (Kd.V_afterv (ok:=(fun k_ => some k_ ≠ (.slice (some ad271) t265.length co17 : Value).ownBlock ∧ some k_ ≠ (v274 : Value).ownBlock)) (by (with_reducible repeat (first | apply Kd.V_alloc | apply Kd.V_drewN | apply Kd.V_drew));exact HL283_0.out) hg hat)
                      have n6_:=Aside0.mk (Kd.V_afterv (ok:=(fun k_ => some k_ ≠ (.slice (some ad271) t265.length co17 : Value).ownBlock ∧ some k_ ≠ (v274 : Value).ownBlock)) (by (with_reducible repeat (first | apply Kd.V_alloc | apply Kd.V_drewN | apply Kd.V_drew));exact HO288.out) hg hat)
                      have n7_:=Aside0.mk (hb)
                      have n8_:=Aside0.mk (ho)
                      clear HO_7
                      clear HO_38
                      clear HL271_0
                      clear HO275
                      clear HL282_0
                      clear HL283_0
                      clear HO288
                      clear HB
                      clear HO281
                      have HO_7:=n0_
                      have HO_38:=n1_
                      have HL271_0:=n2_
                      have HO275:=n3_
                      have HL282_0:=n4_
                      have HL283_0:=n5_
                      have HO288:=n6_
                      have HB:=n7_
                      have HO291:=n8_
                      clear n0_ n1_ n2_ n3_ n4_ n5_ n6_ n7_ n8_
                      clear ho hb hg hat
                      refine hK.out _ _ ⟨HS0_,HS1_⟩ (fun hHeld => ?_)
                      clear hK K
                      refine norm_ (a':=?_) ?_ ?_
                      rotate_left
                      ·show Act.put _ (some 88) _ = _
                       simp only [Act.put,sA_,sB_,sC_,i64_w,i32_w]
                       rfl
                      refine pure_ (i:=17) (N:=some 13) (v:=?_) (a':=?_) #[y_,y_,y_,y_,y_,y_,y_,y_,y_,y_,y_,y_,y_,y_,y_,y_,y_,y_] rfl rfl (any_of HT_.out (by kernel_rfl)) (fun _ _ _ h => h) (Or.inl ⟨by rfl,?_⟩) ?_ ?_
                      rotate_left
                      ·intro w'
                       go_simp
                       with_reducible rfl
                      rotate_left
                      ·simp only [Act.put,sA_,sB_,sC_,i64_w,i32_w]
                       rfl
                      refine done_ (done_of HT_.out (by kernel_rfl)) ?_
                      obtain ⟨Ao54,co54,eo54⟩:=Kd.N_slice HO291.out
                      subst eo54
                      try go_wp2_with (first | ((with_reducible refine gate_callee (f:=10) rfl ?_);refine goesL_ (some 92) rfl rfl Try.func10 (by kernel_rfl) rfl #[.slice A0 l0.length c0,.slice Ao54 y289.length co54] rfl (by (try simp only [List.map_toArray,List.map_cons,List.map_nil]);first | done | rfl | (simp only [List.length_drop,List.length_take];rfl)) ?_;(with_reducible refine (block_Put.calls k2 _ _ l0 _ _ y289 t292 t293 _ ?side1 ?side2 ?side3 ?side4 A34.out).mono ?_);(case side1 => repeat (first | exact (Kd.C_below HR0.out HB.out) | (with_reducible refine Kd.C_alloc ?_ _) | (with_reducible refine Kd.C_drewN ?_ _) | (with_reducible refine Kd.C_drew ?_)));(case side2 => exact HC0.out);(case side3 => repeat (first | exact (Kd.N_reads' HO291.out).2.2 | (with_reducible refine Kd.C_alloc ?_ _) | (with_reducible refine Kd.C_drewN ?_ _) | (with_reducible refine Kd.C_drew ?_)));(case side4 => exact (Kd.N_reads' HO291.out).2.1);rintro e w55 ⟨v294,rfl,ho0,hb⟩;refine ⟨_,rfl,?_⟩;have n0_:=Aside0.mk (Kd.N_elder' (by (with_reducible repeat (first | apply Kd.N_alloc | apply Kd.N_drewN | apply Kd.N_drew));exact HO_7.out) (Kd.R_base ho0) hb);have n1_:=Aside0.mk (Kd.N_elder' (by (with_reducible repeat (first | apply Kd.N_alloc | apply Kd.N_drewN | apply Kd.N_drew));exact HO_38.out) (Kd.R_base ho0) hb);have n2_:=Aside0.mk (Kd.V_elder' (by (with_reducible repeat (first | apply Kd.V_alloc | apply Kd.V_drewN | apply Kd.V_drew));exact HL271_0.out) (Kd.R_base ho0) hb);have n3_:=Aside0.mk (Kd.R_elder' (by (with_reducible repeat (first | apply Kd.R_alloc | apply Kd.R_drewN | apply Kd.R_drew));exact HO275.out) (Kd.R_base ho0) hb);have n4_:=Aside0.mk (Kd.V_elder' (by (with_reducible repeat (first | apply Kd.V_alloc | apply Kd.V_drewN | apply Kd.V_drew));exact HL282_0.out) (Kd.R_base ho0) hb);have n5_:=Aside0.mk (Kd.V_elder' (by (with_reducible repeat (first | apply Kd.V_alloc | apply Kd.V_drewN | apply Kd.V_drew));exact HL283_0.out) (Kd.R_base ho0) hb);have n6_:=Aside0.mk (Kd.V_elder' (by (with_reducible repeat (first | apply Kd.V_alloc | apply Kd.V_drewN | apply Kd.V_drew));exact HO288.out) (Kd.R_base ho0) hb);have n7_:=Aside0.mk (Kd.N_elder' (by (with_reducible repeat (first | apply Kd.N_alloc | apply Kd.N_drewN | apply Kd.N_drew));exact HO291.out) (Kd.R_base ho0) hb);have n8_:=Aside0.mk (Kd.R_lower (Kd.R_new' ho0 (Kd.R_lt (by (with_reducible repeat (first | apply Kd.R_alloc | apply Kd.R_drewN | apply Kd.R_drew));exact HO275.out))) (below_size (by repeat (first | (with_reducible first | exact HB.out | apply below_alloc | apply pw_below_drewN | apply below_drew1) | exact HB.out))));have n9_:=Aside0.mk (below_step (by repeat (first | (with_reducible first | exact HB.out | apply below_alloc | apply pw_below_drewN | apply below_drew1) | exact HB.out)) hb);clear HO_7;clear HO_38;clear HL271_0;clear HO275;clear HL282_0;clear HL283_0;clear HO288;clear HO291;clear HB;have HO_7:=n0_;have HO_38:=n1_;have HL271_0:=n2_;have HO275:=n3_;have HL282_0:=n4_;have HL283_0:=n5_;have HO288:=n6_;have HO291:=n7_;have HO295:=n8_;have HB:=n9_;clear n0_ n1_ n2_ n3_ n4_ n5_ n6_ n7_ n8_ n9_;(try clear hb);(try clear hb2);(try clear hk);(try clear hi);(try clear ho0)))
                      go_ret
                      exact ⟨by first | rfl | (simp [errW_none,errW_some] <;> rfl) | (simp only [← hji28,← hji30,← hji35];first | rfl | (simp [errW_none,errW_some] <;> rfl)) | (simp [*,errW_none,errW_some] <;> rfl),by repeat (first | (with_reducible first | exact HB.out | apply below_alloc | apply pw_below_drewN | apply below_drew1) | exact HB.out)⟩
                    ·rw [if_neg c36] at H
                     have c36b0 : decide (((rd_L11 t265 x40_2).length : Int) < (ji35)) = false:=decide_eq_false c36
                     clear c36
                     have H':=Aside0.mk H
                     clear H
                     have p271 : 0 ≤ (x40_2 : Int):=of_decide_eq_true (by first | (with_reducible assumption) | assumption)
                     have q271 : x40_2 < (t265.length : Int):=of_decide_eq_true (by first | (with_reducible assumption) | assumption)
                     obtain ⟨ad271,A271_0,c271_0,e271,hx271_0,hl271_0,hi271_0⟩:=at_L11 (Kd.N_reads' HO_38.out).2.2 x40_2 p271 q271
                     cases e271
                     obtain ⟨ce271,hce271,hMe271,hcc271⟩:=Kd.N_get HO_38.out [] x40_2 p271 (by first | exact q271 | exact of_decide_eq_true (by first | (with_reducible assumption) | assumption) | (have e_:=(Kd.N_reads' HO_38.out).1;omega))
                     obtain ⟨ua271_0,uc271_0,rfl,ul271_0,ge271_0⟩:=Kd.FK_slice_open hMe271
                     have hv271_0:=hcc271 0 _ rfl
                     rw [Nat.add_zero,show ((Kd.slice 56 k56)).sz = 1 from rfl,Nat.mul_one] at hv271_0
                     replace hv271_0:=Option.some.inj (hv271_0.symm.trans hx271_0)
                     injection hv271_0 with hva_ hvn_ hvc_
                     rw [hva_] at ge271_0
                     rw [hvc_] at ul271_0
                     have HL271_0:=Aside0.mk (show Kd.V k56 56 _ w.heap.size _ _ (rd_L11 t265 x40_2) from Kd.V_mk ul271_0 ge271_0)
                     clear hva_ hvn_ hvc_ ge271_0 ul271_0
                     clear hcc271 hce271
                     have HR271_0:=Aside0.mk hi271_0
                     have HC271_0:=Aside0.mk hl271_0
                     clear hi271_0 hl271_0
                     replace p271:=eq_true p271
                     replace q271:=eq_true q271
                     try go_wp2_with (first | ((with_reducible refine gate_callee (f:=10) rfl ?_);refine goesL_ (some 62) rfl rfl Try.func10 (by kernel_rfl) rfl #[.slice A0 l0.length c0,.slice A271_0 (rd_L11 t265 x40_2).length c271_0] rfl (by (try simp only [List.map_toArray,List.map_cons,List.map_nil]);first | done | rfl | (simp only [List.length_drop,List.length_take];rfl)) ?_;(with_reducible refine (block_Put.calls k2 _ _ l0 _ _ (rd_L11 t265 x40_2) t272 t273 _ ?side1 ?side2 ?side3 ?side4 A24.out).mono ?_);(case side1 => repeat (first | exact (Kd.C_below HR0.out HB.out) | (with_reducible refine Kd.C_alloc ?_ _) | (with_reducible refine Kd.C_drewN ?_ _) | (with_reducible refine Kd.C_drew ?_)));(case side2 => exact HC0.out);(case side3 => repeat (first | exact (by repeat (first | (with_reducible exact HR271_0.out) | (with_reducible refine Kd.C_alloc ?_ _) | (with_reducible refine Kd.C_drewN ?_ _) | (with_reducible refine Kd.C_drew ?_) | exact HR271_0.out)) | (with_reducible refine Kd.C_alloc ?_ _) | (with_reducible refine Kd.C_drewN ?_ _) | (with_reducible refine Kd.C_drew ?_)));(case side4 => exact HC271_0.out);rintro e w56 ⟨v274,rfl,ho0,hb⟩;refine ⟨_,rfl,?_⟩;have n0_:=Aside0.mk (Kd.N_elder' (by (with_reducible repeat (first | apply Kd.N_alloc | apply Kd.N_drewN | apply Kd.N_drew));exact HO_7.out) (Kd.R_base ho0) hb);have n1_:=Aside0.mk (Kd.N_elder' (by (with_reducible repeat (first | apply Kd.N_alloc | apply Kd.N_drewN | apply Kd.N_drew));exact HO_38.out) (Kd.R_base ho0) hb);have n2_:=Aside0.mk (Kd.V_elder' (by (with_reducible repeat (first | apply Kd.V_alloc | apply Kd.V_drewN | apply Kd.V_drew));exact HL271_0.out) (Kd.R_base ho0) hb);have n3_:=Aside0.mk (Kd.R_lower ho0 (below_size (by repeat (first | (with_reducible first | exact HB.out | apply below_alloc | apply pw_below_drewN | apply below_drew1) | exact HB.out))));have n4_:=Aside0.mk (Kd.C_below (by repeat (first | (with_reducible exact HR271_0.out) | (with_reducible refine Kd.C_alloc ?_ _) | (with_reducible refine Kd.C_drewN ?_ _) | (with_reducible refine Kd.C_drew ?_) | exact HR271_0.out)) hb);have n5_:=Aside0.mk (below_step (by repeat (first | (with_reducible first | exact HB.out | apply below_alloc | apply pw_below_drewN | apply below_drew1) | exact HB.out)) hb);clear HO_7;clear HO_38;clear HL271_0;clear HR271_0;clear HB;have HO_7:=n0_;have HO_38:=n1_;have HL271_0:=n2_;have HO275:=n3_;have HR271_0:=n4_;have HB:=n5_;clear n0_ n1_ n2_ n3_ n4_ n5_;(try clear hb);(try clear hb2);(try clear hk);(try clear hi);(try clear ho0)))
                     have n0_:=Aside0.mk (Kd.N_drew HO_7.out)
                     have n1_:=Aside0.mk (Kd.N_drew HO_38.out)
                     have n2_:=Aside0.mk (Kd.V_drew HL271_0.out)
                     have n3_:=Aside0.mk (Kd.R_drew HO275.out)
                     have n4_:=Aside0.mk (Kd.C_drew HR271_0.out)
                     have n5_:=Aside0.mk (below_drew1 HB.out)
                     clear HO_7
                     clear HO_38
                     clear HL271_0
                     clear HO275
                     clear HR271_0
                     clear HB
                     have HO_7:=n0_
                     have HO_38:=n1_
                     have HL271_0:=n2_
                     have HO275:=n3_
                     have HR271_0:=n4_
                     have HB:=n5_
                     clear n0_ n1_ n2_ n3_ n4_ n5_
                     have p282 : 0 ≤ ((ji28) : Int):=of_decide_eq_true (by first | (with_reducible assumption) | assumption)
                     have q282 : (ji28) < (t265.length : Int):=of_decide_eq_true (by first | (with_reducible assumption) | assumption)
                     obtain ⟨ad282,A282_0,c282_0,e282,hx282_0,hl282_0,hi282_0⟩:=at_L11 (Kd.N_reads' HO_7.out).2.2 (ji28) p282 q282
                     obtain rfl : ad271 = ad282:=(by injection e282)
                     obtain ⟨ce282,hce282,hMe282,hcc282⟩:=Kd.N_get HO_7.out [] (ji28) p282 (by first | exact q282 | exact of_decide_eq_true (by first | (with_reducible assumption) | assumption) | (have e_:=(Kd.N_reads' HO_7.out).1;omega))
                     obtain ⟨ua282_0,uc282_0,rfl,ul282_0,ge282_0⟩:=Kd.FK_slice_open hMe282
                     have hv282_0:=hcc282 0 _ rfl
                     rw [Nat.add_zero,show ((Kd.slice 56 k56)).sz = 1 from rfl,Nat.mul_one] at hv282_0
                     replace hv282_0:=Option.some.inj (hv282_0.symm.trans hx282_0)
                     injection hv282_0 with hva_ hvn_ hvc_
                     rw [hva_] at ge282_0
                     rw [hvc_] at ul282_0
                     have HL282_0:=Aside0.mk (show Kd.V k56 56 _ w.heap.size _ _ (rd_L11 t265 (ji28)) from Kd.V_mk ul282_0 ge282_0)
                     clear hva_ hvn_ hvc_ ge282_0 ul282_0
                     clear hcc282 hce282
                     have HR282_0:=Aside0.mk hi282_0
                     have HC282_0:=Aside0.mk hl282_0
                     clear hi282_0 hl282_0
                     replace p282:=eq_true p282
                     replace q282:=eq_true q282
                     have p283 : 0 ≤ ((ji28) : Int):=of_decide_eq_true (by first | (with_reducible assumption) | assumption)
                     have q283 : (ji28) < (t265.length : Int):=of_decide_eq_true (by first | (with_reducible assumption) | assumption)
                     obtain ⟨ad283,A283_0,c283_0,e283,hx283_0,hl283_0,hi283_0⟩:=at_L11 (Kd.N_reads' HO_7.out).2.2 (ji28) p283 q283
                     obtain rfl : ad271 = ad283:=(by injection e283)
                     obtain ⟨ce283,hce283,hMe283,hcc283⟩:=Kd.N_get HO_7.out [] (ji28) p283 (by first | exact q283 | exact of_decide_eq_true (by first | (with_reducible assumption) | assumption) | (have e_:=(Kd.N_reads' HO_7.out).1;omega))
                     obtain ⟨ua283_0,uc283_0,rfl,ul283_0,ge283_0⟩:=Kd.FK_slice_open hMe283
                     have hv283_0:=hcc283 0 _ rfl
                     rw [Nat.add_zero,show ((Kd.slice 56 k56)).sz = 1 from rfl,Nat.mul_one] at hv283_0
                     replace hv283_0:=Option.some.inj (hv283_0.symm.trans hx283_0)
                     injection hv283_0 with hva_ hvn_ hvc_
                     rw [hva_] at ge283_0
                     rw [hvc_] at ul283_0
                     have HL283_0:=Aside0.mk (show Kd.V k56 56 _ w.heap.size _ _ (rd_L11 t265 (ji28)) from Kd.V_mk ul283_0 ge283_0)
                     clear hva_ hvn_ hvc_ ge283_0 ul283_0
                     clear hcc283 hce283
                     have HR283_0:=Aside0.mk hi283_0
                     have HC283_0:=Aside0.mk hl283_0
                     clear hi283_0 hl283_0
                     replace p283:=eq_true p283
                     replace q283:=eq_true q283
                     have ea_:=Option.some.inj (hx282_0.symm.trans hx283_0)
                     injection ea_ with ea_ en_ ec_
                     subst ea_
                     subst ec_
                     clear en_
                     have q58 : ((ji30) : Int) ≤ (((rd_L11 t265 (ji28)).length : Int) : Int):=of_decide_eq_true (by first | (with_reducible assumption) | assumption)
                     obtain ⟨i058,hi058,_,hsz58,_⟩:=info_parts info56
                     have hroom58 : (rd_L11 t265 (ji28)).length ≤ c282_0:=HC282_0.out
                     have hC58 : Kd.F k56 _ _ A282_0 (rd_L11 t265 (ji28)).length (rd_L11 t265 (ji28)):=(Kd.V_at (base:=w.heap.size) HL282_0.out).2.2
                     have hcut58:=cut_to (P:=Try.prog) 23 56 .i64 Try.underlying23 hi058 A282_0 (rd_L11 t265 (ji28)).length c282_0 (ji30) (of_decide_eq_true (by first | (with_reducible assumption) | assumption)) q58 hroom58
                     have hr58:=Kd.F_take (m:=((ji30) : Int).toNat) hC58 (by omega)
                     have hy58 : y284.length = ((ji30) : Int).toNat:=(by rw [Ny284.out,List.length_take];omega)
                     rw [← Ny284.out] at hr58
                     rw [← hy58] at hcut58
                     have HO288:=Aside0.mk (show Kd.V k56 56 _ w.heap.size _ (.slice A282_0 y284.length c282_0) y284 from Kd.V_mk (by omega) hr58)
                     have HC288:=Aside0.mk (show y284.length ≤ c282_0 from by omega)
                     clear hr58 hC58 hroom58 hi058 hsz58
                     have KY58:=Aside0.mk hy58
                     clear hy58
                     replace q58:=eq_true q58
                     refine start_ (n:=18) (S:=fun w' => w'.cell? (ad271.add ((ji28)).toNat) = some (.slice A282_0 (rd_L11 t265 (ji28)).length c282_0) ∧ w'.cell? (ad271.add ((ji28)).toNat) = some (.slice A282_0 (rd_L11 t265 (ji28)).length c282_0)) (ds:=[]) #[n_,n_,n_,n_,n_,n_,n_,n_,n_,n_,n_,n_,n_,n_,n_,n_,n_,n_] (by kernel_rfl) rfl rfl ⟨hx282_0,hx283_0⟩ (fun hHeld => ?_);refine with_tabW tachographlaw16_CutNoLess.tab15 tachographlaw16_CutNoLess.bits15 (fun HT_ HW_ => ?_)
                     generalize w56.drew = w57 at HO_7 HO_38 HL271_0 HO275 HR271_0 HB HL282_0 HL283_0 HO288 HR282_0 HR283_0 hx282_0 hx283_0 hHeld ⊢
                     refine pure_ (i:=1) (N:=some 73) (v:=?_) (a':=?_) #[n_,y_,n_,n_,n_,n_,n_,n_,n_,n_,n_,n_,n_,n_,n_,n_,n_,n_] rfl rfl (any_of HT_.out (by kernel_rfl)) (fun _ _ _ h => h) (Or.inl ⟨by rfl,?_⟩) ?_ ?_
                     rotate_left
                     ·intro w'
                      go_simp
                      with_reducible rfl
                     rotate_left
                     ·simp only [Act.put,sA_,sB_,sC_,i64_w,i32_w]
                      rfl
                     refine pure_ (i:=3) (N:=some 75) (v:=?_) (a':=?_) #[n_,y_,n_,y_,n_,n_,n_,n_,n_,n_,n_,n_,n_,n_,n_,n_,n_,n_] rfl rfl (any_of HT_.out (by kernel_rfl)) (fun _ _ _ h => h) (Or.inl ⟨by rfl,?_⟩) ?_ ?_
                     rotate_left
                     ·intro w'
                      go_simp
                      with_reducible rfl
                     rotate_left
                     ·simp only [Act.put,sA_,sB_,sC_,i64_w,i32_w]
                      rfl
                     refine pure_ (i:=4) (N:=some 76) (v:=?_) (a':=?_) #[n_,y_,n_,y_,y_,n_,n_,n_,n_,n_,n_,n_,n_,n_,n_,n_,n_,n_] rfl rfl (any_of HT_.out (by kernel_rfl)) (fun _ _ _ h => h) (Or.inl ⟨by rfl,?_⟩) ?_ ?_
                     rotate_left
                     ·intro w'
                      go_simp
                      with_reducible rfl
                     rotate_left
                     ·simp only [Act.put,sA_,sB_,sC_,i64_w,i32_w]
                      rfl
                     refine pure_ (i:=5) (N:=some 77) (v:=?_) (a':=?_) #[n_,y_,n_,y_,y_,y_,n_,n_,n_,n_,n_,n_,n_,n_,n_,n_,n_,n_] rfl rfl (any_of HT_.out (by kernel_rfl)) (fun _ _ _ h => h) (Or.inl ⟨by rfl,?_⟩) ?_ ?_
                     rotate_left
                     ·intro w'
                      go_simp
                      with_reducible rfl
                     rotate_left
                     ·simp only [Act.put,sA_,sB_,sC_,i64_w,i32_w]
                      rfl
                     refine pure_ (i:=6) (N:=some 78) (v:=?_) (a':=?_) #[n_,y_,n_,y_,y_,y_,y_,n_,n_,n_,n_,n_,n_,n_,n_,n_,n_,n_] rfl rfl (any_of HT_.out (by kernel_rfl)) (fun _ _ _ h => h) (Or.inl ⟨by rfl,?_⟩) ?_ ?_
                     rotate_left
                     ·intro w'
                      go_simp
                      with_reducible rfl
                     rotate_left
                     ·simp only [Act.put,sA_,sB_,sC_,i64_w,i32_w]
                      rfl
                     refine pure_ (i:=8) (N:=some 80) (v:=?_) (a':=?_) #[n_,y_,n_,y_,y_,y_,y_,n_,y_,n_,n_,n_,n_,n_,n_,n_,n_,n_] rfl rfl (any_of HT_.out (by kernel_rfl)) (fun _ _ _ h => h) (Or.inl ⟨by rfl,?_⟩) ?_ ?_
                     rotate_left
                     ·intro w'
                      go_simp
                      with_reducible rfl
                     rotate_left
                     ·simp only [Act.put,sA_,sB_,sC_,i64_w,i32_w]
                      rfl
                     refine pure_ (i:=9) (N:=some 81) (v:=?_) (a':=?_) #[n_,y_,n_,y_,y_,y_,y_,n_,y_,y_,n_,n_,n_,n_,n_,n_,n_,n_] rfl rfl (any_of HT_.out (by kernel_rfl)) (fun _ _ _ h => h) (Or.inl ⟨by rfl,?_⟩) ?_ ?_
                     rotate_left
                     ·intro w'
                      go_simp
                      with_reducible rfl
                     rotate_left
                     ·simp only [Act.put,sA_,sB_,sC_,i64_w,i32_w]
                      rfl
                     refine pure_ (i:=10) (N:=some 82) (v:=?_) (a':=?_) #[n_,y_,n_,y_,y_,y_,y_,n_,y_,y_,y_,n_,n_,n_,n_,n_,n_,n_] rfl rfl (any_of HT_.out (by kernel_rfl)) (fun _ _ _ h => h) (Or.inl ⟨by rfl,?_⟩) ?_ ?_
                     rotate_left
                     ·intro w'
                      go_simp
                      with_reducible rfl
                     rotate_left
                     ·simp only [Act.put,sA_,sB_,sC_,i64_w,i32_w]
                      rfl
                     refine pure_ (i:=11) (N:=some 83) (v:=?_) (a':=?_) #[n_,y_,n_,y_,y_,y_,y_,n_,y_,y_,y_,y_,n_,n_,n_,n_,n_,n_] rfl rfl (any_of HT_.out (by kernel_rfl)) (fun _ _ _ h => h) (Or.inl ⟨by rfl,?_⟩) ?_ ?_
                     rotate_left
                     ·intro w'
                      go_simp
                      with_reducible rfl
                     rotate_left
                     ·simp only [Act.put,sA_,sB_,sC_,i64_w,i32_w]
                      rfl
                     refine take_ (i:=7) (N:=some 79) (v:=?_) (a':=?_) #[n_,y_,n_,y_,y_,y_,y_,y_,y_,y_,y_,y_,n_,n_,n_,n_,n_,n_] rfl rfl (take_ofW HT_.out HW_.out (by kernel_rfl)) (fun _ _ _ h => h) (Or.inl ⟨by rfl,?_⟩) hHeld ?_ ?_
                     rotate_left
                     ·rintro w' ⟨s0,s1⟩
                      go_simp
                      with_reducible rfl
                     rotate_left
                     ·simp only [Act.put,sA_,sB_,sC_,i64_w,i32_w]
                      rfl
                     refine take_ (i:=12) (N:=some 84) (v:=?_) (a':=?_) #[n_,y_,n_,y_,y_,y_,y_,y_,y_,y_,y_,y_,y_,n_,n_,n_,n_,n_] rfl rfl (take_ofW HT_.out HW_.out (by kernel_rfl)) (fun _ _ _ h => h) (Or.inl ⟨by rfl,?_⟩) hHeld ?_ ?_
                     rotate_left
                     ·rintro w' ⟨s0,s1⟩
                      go_simp
                      with_reducible rfl
                     rotate_left
                     ·simp only [Act.put,sA_,sB_,sC_,i64_w,i32_w]
                      rfl
                     refine pure_ (i:=13) (N:=some 85) (v:=?_) (a':=?_) #[n_,y_,n_,y_,y_,y_,y_,y_,y_,y_,y_,y_,y_,y_,n_,n_,n_,n_] rfl rfl (any_of HT_.out (by kernel_rfl)) (fun _ _ _ h => h) (Or.inl ⟨by rfl,?_⟩) ?_ ?_
                     rotate_left
                     ·intro w'
                      go_simp
                      with_reducible rfl
                     rotate_left
                     ·simp only [Act.put,sA_,sB_,sC_,i64_w,i32_w]
                      rfl
                     refine pure_ (i:=14) (N:=some 86) (v:=?_) (a':=?_) #[n_,y_,n_,y_,y_,y_,y_,y_,y_,y_,y_,y_,y_,y_,y_,n_,n_,n_] rfl rfl (any_of HT_.out (by kernel_rfl)) (fun _ _ _ h => h) (Or.inl ⟨by rfl,?_⟩) ?_ ?_
                     rotate_left
                     ·intro w'
                      go_simp
                      with_reducible rfl
                     rotate_left
                     ·simp only [Act.put,sA_,sB_,sC_,i64_w,i32_w]
                      rfl
                     refine pure_ (i:=15) (N:=some 87) (v:=?_) (a':=?_) #[n_,y_,n_,y_,y_,y_,y_,y_,y_,y_,y_,y_,y_,y_,y_,y_,n_,n_] rfl rfl (any_of HT_.out (by kernel_rfl)) (fun _ _ _ h => h) (Or.inl ⟨by rfl,?_⟩) ?_ ?_
                     rotate_left
                     ·intro w'
                      go_simp
                      with_reducible rfl
                     rotate_left
                     ·simp only [Act.put,sA_,sB_,sC_,i64_w,i32_w]
                      rfl
                     refine one_ (i:=0) (N:=some 72) #[y_,y_,n_,y_,y_,y_,y_,y_,y_,y_,y_,y_,y_,y_,y_,y_,n_,n_] rfl rfl (one_of HT_.out (by kernel_rfl)) (by decide) (fun K hK => ?_)
                     refine Kd.N_lit_step k56 _ 56 ?hg (N':=72) ?hd (xs:=([] : List (S56))) (inner:=[]) (ok:=(fun k_ => some k_ ≠ (.slice (some ad271) t265.length co17 : Value).ownBlock ∧ some k_ ≠ (.slice (some ad271) t265.length co17 : Value).ownBlock ∧ some k_ ≠ (v274 : Value).ownBlock)) (okp:=(fun k_ => some k_ ≠ (.slice (some ad271) t265.length co17 : Value).ownBlock ∧ some k_ ≠ (.slice (some ad271) t265.length co17 : Value).ownBlock ∧ some k_ ≠ (v274 : Value).ownBlock)) ?hr ?hp (fun _ hk => hk) ((show ∀ k_,w57.heap.size ≤ k_ → (fun k_ => some k_ ≠ (.slice (some ad271) t265.length co17 : Value).ownBlock ∧ some k_ ≠ (.slice (some ad271) t265.length co17 : Value).ownBlock ∧ some k_ ≠ (v274 : Value).ownBlock) k_ from fun k_ hk => ⟨Kd.fresh' (Kd.N_lt (by (with_reducible repeat (first | apply Kd.N_alloc | apply Kd.N_drewN | apply Kd.N_drew));exact HO_7.out)) k_ hk,Kd.fresh' (Kd.N_lt (by (with_reducible repeat (first | apply Kd.N_alloc | apply Kd.N_drewN | apply Kd.N_drew));exact HO_38.out)) k_ hk,Kd.fresh' (Kd.R_lt (by (with_reducible repeat (first | apply Kd.R_alloc | apply Kd.R_drewN | apply Kd.R_drew));exact HO275.out)) k_ hk⟩) _ (Nat.le_refl _)) (Below.refl _ _) (Nat.le_refl _) (by simp) ?_;(case hd => rfl);(case hg => rfl);(case hr => first | (go_simp;done) | (go_simp;rfl));(case hp => exact (Reps.none _ _))
                     intro v277 w59 ho60 hb hg_ hnew_
                     have HS0_:=(hb.cell (World.block_lt_of_cell? _ _ (hHeld.1))).trans (hHeld.1)
                     have HS1_:=(hb.cell (World.block_lt_of_cell? _ _ (hHeld.2))).trans (hHeld.2)
                     clear hg_ hnew_
                     (first | rw [← Ny276.out] at ho60 | (simp only [Int.reduceToNat] at ho60;rw [← Ny276.out] at ho60))
                     have n0_:=Aside0.mk (Kd.N_elder' (by (with_reducible repeat (first | apply Kd.N_alloc | apply Kd.N_drewN | apply Kd.N_drew));exact HO_7.out) (Kd.N_base ho60) hb)
                     have n1_:=Aside0.mk (Kd.N_elder' (by (with_reducible repeat (first | apply Kd.N_alloc | apply Kd.N_drewN | apply Kd.N_drew));exact HO_38.out) (Kd.N_base ho60) hb)
                     have n2_:=Aside0.mk (Kd.V_elder' (by (with_reducible repeat (first | apply Kd.V_alloc | apply Kd.V_drewN | apply Kd.V_drew));exact HL271_0.out) (Kd.N_base ho60) hb)
                     have n3_:=Aside0.mk (Kd.R_below (by (with_reducible repeat (first | apply Kd.R_alloc | apply Kd.R_drewN | apply Kd.R_drew));exact HO275.out) hb)
                     have n4_:=Aside0.mk (Kd.V_elder' (by (with_reducible repeat (first | apply Kd.V_alloc | apply Kd.V_drewN | apply Kd.V_drew));exact HL282_0.out) (Kd.N_base ho60) hb)
                     have n5_:=Aside0.mk (Kd.V_elder' (by (with_reducible repeat (first | apply Kd.V_alloc | apply Kd.V_drewN | apply Kd.V_drew));exact HL283_0.out) (Kd.N_base ho60) hb)
                     have n6_:=Aside0.mk (Kd.V_elder' (by (with_reducible repeat (first | apply Kd.V_alloc | apply Kd.V_drewN | apply Kd.V_drew));exact HO288.out) (Kd.N_base ho60) hb)
                     have n7_:=Aside0.mk (Kd.N_lower ho60 (below_size (by repeat (first | (with_reducible first | exact HB.out | apply below_alloc | apply pw_below_drewN | apply below_drew1) | exact HB.out))))
                     have n8_:=Aside0.mk (Kd.C_below (by repeat (first | (with_reducible exact HR271_0.out) | (with_reducible refine Kd.C_alloc ?_ _) | (with_reducible refine Kd.C_drewN ?_ _) | (with_reducible refine Kd.C_drew ?_) | exact HR271_0.out)) hb)
                     have n9_:=Aside0.mk (Kd.C_below (by repeat (first | (with_reducible exact HR282_0.out) | (with_reducible refine Kd.C_alloc ?_ _) | (with_reducible refine Kd.C_drewN ?_ _) | (with_reducible refine Kd.C_drew ?_) | exact HR282_0.out)) hb)
                     have n10_:=Aside0.mk (Kd.C_below (by repeat (first | (with_reducible exact HR283_0.out) | (with_reducible refine Kd.C_alloc ?_ _) | (with_reducible refine Kd.C_drewN ?_ _) | (with_reducible refine Kd.C_drew ?_) | exact HR283_0.out)) hb)
                     have n11_:=Aside0.mk (below_step (by repeat (first | (with_reducible first | exact HB.out | apply below_alloc | apply pw_below_drewN | apply below_drew1) | exact HB.out)) hb)
                     clear HO_7
                     clear HO_38
                     clear HL271_0
                     clear HO275
                     clear HL282_0
                     clear HL283_0
                     clear HO288
                     clear HR271_0
                     clear HR282_0
                     clear HR283_0
                     clear HB
                     have HO_7:=n0_
                     have HO_38:=n1_
                     have HL271_0:=n2_
                     have HO275:=n3_
                     have HL282_0:=n4_
                     have HL283_0:=n5_
                     have HO288:=n6_
                     have HO278:=n7_
                     have HR271_0:=n8_
                     have HR282_0:=n9_
                     have HR283_0:=n10_
                     have HB:=n11_
                     clear n0_ n1_ n2_ n3_ n4_ n5_ n6_ n7_ n8_ n9_ n10_ n11_
                     clear hb ho60
                     refine hK.out _ _ ⟨HS0_,HS1_⟩ (fun hHeld => ?_)
                     clear hK K
                     refine norm_ (a':=?_) ?_ ?_
                     rotate_left
                     ·show Act.put _ (some 72) _ = _
                      simp only [Act.put,sA_,sB_,sC_,i64_w,i32_w]
                      rfl
                     refine one_ (i:=2) (N:=some 74) #[y_,y_,y_,y_,y_,y_,y_,y_,y_,y_,y_,y_,y_,y_,y_,y_,n_,n_] rfl rfl (one_of HT_.out (by kernel_rfl)) (by decide) (fun K hK => ?_)
                     refine Kd.N_append_rows_step k56 (w0:=w) w.heap.size (by rfl) (.tmp 72) (.tmp 73) 23 56 (.agg #[(.int .u64 0),(.slice none 0 0)]) 32 rfl Try.underlying23 info56 rfl (by decide) (by omega) v277 y276 (rd_L11 t265 x40_2) _ _ _ (fun k_ => some k_ ≠ (.slice (some ad271) t265.length co17 : Value).ownBlock ∧ some k_ ≠ (v274 : Value).ownBlock) (fun k_ => ((fun k_ => some k_ ≠ (.slice (some ad271) t265.length co17 : Value).ownBlock ∧ some k_ ≠ (v274 : Value).ownBlock)) k_ ∧ some k_ ≠ (v277 : Value).ownBlock) rfl rfl ?aO ?aR (fun _ hk => hk) ?aF ?aB ?aS ?aL ?_
                     (case aR => exact (by skip;exact Kd.V_F (Kd.V_mono (ok':=(fun k_ => ((fun k_ => some k_ ≠ (.slice (some ad271) t265.length co17 : Value).ownBlock ∧ some k_ ≠ (v274 : Value).ownBlock)) k_ ∧ some k_ ≠ (v277 : Value).ownBlock)) (HL271_0.out) (fun k_ hk => ⟨⟨hk.1.1.2,hk.1.2⟩,hk.2⟩))))
                     (case aB => exact (by repeat (first | (with_reducible first | exact HB.out | apply below_alloc | apply pw_below_drewN | apply below_drew1) | exact HB.out)))
                     (case aF => exact (fun k_ hk => ⟨Kd.fresh' (Kd.N_lt (by (with_reducible repeat (first | apply Kd.N_alloc | apply Kd.N_drewN | apply Kd.N_drew));exact HO_38.out)) k_ hk,Kd.fresh' (Kd.R_lt (by (with_reducible repeat (first | apply Kd.R_alloc | apply Kd.R_drewN | apply Kd.R_drew));exact HO275.out)) k_ hk⟩))
                     (case aO => exact (by (with_reducible repeat (first | apply Kd.N_alloc | apply Kd.N_drewN | apply Kd.N_drew));exact Kd.N_mono HO278.out (fun _ hk => ⟨hk.2.1,hk.2.2⟩)))
                     (case aS => exact (below_size (by repeat (first | (with_reducible first | exact HB.out | apply below_alloc | apply pw_below_drewN | apply below_drew1) | exact HB.out))))
                     (case aL => have:=LMc27.out;omega)
                     intro v280 w61 ho hb hg hat
                     have HS0_:=cell_grown hg (hHeld.1) (by first | (rw [add_block];exact (HO_7.out.1 _ rfl).2) | (show some (Addr.add _ _).block ≠ _;rw [add_block];exact (HO_7.out.1 _ rfl).2) | exact (HO_7.out.1 _ rfl).2)
                     have HS1_:=cell_grown hg (hHeld.2) (by first | (rw [add_block];exact (HO_7.out.1 _ rfl).2) | (show some (Addr.add _ _).block ≠ _;rw [add_block];exact (HO_7.out.1 _ rfl).2) | exact (HO_7.out.1 _ rfl).2)
                     rw [← Ny279.out] at ho
                     have n0_:=Aside0.mk (Kd.N_afterv (ok:=(fun k_ => some k_ ≠ (v274 : Value).ownBlock)) (by (with_reducible repeat (first | apply Kd.N_alloc | apply Kd.N_drewN | apply Kd.N_drew));exact Kd.N_mono HO_7.out (fun _ hk => ⟨hk.1.2,hk.2⟩)) hg hat)
                     have n1_:=Aside0.mk (Kd.N_afterv (ok:=(fun k_ => some k_ ≠ (v274 : Value).ownBlock)) (by (with_reducible repeat (first | apply Kd.N_alloc | apply Kd.N_drewN | apply Kd.N_drew));exact Kd.N_mono HO_38.out (fun _ hk => ⟨hk.1.2,hk.2⟩)) hg hat)
                     have n2_:=Aside0.mk (Kd.V_afterv (ok:=(fun k_ => some k_ ≠ (.slice (some ad271) t265.length co17 : Value).ownBlock ∧ some k_ ≠ (v274 : Value).ownBlock)) (by (with_reducible repeat (first | apply Kd.V_alloc | apply Kd.V_drewN | apply Kd.V_drew));exact Kd.V_mono HL271_0.out (fun _ hk => ⟨⟨hk.1.1.2,hk.1.2⟩,hk.2⟩)) hg hat)
                     have n3_:=Aside0.mk (Kd.R_over' (by (with_reducible repeat (first | apply Kd.R_alloc | apply Kd.R_drewN | apply Kd.R_drew));exact HO275.out) (Kd.N_typed (by (with_reducible repeat (first | apply Kd.N_alloc | apply Kd.N_drewN | apply Kd.N_drew));exact HO278.out)) (by decide) hg)
                     have n4_:=Aside0.mk (Kd.V_afterv (ok:=(fun k_ => some k_ ≠ (.slice (some ad271) t265.length co17 : Value).ownBlock ∧ some k_ ≠ (v274 : Value).ownBlock)) (by (with_reducible repeat (first | apply Kd.V_alloc | apply Kd.V_drewN | apply Kd.V_drew));exact Kd.V_mono HL282_0.out (fun _ hk => ⟨⟨hk.1.2,hk.1.1.2⟩,hk.2⟩)) hg hat)
                     have n5_:=Aside0.mk (Kd.V_afterv (ok:=(fun k_ => some k_ ≠ (.slice (some ad271) t265.length co17 : Value).ownBlock ∧ some k_ ≠ (v274 : Value).ownBlock)) (by (with_reducible repeat (first | apply Kd.V_alloc | apply Kd.V_drewN | apply Kd.V_drew));exact Kd.V_mono HL283_0.out (fun _ hk => ⟨⟨hk.1.2,hk.1.1.2⟩,hk.2⟩)) hg hat)
                     have n6_:=Aside0.mk (Kd.V_afterv (ok:=(fun k_ => some k_ ≠ (.slice (some ad271) t265.length co17 : Value).ownBlock ∧ some k_ ≠ (v274 : Value).ownBlock)) (by (with_reducible repeat (first | apply Kd.V_alloc | apply Kd.V_drewN | apply Kd.V_drew));exact Kd.V_mono HO288.out (fun _ hk => ⟨⟨hk.1.2,hk.1.1.2⟩,hk.2⟩)) hg hat)
                     have n7_:=Aside0.mk (hb)
                     have n8_:=Aside0.mk (ho)
                     clear HO_7
                     clear HO_38
                     clear HL271_0
                     clear HO275
                     clear HL282_0
                     clear HL283_0
                     clear HO288
                     clear HB
                     clear HO278
                     have HO_7:=n0_
                     have HO_38:=n1_
                     have HL271_0:=n2_
                     have HO275:=n3_
                     have HL282_0:=n4_
                     have HL283_0:=n5_
                     have HO288:=n6_
                     have HB:=n7_
                     have HO281:=n8_
                     clear n0_ n1_ n2_ n3_ n4_ n5_ n6_ n7_ n8_
                     clear ho hb hg hat
                     refine hK.out _ _ ⟨HS0_,HS1_⟩ (fun hHeld => ?_)
                     clear hK K
                     refine norm_ (a':=?_) ?_ ?_
                     rotate_left
                     ·show Act.put _ (some 74) _ = _
                      simp only [Act.put,sA_,sB_,sC_,i64_w,i32_w]
                      rfl
                     refine one_ (i:=16) (N:=some 88) #[y_,y_,y_,y_,y_,y_,y_,y_,y_,y_,y_,y_,y_,y_,y_,y_,y_,n_] rfl rfl (one_of HT_.out (by kernel_rfl)) (by decide) (fun K hK => ?_)
                     refine Kd.N_append_rows_step k56 (w0:=w) w.heap.size (by rfl) (.tmp 74) (.tmp 87) 23 56 (.agg #[(.int .u64 0),(.slice none 0 0)]) 32 rfl Try.underlying23 info56 rfl (by decide) (by omega) v280 y279 y284 _ _ _ (fun k_ => some k_ ≠ (v274 : Value).ownBlock) (fun k_ => ((fun k_ => some k_ ≠ (v274 : Value).ownBlock)) k_ ∧ some k_ ≠ (v280 : Value).ownBlock) rfl rfl ?aO ?aR (fun _ hk => hk) ?aF ?aB ?aS ?aL ?_
                     (case aR => exact (by skip;exact Kd.V_F (Kd.V_mono (ok':=(fun k_ => ((fun k_ => some k_ ≠ (v274 : Value).ownBlock)) k_ ∧ some k_ ≠ (v280 : Value).ownBlock)) (HO288.out) (fun k_ hk => ⟨hk.1.2,hk.2⟩))))
                     (case aB => exact (by repeat (first | (with_reducible first | exact HB.out | apply below_alloc | apply pw_below_drewN | apply below_drew1) | exact HB.out)))
                     (case aF => exact (fun k_ hk => Kd.fresh' (Kd.R_lt (by (with_reducible repeat (first | apply Kd.R_alloc | apply Kd.R_drewN | apply Kd.R_drew));exact HO275.out)) k_ hk))
                     (case aO => exact (by (with_reducible repeat (first | apply Kd.N_alloc | apply Kd.N_drewN | apply Kd.N_drew));exact Kd.N_mono HO281.out (fun _ hk => hk.2)))
                     (case aS => exact (below_size (by repeat (first | (with_reducible first | exact HB.out | apply below_alloc | apply pw_below_drewN | apply below_drew1) | exact HB.out))))
                     (case aL => have:=LMc33.out;omega)
                     intro v290 w62 ho hb hg hat
                     have HS0_:=cell_grown hg (hHeld.1) (by first | (rw [add_block];exact (HO_7.out.1 _ rfl).2) | (show some (Addr.add _ _).block ≠ _;rw [add_block];exact (HO_7.out.1 _ rfl).2) | exact (HO_7.out.1 _ rfl).2)
                     have HS1_:=cell_grown hg (hHeld.2) (by first | (rw [add_block];exact (HO_7.out.1 _ rfl).2) | (show some (Addr.add _ _).block ≠ _;rw [add_block];exact (HO_7.out.1 _ rfl).2) | exact (HO_7.out.1 _ rfl).2)
                     rw [← Ny289.out] at ho
                     have n0_:=Aside0.mk (Kd.N_afterv (ok:=(fun k_ => some k_ ≠ (v274 : Value).ownBlock)) (by (with_reducible repeat (first | apply Kd.N_alloc | apply Kd.N_drewN | apply Kd.N_drew));exact HO_7.out) hg hat)
                     have n1_:=Aside0.mk (Kd.N_afterv (ok:=(fun k_ => some k_ ≠ (v274 : Value).ownBlock)) (by (with_reducible repeat (first | apply Kd.N_alloc | apply Kd.N_drewN | apply Kd.N_drew));exact HO_38.out) hg hat)
                     have n2_:=Aside0.mk (Kd.V_afterv (ok:=(fun k_ => some k_ ≠ (.slice (some ad271) t265.length co17 : Value).ownBlock ∧ some k_ ≠ (v274 : Value).ownBlock)) (by (with_reducible repeat (first | apply Kd.V_alloc | apply Kd.V_drewN | apply Kd.V_drew));exact HL271_0.out) hg hat)
                     have n3_:=Aside0.mk (Kd.R_over' (by (with_reducible repeat (first | apply Kd.R_alloc | apply Kd.R_drewN | apply Kd.R_drew));exact HO275.out) (Kd.N_typed (by (with_reducible repeat (first | apply Kd.N_alloc | apply Kd.N_drewN | apply Kd.N_drew));exact HO281.out)) (by decide) hg)
                     have n4_:=Aside0.mk (Kd.V_afterv (ok:=(fun k_ => some k_ ≠ (.slice (some ad271) t265.length co17 : Value).ownBlock ∧ some k_ ≠ (v274 : Value).ownBlock)) (by (with_reducible repeat (first | apply Kd.V_alloc | apply Kd.V_drewN | apply Kd.V_drew));exact HL282_0.out) hg hat)
                     have n5_:=Aside0.mk (Kd.V_afterv (ok:=(fun k_ => some k_ ≠ (.slice (some ad271) t265.length co17 : Value).ownBlock ∧ some k_ ≠ (v274 : Value).ownBlock)) (by (with_reducible repeat (first | apply Kd.V_alloc | apply Kd.V_drewN | apply Kd.V_drew));exact HL283_0.out) hg hat)
                     have n6_:=Aside0.mk (Kd.V_afterv (ok:=(fun k_ => some k_ ≠ (.slice (some ad271) t265.length co17 : Value).ownBlock ∧ some k_ ≠ (v274 : Value).ownBlock)) (by (with_reducible repeat (first | apply Kd.V_alloc | apply Kd.V_drewN | apply Kd.V_drew));exact HO288.out) hg hat)
                     have n7_:=Aside0.mk (hb)
                     have n8_:=Aside0.mk (ho)
                     clear HO_7
                     clear HO_38
                     clear HL271_0
                     clear HO275
                     clear HL282_0
                     clear HL283_0
                     clear HO288
                     clear HB
                     clear HO281
                     have HO_7:=n0_
                     have HO_38:=n1_
                     have HL271_0:=n2_
                     have HO275:=n3_
                     have HL282_0:=n4_
                     have HL283_0:=n5_
                     have HO288:=n6_
                     have HB:=n7_
                     have HO291:=n8_
                     clear n0_ n1_ n2_ n3_ n4_ n5_ n6_ n7_ n8_
                     clear ho hb hg hat
                     refine hK.out _ _ ⟨HS0_,HS1_⟩ (fun hHeld => ?_)
                     clear hK K
                     refine norm_ (a':=?_) ?_ ?_
                     rotate_left
                     ·show Act.put _ (some 88) _ = _
                      simp only [Act.put,sA_,sB_,sC_,i64_w,i32_w]
                      rfl
                     refine pure_ (i:=17) (N:=some 13) (v:=?_) (a':=?_) #[y_,y_,y_,y_,y_,y_,y_,y_,y_,y_,y_,y_,y_,y_,y_,y_,y_,y_] rfl rfl (any_of HT_.out (by kernel_rfl)) (fun _ _ _ h => h) (Or.inl ⟨by rfl,?_⟩) ?_ ?_
                     rotate_left
                     ·intro w'
                      go_simp
                      with_reducible rfl
                     rotate_left
                     ·simp only [Act.put,sA_,sB_,sC_,i64_w,i32_w]
                      rfl
                     refine done_ (done_of HT_.out (by kernel_rfl)) ?_
                     obtain ⟨Ao63,co63,eo63⟩:=Kd.N_slice HO291.out
                     subst eo63
                     try go_wp2_with (first | ((with_reducible refine gate_callee (f:=10) rfl ?_);refine goesL_ (some 92) rfl rfl Try.func10 (by kernel_rfl) rfl #[.slice A0 l0.length c0,.slice Ao63 y289.length co63] rfl (by (try simp only [List.map_toArray,List.map_cons,List.map_nil]);first | done | rfl | (simp only [List.length_drop,List.length_take];rfl)) ?_;(with_reducible refine (block_Put.calls k2 _ _ l0 _ _ y289 t292 t293 _ ?side1 ?side2 ?side3 ?side4 A34.out).mono ?_);(case side1 => repeat (first | exact (Kd.C_below HR0.out HB.out) | (with_reducible refine Kd.C_alloc ?_ _) | (with_reducible refine Kd.C_drewN ?_ _) | (with_reducible refine Kd.C_drew ?_)));(case side2 => exact HC0.out);(case side3 => repeat (first | exact (Kd.N_reads' HO291.out).2.2 | (with_reducible refine Kd.C_alloc ?_ _) | (with_reducible refine Kd.C_drewN ?_ _) | (with_reducible refine Kd.C_drew ?_)));(case side4 => exact (Kd.N_reads' HO291.out).2.1);rintro e w64 ⟨v294,rfl,ho0,hb⟩;refine ⟨_,rfl,?_⟩;have n0_:=Aside0.mk (Kd.N_elder' (by (with_reducible repeat (first | apply Kd.N_alloc | apply Kd.N_drewN | apply Kd.N_drew));exact HO_7.out) (Kd.R_base ho0) hb);have n1_:=Aside0.mk (Kd.N_elder' (by (with_reducible repeat (first | apply Kd.N_alloc | apply Kd.N_drewN | apply Kd.N_drew));exact HO_38.out) (Kd.R_base ho0) hb);have n2_:=Aside0.mk (Kd.V_elder' (by (with_reducible repeat (first | apply Kd.V_alloc | apply Kd.V_drewN | apply Kd.V_drew));exact HL271_0.out) (Kd.R_base ho0) hb);have n3_:=Aside0.mk (Kd.R_elder' (by (with_reducible repeat (first | apply Kd.R_alloc | apply Kd.R_drewN | apply Kd.R_drew));exact HO275.out) (Kd.R_base ho0) hb);have n4_:=Aside0.mk (Kd.V_elder' (by (with_reducible repeat (first | apply Kd.V_alloc | apply Kd.V_drewN | apply Kd.V_drew));exact HL282_0.out) (Kd.R_base ho0) hb);have n5_:=Aside0.mk (Kd.V_elder' (by (with_reducible repeat (first | apply Kd.V_alloc | apply Kd.V_drewN | apply Kd.V_drew));exact HL283_0.out) (Kd.R_base ho0) hb);have n6_:=Aside0.mk (Kd.V_elder' (by (with_reducible repeat (first | apply Kd.V_alloc | apply Kd.V_drewN | apply Kd.V_drew));exact HO288.out) (Kd.R_base ho0) hb);have n7_:=Aside0.mk (Kd.N_elder' (by (with_reducible repeat (first | apply Kd.N_alloc | apply Kd.N_drewN | apply Kd.N_drew));exact HO291.out) (Kd.R_base ho0) hb);have n8_:=Aside0.mk (Kd.R_lower (Kd.R_new' ho0 (Kd.R_lt (by (with_reducible repeat (first | apply Kd.R_alloc | apply Kd.R_drewN | apply Kd.R_drew));exact HO275.out))) (below_size (by repeat (first | (with_reducible first | exact HB.out | apply below_alloc | apply pw_below_drewN | apply below_drew1) | exact HB.out))));have n9_:=Aside0.mk (below_step (by repeat (first | (with_reducible first | exact HB.out | apply below_alloc | apply pw_below_drewN | apply below_drew1) | exact HB.out)) hb);clear HO_7;clear HO_38;clear HL271_0;clear HO275;clear HL282_0;clear HL283_0;clear HO288;clear HO291;clear HB;have HO_7:=n0_;have HO_38:=n1_;have HL271_0:=n2_;have HO275:=n3_;have HL282_0:=n4_;have HL283_0:=n5_;have HO288:=n6_;have HO291:=n7_;have HO295:=n8_;have HB:=n9_;clear n0_ n1_ n2_ n3_ n4_ n5_ n6_ n7_ n8_ n9_;(try clear hb);(try clear hb2);(try clear hk);(try clear hi);(try clear ho0)))
                     go_roundg k2
                     case measure => have:=HJ3.out;have:=HK2.out;omega
                     case rel => exact ⟨(ji28),(by first | rfl | (simp;done) | (simp only [← hji28] <;> (first | rfl | simp)) | (simp [*];done)),H',⟨by have:=HJ3.out;have:=HK2.out;omega⟩,⟨by (with_reducible repeat (first | apply Kd.N_alloc | apply Kd.N_drewN | apply Kd.N_drew));exact Kd.N_mono HO_7.out (fun _ hk => trivial)⟩,⟨by (with_reducible repeat (first | apply Kd.N_alloc | apply Kd.N_drewN | apply Kd.N_drew));exact Kd.N_mono HO_38.out (fun _ hk => trivial)⟩,⟨by repeat (first | (with_reducible first | exact HB.out | apply below_alloc | apply pw_below_drewN | apply below_drew1) | exact HB.out)⟩⟩
                   ·rw [if_neg c33] at H
                    exact absurd H (by simp)
                  ·rw [if_neg c32] at H
                   exact absurd H (by simp)
                 ·rw [if_neg c31] at H
                  exact absurd H (by simp)
                ·rw [if_neg c29] at H
                 exact absurd H (by simp)
               ·rw [if_neg c27] at H
                exact absurd H (by simp)
              ·rw [if_neg c26] at H
               have c26b0 : decide ((wrap64 (x40_2 + 1)) < (t265.length : Int)) = false:=decide_eq_false c26
               clear c26
               have H':=Aside0.mk H
               clear H
               have p271 : 0 ≤ (x40_2 : Int):=of_decide_eq_true (by first | (with_reducible assumption) | assumption)
               have q271 : x40_2 < (t265.length : Int):=of_decide_eq_true (by first | (with_reducible assumption) | assumption)
               obtain ⟨ad271,A271_0,c271_0,e271,hx271_0,hl271_0,hi271_0⟩:=at_L11 (Kd.N_reads' HO_38.out).2.2 x40_2 p271 q271
               cases e271
               obtain ⟨ce271,hce271,hMe271,hcc271⟩:=Kd.N_get HO_38.out [] x40_2 p271 (by first | exact q271 | exact of_decide_eq_true (by first | (with_reducible assumption) | assumption) | (have e_:=(Kd.N_reads' HO_38.out).1;omega))
               obtain ⟨ua271_0,uc271_0,rfl,ul271_0,ge271_0⟩:=Kd.FK_slice_open hMe271
               have hv271_0:=hcc271 0 _ rfl
               rw [Nat.add_zero,show ((Kd.slice 56 k56)).sz = 1 from rfl,Nat.mul_one] at hv271_0
               replace hv271_0:=Option.some.inj (hv271_0.symm.trans hx271_0)
               injection hv271_0 with hva_ hvn_ hvc_
               rw [hva_] at ge271_0
               rw [hvc_] at ul271_0
               have HL271_0:=Aside0.mk (show Kd.V k56 56 _ w.heap.size _ _ (rd_L11 t265 x40_2) from Kd.V_mk ul271_0 ge271_0)
               clear hva_ hvn_ hvc_ ge271_0 ul271_0
               clear hcc271 hce271
               have HR271_0:=Aside0.mk hi271_0
               have HC271_0:=Aside0.mk hl271_0
               clear hi271_0 hl271_0
               replace p271:=eq_true p271
               replace q271:=eq_true q271
               go_wp2_with (first | ((with_reducible refine gate_callee (f:=10) rfl ?_);refine goesL_ (some 62) rfl rfl Try.func10 (by kernel_rfl) rfl #[.slice A0 l0.length c0,.slice A271_0 (rd_L11 t265 x40_2).length c271_0] rfl (by (try simp only [List.map_toArray,List.map_cons,List.map_nil]);first | done | rfl | (simp only [List.length_drop,List.length_take];rfl)) ?_;(with_reducible refine (block_Put.calls k2 _ _ l0 _ _ (rd_L11 t265 x40_2) t272 t273 _ ?side1 ?side2 ?side3 ?side4 A24.out).mono ?_);(case side1 => repeat (first | exact (Kd.C_below HR0.out HB.out) | (with_reducible refine Kd.C_alloc ?_ _) | (with_reducible refine Kd.C_drewN ?_ _) | (with_reducible refine Kd.C_drew ?_)));(case side2 => exact HC0.out);(case side3 => repeat (first | exact (by repeat (first | (with_reducible exact HR271_0.out) | (with_reducible refine Kd.C_alloc ?_ _) | (with_reducible refine Kd.C_drewN ?_ _) | (with_reducible refine Kd.C_drew ?_) | exact HR271_0.out)) | (with_reducible refine Kd.C_alloc ?_ _) | (with_reducible refine Kd.C_drewN ?_ _) | (with_reducible refine Kd.C_drew ?_)));(case side4 => exact HC271_0.out);rintro e w65 ⟨v274,rfl,ho0,hb⟩;refine ⟨_,rfl,?_⟩;have n0_:=Aside0.mk (Kd.N_elder' (by (with_reducible repeat (first | apply Kd.N_alloc | apply Kd.N_drewN | apply Kd.N_drew));exact HO_7.out) (Kd.R_base ho0) hb);have n1_:=Aside0.mk (Kd.N_elder' (by (with_reducible repeat (first | apply Kd.N_alloc | apply Kd.N_drewN | apply Kd.N_drew));exact HO_38.out) (Kd.R_base ho0) hb);have n2_:=Aside0.mk (Kd.V_elder' (by (with_reducible repeat (first | apply Kd.V_alloc | apply Kd.V_drewN | apply Kd.V_drew));exact HL271_0.out) (Kd.R_base ho0) hb);have n3_:=Aside0.mk (Kd.R_lower ho0 (below_size (by repeat (first | (with_reducible first | exact HB.out | apply below_alloc | apply pw_below_drewN | apply below_drew1) | exact HB.out))));have n4_:=Aside0.mk (Kd.C_below (by repeat (first | (with_reducible exact HR271_0.out) | (with_reducible refine Kd.C_alloc ?_ _) | (with_reducible refine Kd.C_drewN ?_ _) | (with_reducible refine Kd.C_drew ?_) | exact HR271_0.out)) hb);have n5_:=Aside0.mk (below_step (by repeat (first | (with_reducible first | exact HB.out | apply below_alloc | apply pw_below_drewN | apply below_drew1) | exact HB.out)) hb);clear HO_7;clear HO_38;clear HL271_0;clear HR271_0;clear HB;have HO_7:=n0_;have HO_38:=n1_;have HL271_0:=n2_;have HO275:=n3_;have HR271_0:=n4_;have HB:=n5_;clear n0_ n1_ n2_ n3_ n4_ n5_;(try clear hb);(try clear hb2);(try clear hk);(try clear hi);(try clear ho0)))
               go_roundg k2
               case measure => have:=HJ3.out;have:=HK2.out;omega
               case rel => exact ⟨(wrap64 (x40_2 + 1)),(by first | rfl | (simp;done) | (simp [*];done)),H',⟨by have:=HJ3.out;have:=HK2.out;omega⟩,⟨by (with_reducible repeat (first | apply Kd.N_alloc | apply Kd.N_drewN | apply Kd.N_drew));exact Kd.N_mono HO_7.out (fun _ hk => trivial)⟩,⟨by (with_reducible repeat (first | apply Kd.N_alloc | apply Kd.N_drewN | apply Kd.N_drew));exact Kd.N_mono HO_38.out (fun _ hk => trivial)⟩,⟨by repeat (first | (with_reducible first | exact HB.out | apply below_alloc | apply pw_below_drewN | apply below_drew1) | exact HB.out)⟩⟩
             ·rw [if_neg c25] at H
              have c25b0 : (t273 == 0) = false:=beq_eq_false_iff_ne.mpr c25
              have c25b1 : (t273 != 0) = true:=bne_iff_ne.mpr c25
              obtain rfl:=Option.some.inj H
              have p271 : 0 ≤ (x40_2 : Int):=of_decide_eq_true (by first | (with_reducible assumption) | assumption)
              have q271 : x40_2 < (t265.length : Int):=of_decide_eq_true (by first | (with_reducible assumption) | assumption)
              obtain ⟨ad271,A271_0,c271_0,e271,hx271_0,hl271_0,hi271_0⟩:=at_L11 (Kd.N_reads' HO_38.out).2.2 x40_2 p271 q271
              cases e271
              obtain ⟨ce271,hce271,hMe271,hcc271⟩:=Kd.N_get HO_38.out [] x40_2 p271 (by first | exact q271 | exact of_decide_eq_true (by first | (with_reducible assumption) | assumption) | (have e_:=(Kd.N_reads' HO_38.out).1;omega))
              obtain ⟨ua271_0,uc271_0,rfl,ul271_0,ge271_0⟩:=Kd.FK_slice_open hMe271
              have hv271_0:=hcc271 0 _ rfl
              rw [Nat.add_zero,show ((Kd.slice 56 k56)).sz = 1 from rfl,Nat.mul_one] at hv271_0
              replace hv271_0:=Option.some.inj (hv271_0.symm.trans hx271_0)
              injection hv271_0 with hva_ hvn_ hvc_
              rw [hva_] at ge271_0
              rw [hvc_] at ul271_0
              have HL271_0:=Aside0.mk (show Kd.V k56 56 _ w.heap.size _ _ (rd_L11 t265 x40_2) from Kd.V_mk ul271_0 ge271_0)
              clear hva_ hvn_ hvc_ ge271_0 ul271_0
              clear hcc271 hce271
              have HR271_0:=Aside0.mk hi271_0
              have HC271_0:=Aside0.mk hl271_0
              clear hi271_0 hl271_0
              replace p271:=eq_true p271
              replace q271:=eq_true q271
              go_wp2_with (first | ((with_reducible refine gate_callee (f:=10) rfl ?_);refine goesL_ (some 62) rfl rfl Try.func10 (by kernel_rfl) rfl #[.slice A0 l0.length c0,.slice A271_0 (rd_L11 t265 x40_2).length c271_0] rfl (by (try simp only [List.map_toArray,List.map_cons,List.map_nil]);first | done | rfl | (simp only [List.length_drop,List.length_take];rfl)) ?_;(with_reducible refine (block_Put.calls k2 _ _ l0 _ _ (rd_L11 t265 x40_2) t272 t273 _ ?side1 ?side2 ?side3 ?side4 A24.out).mono ?_);(case side1 => repeat (first | exact (Kd.C_below HR0.out HB.out) | (with_reducible refine Kd.C_alloc ?_ _) | (with_reducible refine Kd.C_drewN ?_ _) | (with_reducible refine Kd.C_drew ?_)));(case side2 => exact HC0.out);(case side3 => repeat (first | exact (by repeat (first | (with_reducible exact HR271_0.out) | (with_reducible refine Kd.C_alloc ?_ _) | (with_reducible refine Kd.C_drewN ?_ _) | (with_reducible refine Kd.C_drew ?_) | exact HR271_0.out)) | (with_reducible refine Kd.C_alloc ?_ _) | (with_reducible refine Kd.C_drewN ?_ _) | (with_reducible refine Kd.C_drew ?_)));(case side4 => exact HC271_0.out);rintro e w66 ⟨v274,rfl,ho0,hb⟩;refine ⟨_,rfl,?_⟩;have n0_:=Aside0.mk (Kd.N_elder' (by (with_reducible repeat (first | apply Kd.N_alloc | apply Kd.N_drewN | apply Kd.N_drew));exact HO_7.out) (Kd.R_base ho0) hb);have n1_:=Aside0.mk (Kd.N_elder' (by (with_reducible repeat (first | apply Kd.N_alloc | apply Kd.N_drewN | apply Kd.N_drew));exact HO_38.out) (Kd.R_base ho0) hb);have n2_:=Aside0.mk (Kd.V_elder' (by (with_reducible repeat (first | apply Kd.V_alloc | apply Kd.V_drewN | apply Kd.V_drew));exact HL271_0.out) (Kd.R_base ho0) hb);have n3_:=Aside0.mk (Kd.R_lower ho0 (below_size (by repeat (first | (with_reducible first | exact HB.out | apply below_alloc | apply pw_below_drewN | apply below_drew1) | exact HB.out))));have n4_:=Aside0.mk (Kd.C_below (by repeat (first | (with_reducible exact HR271_0.out) | (with_reducible refine Kd.C_alloc ?_ _) | (with_reducible refine Kd.C_drewN ?_ _) | (with_reducible refine Kd.C_drew ?_) | exact HR271_0.out)) hb);have n5_:=Aside0.mk (below_step (by repeat (first | (with_reducible first | exact HB.out | apply below_alloc | apply pw_below_drewN | apply below_drew1) | exact HB.out)) hb);clear HO_7;clear HO_38;clear HL271_0;clear HR271_0;clear HB;have HO_7:=n0_;have HO_38:=n1_;have HL271_0:=n2_;have HO275:=n3_;have HR271_0:=n4_;have HB:=n5_;clear n0_ n1_ n2_ n3_ n4_ n5_;(try clear hb);(try clear hb2);(try clear hk);(try clear hi);(try clear ho0)))
              go_ret
              exact ⟨by first | rfl | (simp [errW_none,errW_some] <;> rfl) | (simp [*,errW_none,errW_some] <;> rfl),by repeat (first | (with_reducible first | exact HB.out | apply below_alloc | apply pw_below_drewN | apply below_drew1) | exact HB.out)⟩
         ·rw [if_neg c20] at H
          exact absurd H (by simp)
        ·rw [if_neg c19] at H
         exact absurd H (by simp)
       ·rw [if_neg c18] at H
        have c18b0 : decide (x40_2 < (t265.length : Int)) = false:=decide_eq_false c18
        clear c18
        replace H:=Option.bind_eq_some_iff.mp H
        obtain ⟨t270,A670,H⟩:=H
        replace H : (some t270) = some r:=H
        have A67:=Aside0.mk A670
        clear A670
        obtain rfl:=Option.some.inj H
        go_wp2_with (first | ((with_reducible refine gate_callee (f:=17) rfl ?_);refine goesL_ (some 105) rfl rfl Try.func17 (by kernel_rfl) rfl #[] rfl (by (try simp only [List.map_toArray,List.map_cons,List.map_nil]);first | done | rfl | (simp only [List.length_drop,List.length_take];rfl)) ?_;(with_reducible refine (tachographlaw16_fixed.calls k2  t270 _ A67.out).mono ?_);rintro e w68 ⟨rfl,hb⟩;refine ⟨_,rfl,?_⟩;have n0_:=Aside0.mk (Kd.N_below (by (with_reducible repeat (first | apply Kd.N_alloc | apply Kd.N_drewN | apply Kd.N_drew));exact HO_7.out) hb);have n1_:=Aside0.mk (Kd.N_below (by (with_reducible repeat (first | apply Kd.N_alloc | apply Kd.N_drewN | apply Kd.N_drew));exact HO_38.out) hb);have n2_:=Aside0.mk (below_step (by repeat (first | (with_reducible first | exact HB.out | apply below_alloc | apply pw_below_drewN | apply below_drew1) | exact HB.out)) hb);clear HO_7;clear HO_38;clear HB;have HO_7:=n0_;have HO_38:=n1_;have HB:=n2_;clear n0_ n1_ n2_;(try clear hb);(try clear hb2);(try clear hk);(try clear hi)))
        go_ret
        exact ⟨by first | rfl | (simp [errW_none,errW_some] <;> rfl) | (simp [*,errW_none,errW_some] <;> rfl),by repeat (first | (with_reducible first | exact HB.out | apply below_alloc | apply pw_below_drewN | apply below_drew1) | exact HB.out)⟩
    ·rw [if_neg c15] at H
     have c15b0 : (t268 == 0) = false:=beq_eq_false_iff_ne.mpr c15
     have c15b1 : (t268 != 0) = true:=bne_iff_ne.mpr c15
     replace H:=Option.bind_eq_some_iff.mp H
     obtain ⟨t269,A690,H⟩:=H
     replace H : (if t269 = true then (some ((t265.length : Int) == 0)) else (some false)) = some r:=H
     have A69:=Aside0.mk A690
     clear A690
     by_cases c70 : t269 = true
     ·subst c70
      have H1 : (some ((t265.length : Int) == 0)) = some r:=by rw [if_pos rfl] at H;exact H
      clear H
      have H:=H1
      clear H1
      obtain rfl:=Option.some.inj H
      go_wp2_with (first | ((with_reducible refine gate_callee (f:=18) rfl ?_);refine goesL_ (some 27) rfl rfl Try.func18 (by kernel_rfl) rfl #[.slice A0 l0.length c0,.slice A1 l1.length c1,.int .i64 a2] rfl (by (try simp only [List.map_toArray,List.map_cons,List.map_nil]);first | done | rfl | (simp only [List.length_drop,List.length_take];rfl)) ?_;(with_reducible refine (cut_Blocks.calls kj3 _ _ l0 (fun k_ => k_ < w.heap.size) _ _ l1 a2 t265 t268 _ ?side1 ?side2 ?side3 A14.out).mono ?_);(case side1 => repeat (first | exact (Kd.C_below HR0.out HB.out) | (with_reducible refine Kd.C_alloc ?_ _) | (with_reducible refine Kd.C_drewN ?_ _) | (with_reducible refine Kd.C_drew ?_)));(case side2 => exact HC0.out);(case side3 => exact Kd.V_mk HC1.out (Kd.F_below (Kd.C_F k56_heap HR1.out) (by repeat (first | (with_reducible first | exact HB.out | apply below_alloc | apply pw_below_drewN | apply below_drew1) | exact HB.out))));rintro e w71 ⟨v266,rfl,ho0,hb⟩;refine ⟨_,rfl,?_⟩;have n0_:=Aside0.mk (Kd.N_lower (Kd.N_mono (ok':=fun k_ => True) (Kd.R_N ho0) (fun k_ hk_ => trivial)) (below_size (by repeat (first | (with_reducible first | exact HB.out | apply below_alloc | apply pw_below_drewN | apply below_drew1) | exact HB.out))));have n1_:=Aside0.mk (below_step (by repeat (first | (with_reducible first | exact HB.out | apply below_alloc | apply pw_below_drewN | apply below_drew1) | exact HB.out)) hb);clear HB;have HO267:=n0_;have HB:=n1_;clear n0_ n1_;(try clear hb);(try clear hb2);(try clear hk);(try clear hi);(try clear ho0)) | ((with_reducible refine gate_callee (f:=17) rfl ?_);refine goesL_ (some 32) rfl rfl Try.func17 (by kernel_rfl) rfl #[] rfl (by (try simp only [List.map_toArray,List.map_cons,List.map_nil]);first | done | rfl | (simp only [List.length_drop,List.length_take];rfl)) ?_;(with_reducible refine (tachographlaw16_fixed.calls kj3  true _ A69.out).mono ?_);rintro e w72 ⟨rfl,hb⟩;refine ⟨_,rfl,?_⟩;have n0_:=Aside0.mk (Kd.N_below (by (with_reducible repeat (first | apply Kd.N_alloc | apply Kd.N_drewN | apply Kd.N_drew));exact HO267.out) hb);have n1_:=Aside0.mk (below_step (by repeat (first | (with_reducible first | exact HB.out | apply below_alloc | apply pw_below_drewN | apply below_drew1) | exact HB.out)) hb);clear HO267;clear HB;have HO267:=n0_;have HB:=n1_;clear n0_ n1_;(try clear hb);(try clear hb2);(try clear hk);(try clear hi);obtain ⟨Ao73,co73,eo73⟩:=Kd.N_slice HO267.out;subst eo73))
      go_ret
      exact ⟨by first | rfl | (simp [errW_none,errW_some] <;> rfl) | (simp [*,errW_none,errW_some] <;> rfl),by repeat (first | (with_reducible first | exact HB.out | apply below_alloc | apply pw_below_drewN | apply below_drew1) | exact HB.out)⟩
     ·replace c70:=Bool.eq_false_iff.mpr c70
      subst c70
      have H1 : (some false) = some r:=by rw [if_neg (show ¬ (false = true) by decide)] at H;exact H
      clear H
      have H:=H1
      clear H1
      obtain rfl:=Option.some.inj H
      go_wp2_with (first | ((with_reducible refine gate_callee (f:=18) rfl ?_);refine goesL_ (some 27) rfl rfl Try.func18 (by kernel_rfl) rfl #[.slice A0 l0.length c0,.slice A1 l1.length c1,.int .i64 a2] rfl (by (try simp only [List.map_toArray,List.map_cons,List.map_nil]);first | done | rfl | (simp only [List.length_drop,List.length_take];rfl)) ?_;(with_reducible refine (cut_Blocks.calls kj3 _ _ l0 (fun k_ => k_ < w.heap.size) _ _ l1 a2 t265 t268 _ ?side1 ?side2 ?side3 A14.out).mono ?_);(case side1 => repeat (first | exact (Kd.C_below HR0.out HB.out) | (with_reducible refine Kd.C_alloc ?_ _) | (with_reducible refine Kd.C_drewN ?_ _) | (with_reducible refine Kd.C_drew ?_)));(case side2 => exact HC0.out);(case side3 => exact Kd.V_mk HC1.out (Kd.F_below (Kd.C_F k56_heap HR1.out) (by repeat (first | (with_reducible first | exact HB.out | apply below_alloc | apply pw_below_drewN | apply below_drew1) | exact HB.out))));rintro e w74 ⟨v266,rfl,ho0,hb⟩;refine ⟨_,rfl,?_⟩;have n0_:=Aside0.mk (Kd.N_lower (Kd.N_mono (ok':=fun k_ => True) (Kd.R_N ho0) (fun k_ hk_ => trivial)) (below_size (by repeat (first | (with_reducible first | exact HB.out | apply below_alloc | apply pw_below_drewN | apply below_drew1) | exact HB.out))));have n1_:=Aside0.mk (below_step (by repeat (first | (with_reducible first | exact HB.out | apply below_alloc | apply pw_below_drewN | apply below_drew1) | exact HB.out)) hb);clear HB;have HO267:=n0_;have HB:=n1_;clear n0_ n1_;(try clear hb);(try clear hb2);(try clear hk);(try clear hi);(try clear ho0)) | ((with_reducible refine gate_callee (f:=17) rfl ?_);refine goesL_ (some 32) rfl rfl Try.func17 (by kernel_rfl) rfl #[] rfl (by (try simp only [List.map_toArray,List.map_cons,List.map_nil]);first | done | rfl | (simp only [List.length_drop,List.length_take];rfl)) ?_;(with_reducible refine (tachographlaw16_fixed.calls kj3  false _ A69.out).mono ?_);rintro e w75 ⟨rfl,hb⟩;refine ⟨_,rfl,?_⟩;have n0_:=Aside0.mk (Kd.N_below (by (with_reducible repeat (first | apply Kd.N_alloc | apply Kd.N_drewN | apply Kd.N_drew));exact HO267.out) hb);have n1_:=Aside0.mk (below_step (by repeat (first | (with_reducible first | exact HB.out | apply below_alloc | apply pw_below_drewN | apply below_drew1) | exact HB.out)) hb);clear HO267;clear HB;have HO267:=n0_;have HB:=n1_;clear n0_ n1_;(try clear hb);(try clear hb2);(try clear hk);(try clear hi)))
      go_ret
      exact ⟨by first | rfl | (simp [errW_none,errW_some] <;> rfl) | (simp [*,errW_none,errW_some] <;> rfl),by repeat (first | (with_reducible first | exact HB.out | apply below_alloc | apply pw_below_drewN | apply below_drew1) | exact HB.out)⟩

set_option maxRecDepth 100000 in
theorem tachographlaw16_CutNoLess.laid0 : Go.Proofs.YtmmfakdncjeoeaaOpen.Laid Try.prog 53 k53 (fun b_ : S53 => (Go.Proofs.YtmmfakdncjeoeaaOpen.pairOk Go.Proofs.YtmmfakdncjeoeaaOpen.strOk (Go.Proofs.YtmmfakdncjeoeaaOpen.sliceOk 8 (Go.Proofs.YtmmfakdncjeoeaaOpen.intOk .i64))) (b_.f0,b_.f1)):=(Go.Proofs.YtmmfakdncjeoeaaOpen.laid_iso (fun b_ : S53 => (b_.f0,b_.f1)) (fun p_ => ⟨p_.1,p_.2⟩) (fun _ => rfl) (Go.Proofs.YtmmfakdncjeoeaaOpen.laid_struct Try.underlying53 (by kernel_rfl) (Go.Proofs.YtmmfakdncjeoeaaOpen.laidF_cons (by rfl) (Go.Proofs.YtmmfakdncjeoeaaOpen.laid_string Try.underlying9 (by kernel_rfl)) (Go.Proofs.YtmmfakdncjeoeaaOpen.laidF_one (by rfl) (Go.Proofs.YtmmfakdncjeoeaaOpen.laid_slice 3 Try.underlying51 (by kernel_rfl) (by kernel_rfl) (Go.Proofs.YtmmfakdncjeoeaaOpen.laid_int Try.underlying3 (by kernel_rfl)))))))
set_option maxRecDepth 100000 in
theorem tachographlaw16_CutNoLess.laid1 : Go.Proofs.YtmmfakdncjeoeaaOpen.Laid Try.prog 56 k56 (fun b_ : S56 => (Go.Proofs.YtmmfakdncjeoeaaOpen.pairOk (Go.Proofs.YtmmfakdncjeoeaaOpen.intOk .u64) (Go.Proofs.YtmmfakdncjeoeaaOpen.sliceOk 32 (fun b_ : S59 => (Go.Proofs.YtmmfakdncjeoeaaOpen.pairOk (Go.Proofs.YtmmfakdncjeoeaaOpen.intOk .i64) (Go.Proofs.YtmmfakdncjeoeaaOpen.sliceOk 32 (fun b_ : S61 => (Go.Proofs.YtmmfakdncjeoeaaOpen.pairOk (Go.Proofs.YtmmfakdncjeoeaaOpen.intOk .i64) (Go.Proofs.YtmmfakdncjeoeaaOpen.pairOk (Go.Proofs.YtmmfakdncjeoeaaOpen.intOk .i64) Go.Proofs.YtmmfakdncjeoeaaOpen.strOk)) (b_.f0,b_.f1,b_.f2)))) (b_.f0,b_.f1)))) (b_.f0,b_.f1)):=(Go.Proofs.YtmmfakdncjeoeaaOpen.laid_iso (fun b_ : S56 => (b_.f0,b_.f1)) (fun p_ => ⟨p_.1,p_.2⟩) (fun _ => rfl) (Go.Proofs.YtmmfakdncjeoeaaOpen.laid_struct Try.underlying56 (by kernel_rfl) (Go.Proofs.YtmmfakdncjeoeaaOpen.laidF_cons (by rfl) (Go.Proofs.YtmmfakdncjeoeaaOpen.laid_int Try.underlying39 (by kernel_rfl)) (Go.Proofs.YtmmfakdncjeoeaaOpen.laidF_one (by rfl) (Go.Proofs.YtmmfakdncjeoeaaOpen.laid_slice 59 Try.underlying54 (by kernel_rfl) (by kernel_rfl) (Go.Proofs.YtmmfakdncjeoeaaOpen.laid_iso (fun b_ : S59 => (b_.f0,b_.f1)) (fun p_ => ⟨p_.1,p_.2⟩) (fun _ => rfl) (Go.Proofs.YtmmfakdncjeoeaaOpen.laid_struct Try.underlying59 (by kernel_rfl) (Go.Proofs.YtmmfakdncjeoeaaOpen.laidF_cons (by rfl) (Go.Proofs.YtmmfakdncjeoeaaOpen.laid_int Try.underlying3 (by kernel_rfl)) (Go.Proofs.YtmmfakdncjeoeaaOpen.laidF_one (by rfl) (Go.Proofs.YtmmfakdncjeoeaaOpen.laid_slice 61 Try.underlying57 (by kernel_rfl) (by kernel_rfl) (Go.Proofs.YtmmfakdncjeoeaaOpen.laid_iso (fun b_ : S61 => (b_.f0,b_.f1,b_.f2)) (fun p_ => ⟨p_.1,p_.2.1,p_.2.2⟩) (fun _ => rfl) (Go.Proofs.YtmmfakdncjeoeaaOpen.laid_struct Try.underlying61 (by kernel_rfl) (Go.Proofs.YtmmfakdncjeoeaaOpen.laidF_cons (by rfl) (Go.Proofs.YtmmfakdncjeoeaaOpen.laid_int Try.underlying3 (by kernel_rfl)) (Go.Proofs.YtmmfakdncjeoeaaOpen.laidF_cons (by rfl) (Go.Proofs.YtmmfakdncjeoeaaOpen.laid_int Try.underlying2 (by kernel_rfl)) (Go.Proofs.YtmmfakdncjeoeaaOpen.laidF_one (by rfl) (Go.Proofs.YtmmfakdncjeoeaaOpen.laid_string Try.underlying9 (by kernel_rfl)))))))))))))))))
/-- THE ONE PURE STATEMENT of tachographlaw16_CutNoLess: yours. -/
def tachographlaw16_CutNoLess.Pure : Prop:=∀ (l0 : List (S53)) (l1 : List (S56)) (a2 : Int),(Go.Proofs.YtmmfakdncjeoeaaOpen.sliceOk 40 (fun b_ : S53 => (Go.Proofs.YtmmfakdncjeoeaaOpen.pairOk Go.Proofs.YtmmfakdncjeoeaaOpen.strOk (Go.Proofs.YtmmfakdncjeoeaaOpen.sliceOk 8 (Go.Proofs.YtmmfakdncjeoeaaOpen.intOk .i64))) (b_.f0,b_.f1))) l0 → (Go.Proofs.YtmmfakdncjeoeaaOpen.sliceOk 32 (fun b_ : S56 => (Go.Proofs.YtmmfakdncjeoeaaOpen.pairOk (Go.Proofs.YtmmfakdncjeoeaaOpen.intOk .u64) (Go.Proofs.YtmmfakdncjeoeaaOpen.sliceOk 32 (fun b_ : S59 => (Go.Proofs.YtmmfakdncjeoeaaOpen.pairOk (Go.Proofs.YtmmfakdncjeoeaaOpen.intOk .i64) (Go.Proofs.YtmmfakdncjeoeaaOpen.sliceOk 32 (fun b_ : S61 => (Go.Proofs.YtmmfakdncjeoeaaOpen.pairOk (Go.Proofs.YtmmfakdncjeoeaaOpen.intOk .i64) (Go.Proofs.YtmmfakdncjeoeaaOpen.pairOk (Go.Proofs.YtmmfakdncjeoeaaOpen.intOk .i64) Go.Proofs.YtmmfakdncjeoeaaOpen.strOk)) (b_.f0,b_.f1,b_.f2)))) (b_.f0,b_.f1)))) (b_.f0,b_.f1))) l1 → (Lit.int .i64 a2).wf = true → ∃ k,tachographlaw16_CutNoLess.f k l0 l1 a2 = some true
theorem tachographlaw16_CutNoLess.walk (P : tachographlaw16_CutNoLess.Pure) (a0 : Option Addr) (cap0 : Nat) (l0 : List (S53)) (a1 : Option Addr) (cap1 : Nat) (l1 : List (S56)) (a2 : Int) (w : World) (w0 : (Go.Proofs.YtmmfakdncjeoeaaOpen.sliceOk 40 (fun b_ : S53 => (Go.Proofs.YtmmfakdncjeoeaaOpen.pairOk Go.Proofs.YtmmfakdncjeoeaaOpen.strOk (Go.Proofs.YtmmfakdncjeoeaaOpen.sliceOk 8 (Go.Proofs.YtmmfakdncjeoeaaOpen.intOk .i64))) (b_.f0,b_.f1))) l0) (e0 : l0.length ≤ cap0) (C0 : Kd.C k53 w a0 l0.length l0) (w1 : (Go.Proofs.YtmmfakdncjeoeaaOpen.sliceOk 32 (fun b_ : S56 => (Go.Proofs.YtmmfakdncjeoeaaOpen.pairOk (Go.Proofs.YtmmfakdncjeoeaaOpen.intOk .u64) (Go.Proofs.YtmmfakdncjeoeaaOpen.sliceOk 32 (fun b_ : S59 => (Go.Proofs.YtmmfakdncjeoeaaOpen.pairOk (Go.Proofs.YtmmfakdncjeoeaaOpen.intOk .i64) (Go.Proofs.YtmmfakdncjeoeaaOpen.sliceOk 32 (fun b_ : S61 => (Go.Proofs.YtmmfakdncjeoeaaOpen.pairOk (Go.Proofs.YtmmfakdncjeoeaaOpen.intOk .i64) (Go.Proofs.YtmmfakdncjeoeaaOpen.pairOk (Go.Proofs.YtmmfakdncjeoeaaOpen.intOk .i64) Go.Proofs.YtmmfakdncjeoeaaOpen.strOk)) (b_.f0,b_.f1,b_.f2)))) (b_.f0,b_.f1)))) (b_.f0,b_.f1))) l1) (e1 : l1.length ≤ cap1) (C1 : Kd.C k56 w a1 l1.length l1) (w2 : (Lit.int .i64 a2).wf = true) :
  Calls Try.prog 6 #[.slice a0 l0.length cap0,.slice a1 l1.length cap1,.int .i64 a2] w fun e w' => e = .returned (.bool true) ∧ Below w.heap.size w w':=by
 obtain ⟨k,h⟩:=P l0 l1 a2 w0 w1 w2
 refine (tachographlaw16_CutNoLess.calls k _ _ l0 _ _ l1 a2 true w C0 e0 C1 e1 h).mono ?_
 rintro e w' ⟨rfl,hd⟩
 exact ⟨rfl,hd⟩

end Go.Proofs.Ytmmfakdncjeoeaa.PC
