-- Contracts of Go functions, each with its plain Lean function: written by wip/tools/myprint.py of this work (the kit's print, with contracts proved by hand spliced in).
import Derived.Test.YtmmfakdncjeoeaaPUx0
import Derived.Test.YtmmfakdncjeoeaaPUx2
import Derived.Test.YtmmfakdncjeoeaaPUx7
import Derived.Test.YtmmfakdncjeoeaaPUx11
import Derived.Test.YtmmfakdncjeoeaaPUx12
import Derived.Test.YtmmfakdncjeoeaaShort
namespace Go.Proofs.Ytmmfakdncjeoeaa.PU
open Go.Proofs.YtmmfakdncjeoeaaShort
open Go.RowKit Go.Proofs.YtmmfakdncjeoeaaW.PrintWords Go.Proofs.YtmmfakdncjeoeaaW.PrintLast Go.Proofs.YtmmfakdncjeoeaaW.PrintMore
attribute [local go_sem] max2_int min2_int max_two min_two max_three min_three max_four min_four   -- for this text's walks alone
set_option linter.unusedVariables false
set_option linter.unusedSimpArgs false

/-! ### tachographlaw15_UnblockBack: function 3 -/
mutual
def tachographlaw15_UnblockBack.j0 : Nat → List (S53) → List (S56) → Int → Bool → Option (Bool)
 | 0, _, _, _, _ => none
 | k + 1, x0, x1, x2, x20 => if x20 = true then ((tachographlaw15_fixed.f k).bind fun t347 => (some t347)) else ((block_Put.f k x0 x1).bind fun bt348 => (if bt348.2 = 0 then (tachographlaw15_UnblockBack.j1 k x0 x1 x2 bt348.1 bt348.2 ((bt348.1.length : Int) == 0)) else (tachographlaw15_UnblockBack.j1 k x0 x1 x2 bt348.1 bt348.2 true)))
def tachographlaw15_UnblockBack.j1 : Nat → List (S53) → List (S56) → Int → List Int → Int → Bool → Option (Bool)
 | 0, _, _, _, _, _, _ => none
 | k + 1, x0, x1, x2, x7, x8, x34 => if x34 = true then ((tachographlaw15_fixed.f k).bind fun t352 => (if t352 = true then (some (x8 != 0)) else (some false))) else ((unblock_Get.f k x0 x7).bind fun bt353 => (if (x7.length : Int) = 0 then (none) else (if 0 ≤ (Int.tmod (wrap64 (x2)) (x7.length : Int)) then (if (Int.tmod (wrap64 (x2)) (x7.length : Int)) ≤ (x7.length : Int) then ((unblock_Get.f k x0 (x7.take ((Int.tmod (wrap64 (x2)) (x7.length : Int)) : Int).toNat)).bind fun bt361 => ((some (([] : List Int) : List Int)).bind fun y365 => (if y365.length + x7.length < 140737488355328 then ((some (y365 ++ x7 : List Int)).bind fun y368 => (if y368.length < 140737488355328 then ((unblock_Get.f k x0 (y368 ++ [(x2) % 256])).bind fun bt374 => ((tachographlaw15_fixed.f k).bind fun t378 => (if t378 = true then (if bt353.2 = 0 then ((tachographref12_Same.f k bt353.1 x1).bind fun t379 => (if t379 = true then (if bt361.2 = 0 then (some false) else (if bt374.2 = 4 then (some ((wrap64 ((bt361.1.length : Int) + (bt374.1.length : Int))) == 0)) else (some false))) else (some false))) else (some false)) else (some false)))) else (none))) else (none)))) else (none)) else (none))))
end
def tachographlaw15_UnblockBack.f (k : Nat) (l0 : List (S53)) (l1 : List (S56)) (a2 : Int) : Option (Bool) := (tachographlaw09_Great.f k l0).bind fun t345 => (if t345 = true then (tachographlaw15_UnblockBack.j0 k l0 l1 a2 true) else ((tachographlaw12_Great.f k l1 2000).bind fun t346 => (tachographlaw15_UnblockBack.j0 k l0 l1 a2 t346)))
set_option maxHeartbeats 8000000 in
set_option maxRecDepth 100000 in
theorem tachographlaw15_UnblockBack.calls (k : Nat) (A0 : Option Addr) (c0 : Nat) (l0 : List (S53)) (A1 : Option Addr) (c1 : Nat) (l1 : List (S56)) (a2 : Int) (r : Bool) (w : World) (hr0 : Kd.C k53 w A0 l0.length l0) (hc0 : l0.length ≤ c0) (hr1 : Kd.C k56 w A1 l1.length l1) (hc1 : l1.length ≤ c1) (h : tachographlaw15_UnblockBack.f k l0 l1 a2 = some r) :
  Calls Try.prog 3 #[.slice A0 l0.length c0,.slice A1 l1.length c1,.int .u16 a2] w fun e w' => e = .returned (.bool r) ∧ Below w.heap.size w w':=by
 have HR0:=qm hr0
 have HC0:=qm hc0
 clear hr0 hc0
 have HR1:=qm hr1
 have HC1:=qm hc1
 clear hr1 hc1
 have HB:=qm (Below.refl w.heap.size w)
 have H : ((tachographlaw09_Great.f k l0).bind fun t345 => (if t345 = true then (tachographlaw15_UnblockBack.j0 k l0 l1 a2 true) else ((tachographlaw12_Great.f k l1 2000).bind fun t346 => (tachographlaw15_UnblockBack.j0 k l0 l1 a2 t346)))) = some r:=h
 clear h
 have HC4:=qm H
 clear H
 go_enter Try.func3,Try.ntmps3
 go_upto_region 1 with (fail)
 go_cut [20] (fun v20 wc => ∃ (kq : Nat) (x20_3 : Bool),v20 = .bool x20_3 ∧ Aside0 (tachographlaw15_UnblockBack.j0 kq l0 l1 a2 x20_3 = some r) ∧ Aside0 (kq ≤ k) ∧ Aside0 (Below w.heap.size w wc))
 case first =>
  have H:=HC4.out
  clear HC4
  replace H:=obq.mp H
  obtain ⟨t345,A50,H⟩:=H
  replace H : (if t345 = true then (tachographlaw15_UnblockBack.j0 k l0 l1 a2 true) else ((tachographlaw12_Great.f k l1 2000).bind fun t346 => (tachographlaw15_UnblockBack.j0 k l0 l1 a2 t346))) = some r:=H
  have A5:=qm A50
  clear A50
  by_cases c6 : t345 = true
  ·subst c6
   have H1 : (tachographlaw15_UnblockBack.j0 k l0 l1 a2 true) = some r:=by rw [if_pos rfl] at H;exact H
   clear H
   have H:=H1
   clear H1
   have H':=qm H
   clear H
   go_wp2_with (first | ((with_reducible refine gcq (f:=7) rfl ?_);refine glq (some 16) rfl rfl Try.func7 (by kernel_rfl) rfl #[.slice A0 l0.length c0] rfl (by (try simp only [l3q,l4q,l5q]);first | done | rfl | (simp only [l1q,l2q];rfl)) ?_;(with_reducible refine (tachographlaw09_Great.calls k _ _ l0 true _ ?side1 ?side2 A5.out).mono ?_);(case side1 => repeat (first | exact (Kd.C_below HR0.out HB.out) | (with_reducible first | refine caq ?_ _ | refine cnq ?_ _ | refine cdq ?_)));(case side2 => exact HC0.out);rintro e w7 ⟨rfl,hb⟩;refine ⟨_,rfl,?_⟩;have n0_:=qm (qt (by repeat (first | (with_reducible first | exact HB.out | apply qa | apply qn | apply qd) | exact HB.out)) hb);clear HB;have HB:=n0_;clear n0_;(try clear hb);(try clear hb2);(try clear hk);(try clear hi)))
   go_meet
   case rel => exact ⟨_,(true),(by first | rfl | (simp;done) | (simp [*];done)),H',⟨by first | omega | exact Nat.le_refl _⟩,⟨by repeat (first | (with_reducible first | exact HB.out | apply qa | apply qn | apply qd) | exact HB.out)⟩⟩
  ·replace c6:=Bool.eq_false_iff.mpr c6
   subst c6
   have H1 : ((tachographlaw12_Great.f k l1 2000).bind fun t346 => (tachographlaw15_UnblockBack.j0 k l0 l1 a2 t346)) = some r:=by rw [if_neg (show ¬ (false = true) by decide)] at H;exact H
   clear H
   have H:=H1
   clear H1
   replace H:=obq.mp H
   obtain ⟨t346,A80,H⟩:=H
   replace H : (tachographlaw15_UnblockBack.j0 k l0 l1 a2 t346) = some r:=H
   have A8:=qm A80
   clear A80
   have H':=qm H
   clear H
   go_wp2_with (first | ((with_reducible refine gcq (f:=7) rfl ?_);refine glq (some 16) rfl rfl Try.func7 (by kernel_rfl) rfl #[.slice A0 l0.length c0] rfl (by (try simp only [l3q,l4q,l5q]);first | done | rfl | (simp only [l1q,l2q];rfl)) ?_;(with_reducible refine (tachographlaw09_Great.calls k _ _ l0 false _ ?side1 ?side2 A5.out).mono ?_);(case side1 => repeat (first | exact (Kd.C_below HR0.out HB.out) | (with_reducible first | refine caq ?_ _ | refine cnq ?_ _ | refine cdq ?_)));(case side2 => exact HC0.out);rintro e w9 ⟨rfl,hb⟩;refine ⟨_,rfl,?_⟩;have n0_:=qm (qt (by repeat (first | (with_reducible first | exact HB.out | apply qa | apply qn | apply qd) | exact HB.out)) hb);clear HB;have HB:=n0_;clear n0_;(try clear hb);(try clear hb2);(try clear hk);(try clear hi)) | (go_at_call 8;(with_reducible refine (tachographlaw12_Great.calls k _ _ l1 2000 t346 _ ?side1 ?side2 A8.out).mono ?_);(case side1 => repeat (first | exact (Kd.C_below HR1.out HB.out) | (with_reducible first | refine caq ?_ _ | refine cnq ?_ _ | refine cdq ?_)));(case side2 => exact HC1.out);rintro e w10 ⟨rfl,hb⟩;have n0_:=qm (qt (by repeat (first | (with_reducible first | exact HB.out | apply qa | apply qn | apply qd) | exact HB.out)) hb);clear HB;have HB:=n0_;clear n0_;(try clear hb);(try clear hb2);(try clear hk);(try clear hi)))
   go_meet
   case rel => exact ⟨_,(t346),(by first | rfl | (simp;done) | (simp [*];done)),H',⟨by first | omega | exact Nat.le_refl _⟩,⟨by repeat (first | (with_reducible first | exact HB.out | apply qa | apply qn | apply qd) | exact HB.out)⟩⟩
 case rest =>
  clear HC4
  (try clear c1);(try clear p2);(try clear c3);(try clear c6);(try clear c7)
  obtain ⟨kq,x20_3,rfl,HA,HJ3,HB⟩:=hcut
  cases kq with
  | zero => exact absurd HA.out (by simp [tachographlaw15_UnblockBack.j0])
  | succ kj3 =>
   have H:=HA.out
   clear HA
   simp only [tachographlaw15_UnblockBack.j0] at H
   by_cases c11 : x20_3 = true
   ·subst c11
    have H1 : ((tachographlaw15_fixed.f kj3).bind fun t347 => (some t347)) = some r:=by rw [if_pos rfl] at H;exact H
    clear H
    have H:=H1
    clear H1
    replace H:=obq.mp H
    obtain ⟨t347,A120,H⟩:=H
    replace H : (some t347) = some r:=H
    have A12:=qm A120
    clear A120
    obtain rfl:=oiq H
    go_wp2_with (first | ((with_reducible refine gcq (f:=9) rfl ?_);refine glq (some 21) rfl rfl Try.func9 (by kernel_rfl) rfl #[] rfl (by (try simp only [l3q,l4q,l5q]);first | done | rfl | (simp only [l1q,l2q];rfl)) ?_;(with_reducible refine (tachographlaw15_fixed.calls kj3  t347 _ A12.out).mono ?_);rintro e w13 ⟨rfl,hb⟩;refine ⟨_,rfl,?_⟩;have n0_:=qm (qt (by repeat (first | (with_reducible first | exact HB.out | apply qa | apply qn | apply qd) | exact HB.out)) hb);clear HB;have HB:=n0_;clear n0_;(try clear hb);(try clear hb2);(try clear hk);(try clear hi)))
    go_ret
    exact ⟨by first | rfl | (simp [errW_none,errW_some] <;> rfl) | (simp [*,errW_none,errW_some] <;> rfl),by repeat (first | (with_reducible first | exact HB.out | apply qa | apply qn | apply qd) | exact HB.out)⟩
   ·replace c11:=Bool.eq_false_iff.mpr c11
    subst c11
    have H1 : ((block_Put.f kj3 l0 l1).bind fun bt348 => (if bt348.2 = 0 then (tachographlaw15_UnblockBack.j1 kj3 l0 l1 a2 bt348.1 bt348.2 ((bt348.1.length : Int) == 0)) else (tachographlaw15_UnblockBack.j1 kj3 l0 l1 a2 bt348.1 bt348.2 true))) = some r:=by rw [if_neg (show ¬ (false = true) by decide)] at H;exact H
    clear H
    have H:=H1
    clear H1
    replace H:=obq.mp H
    obtain ⟨⟨t348,t349⟩,A140,H⟩:=H
    replace H : (if t349 = 0 then (tachographlaw15_UnblockBack.j1 kj3 l0 l1 a2 t348 t349 ((t348.length : Int) == 0)) else (tachographlaw15_UnblockBack.j1 kj3 l0 l1 a2 t348 t349 true)) = some r:=H
    have A14:=qm A140
    clear A140
    have HC15:=qm H
    clear H
    go_upto_region 4 with (first | ((with_reducible refine gcq (f:=10) rfl ?_);refine glq (some 25) rfl rfl Try.func10 (by kernel_rfl) rfl #[.slice A0 l0.length c0,.slice A1 l1.length c1] rfl (by (try simp only [l3q,l4q,l5q]);first | done | rfl | (simp only [l1q,l2q];rfl)) ?_;(with_reducible refine (block_Put.calls kj3 _ _ l0 _ _ l1 t348 t349 _ ?side1 ?side2 ?side3 ?side4 A14.out).mono ?_);(case side1 => repeat (first | exact (Kd.C_below HR0.out HB.out) | (with_reducible first | refine caq ?_ _ | refine cnq ?_ _ | refine cdq ?_)));(case side2 => exact HC0.out);(case side3 => repeat (first | exact (Kd.C_below HR1.out HB.out) | (with_reducible first | refine caq ?_ _ | refine cnq ?_ _ | refine cdq ?_)));(case side4 => exact HC1.out);rintro e w16 ⟨v350,rfl,ho0,hb⟩;refine ⟨_,rfl,?_⟩;have n0_:=qm (Kd.R_lower ho0 (qs (by repeat (first | (with_reducible first | exact HB.out | apply qa | apply qn | apply qd) | exact HB.out))));have n1_:=qm (qt (by repeat (first | (with_reducible first | exact HB.out | apply qa | apply qn | apply qd) | exact HB.out)) hb);clear HB;have HO351:=n0_;have HB:=n1_;clear n0_ n1_;(try clear hb);(try clear hb2);(try clear hk);(try clear hi);(try clear ho0)))
    (try simp only [Act.put,l6q,l7q,l8q])
    go_cut [34] (fun v34 wc => ∃ (kq : Nat) (x34_14 : Bool),v34 = .bool x34_14 ∧ Aside0 (tachographlaw15_UnblockBack.j1 kq l0 l1 a2 t348 t349 x34_14 = some r) ∧ Aside0 (kq ≤ kj3) ∧ Aside0 (Kd.R (Kd.int .u8) 5 wc w.heap.size (fun _ => True) v350 t348) ∧ Aside0 (Below w.heap.size w wc))
    case first =>
     have H:=HC15.out
     clear HC15
     by_cases c17 : t349 = 0
     ·rw [if_pos c17] at H
      have c17b0 : (t349 == 0) = true:=beq_iff_eq.mpr c17
      have c17b1 : (t349 != 0) = false:=b2q.mpr c17
      clear c17
      (first | rw [c17b0] | (simp only [i64_w,i32_w];rw [c17b0]) | skip)
      have H':=qm H
      clear H
      obtain ⟨Ao18,co18,eo18⟩:=Kd.R_slice HO351.out
      subst eo18
      go_wp2
      go_meet
      case rel => exact ⟨_,(((t348.length : Int) == 0)),(by first | rfl | (simp;done) | (simp [*];done)),H',⟨by have:=HJ3.out;first | omega | exact Nat.le_refl _⟩,⟨by (with_reducible repeat (first | apply raq | apply rnq | apply rdq));exact HO351.out⟩,⟨by repeat (first | (with_reducible first | exact HB.out | apply qa | apply qn | apply qd) | exact HB.out)⟩⟩
     ·rw [if_neg c17] at H
      have c17b0 : (t349 == 0) = false:=b1q.mpr c17
      have c17b1 : (t349 != 0) = true:=bne_iff_ne.mpr c17
      (first | rw [c17b0] | (simp only [i64_w,i32_w];rw [c17b0]) | skip)
      have H':=qm H
      clear H
      go_wp2
      go_meet
      case rel => exact ⟨_,(true),(by first | rfl | (simp;done) | (simp [*];done)),H',⟨by have:=HJ3.out;first | omega | exact Nat.le_refl _⟩,⟨by (with_reducible repeat (first | apply raq | apply rnq | apply rdq));exact HO351.out⟩,⟨by repeat (first | (with_reducible first | exact HB.out | apply qa | apply qn | apply qd) | exact HB.out)⟩⟩
    case rest =>
     clear HC15
     (try clear c1);(try clear p2);(try clear c3);(try clear c6);(try clear c7);(try clear c9);(try clear c10);(try clear c11);(try clear c17);(try clear c17b0);(try clear c17b1);(try clear p2)
     obtain ⟨kq,x34_14,rfl,HA,HJ14,HO_7,HB⟩:=hcut
     cases kq with
     | zero => exact absurd HA.out (by simp [tachographlaw15_UnblockBack.j1])
     | succ kj14 =>
      have H:=HA.out
      clear HA
      simp only [tachographlaw15_UnblockBack.j1] at H
      by_cases c19 : x34_14 = true
      ·subst c19
       have H1 : ((tachographlaw15_fixed.f kj14).bind fun t352 => (if t352 = true then (some (t349 != 0)) else (some false))) = some r:=by rw [if_pos rfl] at H;exact H
       clear H
       have H:=H1
       clear H1
       replace H:=obq.mp H
       obtain ⟨t352,A200,H⟩:=H
       replace H : (if t352 = true then (some (t349 != 0)) else (some false)) = some r:=H
       have A20:=qm A200
       clear A200
       by_cases c21 : t352 = true
       ·subst c21
        have H1 : (some (t349 != 0)) = some r:=by rw [if_pos rfl] at H;exact H
        clear H
        have H:=H1
        clear H1
        obtain rfl:=oiq H
        go_wp2_with (first | ((with_reducible refine gcq (f:=9) rfl ?_);refine glq (some 35) rfl rfl Try.func9 (by kernel_rfl) rfl #[] rfl (by (try simp only [l3q,l4q,l5q]);first | done | rfl | (simp only [l1q,l2q];rfl)) ?_;(with_reducible refine (tachographlaw15_fixed.calls kj14  true _ A20.out).mono ?_);rintro e w22 ⟨rfl,hb⟩;refine ⟨_,rfl,?_⟩;have n0_:=qm (Kd.R_below (by (with_reducible repeat (first | apply raq | apply rnq | apply rdq));exact HO_7.out) hb);have n1_:=qm (qt (by repeat (first | (with_reducible first | exact HB.out | apply qa | apply qn | apply qd) | exact HB.out)) hb);clear HO_7;clear HB;have HO_7:=n0_;have HB:=n1_;clear n0_ n1_;(try clear hb);(try clear hb2);(try clear hk);(try clear hi)))
        go_ret
        exact ⟨by first | rfl | (simp [errW_none,errW_some] <;> rfl) | (simp [*,errW_none,errW_some] <;> rfl),by repeat (first | (with_reducible first | exact HB.out | apply qa | apply qn | apply qd) | exact HB.out)⟩
       ·replace c21:=Bool.eq_false_iff.mpr c21
        subst c21
        have H1 : (some false) = some r:=by rw [if_neg (show ¬ (false = true) by decide)] at H;exact H
        clear H
        have H:=H1
        clear H1
        obtain rfl:=oiq H
        go_wp2_with (first | ((with_reducible refine gcq (f:=9) rfl ?_);refine glq (some 35) rfl rfl Try.func9 (by kernel_rfl) rfl #[] rfl (by (try simp only [l3q,l4q,l5q]);first | done | rfl | (simp only [l1q,l2q];rfl)) ?_;(with_reducible refine (tachographlaw15_fixed.calls kj14  false _ A20.out).mono ?_);rintro e w23 ⟨rfl,hb⟩;refine ⟨_,rfl,?_⟩;have n0_:=qm (Kd.R_below (by (with_reducible repeat (first | apply raq | apply rnq | apply rdq));exact HO_7.out) hb);have n1_:=qm (qt (by repeat (first | (with_reducible first | exact HB.out | apply qa | apply qn | apply qd) | exact HB.out)) hb);clear HO_7;clear HB;have HO_7:=n0_;have HB:=n1_;clear n0_ n1_;(try clear hb);(try clear hb2);(try clear hk);(try clear hi)))
        go_ret
        exact ⟨by first | rfl | (simp [errW_none,errW_some] <;> rfl) | (simp [*,errW_none,errW_some] <;> rfl),by repeat (first | (with_reducible first | exact HB.out | apply qa | apply qn | apply qd) | exact HB.out)⟩
      ·replace c19:=Bool.eq_false_iff.mpr c19
       subst c19
       have H1 : ((unblock_Get.f kj14 l0 t348).bind fun bt353 => (if (t348.length : Int) = 0 then (none) else (if 0 ≤ (Int.tmod (wrap64 (a2)) (t348.length : Int)) then (if (Int.tmod (wrap64 (a2)) (t348.length : Int)) ≤ (t348.length : Int) then ((unblock_Get.f kj14 l0 (t348.take ((Int.tmod (wrap64 (a2)) (t348.length : Int)) : Int).toNat)).bind fun bt361 => ((some (([] : List Int) : List Int)).bind fun y365 => (if y365.length + t348.length < 140737488355328 then ((some (y365 ++ t348 : List Int)).bind fun y368 => (if y368.length < 140737488355328 then ((unblock_Get.f kj14 l0 (y368 ++ [(a2) % 256])).bind fun bt374 => ((tachographlaw15_fixed.f kj14).bind fun t378 => (if t378 = true then (if bt353.2 = 0 then ((tachographref12_Same.f kj14 bt353.1 l1).bind fun t379 => (if t379 = true then (if bt361.2 = 0 then (some false) else (if bt374.2 = 4 then (some ((wrap64 ((bt361.1.length : Int) + (bt374.1.length : Int))) == 0)) else (some false))) else (some false))) else (some false)) else (some false)))) else (none))) else (none)))) else (none)) else (none)))) = some r:=by rw [if_neg (show ¬ (false = true) by decide)] at H;exact H
       clear H
       have H:=H1
       clear H1
       replace H:=obq.mp H
       obtain ⟨⟨t353,t354⟩,A240,H⟩:=H
       replace H : (if (t348.length : Int) = 0 then (none) else (if 0 ≤ (Int.tmod (wrap64 (a2)) (t348.length : Int)) then (if (Int.tmod (wrap64 (a2)) (t348.length : Int)) ≤ (t348.length : Int) then ((unblock_Get.f kj14 l0 (t348.take ((Int.tmod (wrap64 (a2)) (t348.length : Int)) : Int).toNat)).bind fun bt361 => ((some (([] : List Int) : List Int)).bind fun y365 => (if y365.length + t348.length < 140737488355328 then ((some (y365 ++ t348 : List Int)).bind fun y368 => (if y368.length < 140737488355328 then ((unblock_Get.f kj14 l0 (y368 ++ [(a2) % 256])).bind fun bt374 => ((tachographlaw15_fixed.f kj14).bind fun t378 => (if t378 = true then (if t354 = 0 then ((tachographref12_Same.f kj14 t353 l1).bind fun t379 => (if t379 = true then (if bt361.2 = 0 then (some false) else (if bt374.2 = 4 then (some ((wrap64 ((bt361.1.length : Int) + (bt374.1.length : Int))) == 0)) else (some false))) else (some false))) else (some false)) else (some false)))) else (none))) else (none)))) else (none)) else (none))) = some r:=H
       have A24:=qm A240
       clear A240
       by_cases c25 : (t348.length : Int) = 0
       ·rw [if_pos c25] at H
        exact absurd H (by simp)
       ·rw [if_neg c25] at H
        have c25b0 : ((t348.length : Int) == 0) = false:=b1q.mpr c25
        have c25b1 : ((t348.length : Int) != 0) = true:=bne_iff_ne.mpr c25
        have c25b2 : ¬ (t348 = []):=fun h_ => c25 (by rw [h_];rfl)
        obtain ⟨ji26,hji26⟩ : ∃ j_ : Int,(Int.tmod (wrap64 (a2)) (t348.length : Int)) = j_:=⟨_,rfl⟩
        replace H : (if 0 ≤ (ji26) then (if (ji26) ≤ (t348.length : Int) then ((unblock_Get.f kj14 l0 (t348.take ((ji26) : Int).toNat)).bind fun bt361 => ((some (([] : List Int) : List Int)).bind fun y365 => (if y365.length + t348.length < 140737488355328 then ((some (y365 ++ t348 : List Int)).bind fun y368 => (if y368.length < 140737488355328 then ((unblock_Get.f kj14 l0 (y368 ++ [(a2) % 256])).bind fun bt374 => ((tachographlaw15_fixed.f kj14).bind fun t378 => (if t378 = true then (if t354 = 0 then ((tachographref12_Same.f kj14 t353 l1).bind fun t379 => (if t379 = true then (if bt361.2 = 0 then (some false) else (if bt374.2 = 4 then (some ((wrap64 ((bt361.1.length : Int) + (bt374.1.length : Int))) == 0)) else (some false))) else (some false))) else (some false)) else (some false)))) else (none))) else (none)))) else (none)) else (none)) = some r:=by first | (rw [hji26] at H;exact H) | (simp only [hji26] at H ⊢;exact H)
        (try rw [hji26] at A24)
        by_cases c27 : 0 ≤ (ji26)
        ·rw [if_pos c27] at H
         have c27b0:=eq_true c27
         have c27b1 : decide (0 ≤ (ji26)) = true:=dt_ c27
         clear c27
         by_cases c28 : (ji26) ≤ (t348.length : Int)
         ·rw [if_pos c28] at H
          have c28b0:=eq_true c28
          have c28b1 : decide ((ji26) ≤ (t348.length : Int)) = true:=dt_ c28
          clear c28
          obtain ⟨y357,hy357⟩ : ∃ y_ : List Int,y_ = (t348.take ((ji26) : Int).toNat):=⟨_,rfl⟩
          replace H : ((unblock_Get.f kj14 l0 y357).bind fun bt361 => ((some (([] : List Int) : List Int)).bind fun y365 => (if y365.length + t348.length < 140737488355328 then ((some (y365 ++ t348 : List Int)).bind fun y368 => (if y368.length < 140737488355328 then ((unblock_Get.f kj14 l0 (y368 ++ [(a2) % 256])).bind fun bt374 => ((tachographlaw15_fixed.f kj14).bind fun t378 => (if t378 = true then (if t354 = 0 then ((tachographref12_Same.f kj14 t353 l1).bind fun t379 => (if t379 = true then (if bt361.2 = 0 then (some false) else (if bt374.2 = 4 then (some ((wrap64 ((bt361.1.length : Int) + (bt374.1.length : Int))) == 0)) else (some false))) else (some false))) else (some false)) else (some false)))) else (none))) else (none)))) = some r:=by first | (rw [hy357];with_reducible exact H) | (have H2_:=(Option.bind_some _ _).symm.trans H;rw [hy357];with_reducible exact H2_) | (have H2_:=(Option.bind_some _ _).symm.trans H;with_reducible exact H2_) | with_reducible exact H | (rw [hy357];exact H) | exact H
          have Ny357:=qm hy357
          clear hy357
          replace H:=obq.mp H
          obtain ⟨⟨t361,t362⟩,A290,H⟩:=H
          replace H : ((some (([] : List Int) : List Int)).bind fun y365 => (if y365.length + t348.length < 140737488355328 then ((some (y365 ++ t348 : List Int)).bind fun y368 => (if y368.length < 140737488355328 then ((unblock_Get.f kj14 l0 (y368 ++ [(a2) % 256])).bind fun bt374 => ((tachographlaw15_fixed.f kj14).bind fun t378 => (if t378 = true then (if t354 = 0 then ((tachographref12_Same.f kj14 t353 l1).bind fun t379 => (if t379 = true then (if t362 = 0 then (some false) else (if bt374.2 = 4 then (some ((wrap64 ((t361.length : Int) + (bt374.1.length : Int))) == 0)) else (some false))) else (some false))) else (some false)) else (some false)))) else (none))) else (none))) = some r:=H
          have A29:=qm A290
          clear A290
          obtain ⟨y365,hy365⟩ : ∃ y_ : List Int,y_ = (([] : List Int)):=⟨_,rfl⟩
          replace H : (if y365.length + t348.length < 140737488355328 then ((some (y365 ++ t348 : List Int)).bind fun y368 => (if y368.length < 140737488355328 then ((unblock_Get.f kj14 l0 (y368 ++ [(a2) % 256])).bind fun bt374 => ((tachographlaw15_fixed.f kj14).bind fun t378 => (if t378 = true then (if t354 = 0 then ((tachographref12_Same.f kj14 t353 l1).bind fun t379 => (if t379 = true then (if t362 = 0 then (some false) else (if bt374.2 = 4 then (some ((wrap64 ((t361.length : Int) + (bt374.1.length : Int))) == 0)) else (some false))) else (some false))) else (some false)) else (some false)))) else (none))) else (none)) = some r:=by first | (rw [hy365];with_reducible exact H) | (have H2_:=(Option.bind_some _ _).symm.trans H;rw [hy365];with_reducible exact H2_) | (have H2_:=(Option.bind_some _ _).symm.trans H;with_reducible exact H2_) | with_reducible exact H | (rw [hy365];exact H) | exact H
          have Ny365:=qm hy365
          clear hy365
          by_cases c30 : y365.length + t348.length < 140737488355328
          ·rw [if_pos c30] at H
           have LMc30:=qm c30
           clear c30
           obtain ⟨y368,hy368⟩ : ∃ y_ : List Int,y_ = (y365 ++ t348):=⟨_,rfl⟩
           replace H : (if y368.length < 140737488355328 then ((unblock_Get.f kj14 l0 (y368 ++ [(a2) % 256])).bind fun bt374 => ((tachographlaw15_fixed.f kj14).bind fun t378 => (if t378 = true then (if t354 = 0 then ((tachographref12_Same.f kj14 t353 l1).bind fun t379 => (if t379 = true then (if t362 = 0 then (some false) else (if bt374.2 = 4 then (some ((wrap64 ((t361.length : Int) + (bt374.1.length : Int))) == 0)) else (some false))) else (some false))) else (some false)) else (some false)))) else (none)) = some r:=by first | (rw [hy368];with_reducible exact H) | (have H2_:=(Option.bind_some _ _).symm.trans H;rw [hy368];with_reducible exact H2_) | (have H2_:=(Option.bind_some _ _).symm.trans H;with_reducible exact H2_) | with_reducible exact H | (rw [hy368];exact H) | exact H
           have Ny368:=qm hy368
           clear hy368
           by_cases c31 : y368.length < 140737488355328
           ·rw [if_pos c31] at H
            have LMc31:=qm c31
            clear c31
            obtain ⟨y371,hy371⟩ : ∃ y_ : List Int,y_ = (y368 ++ [(a2) % 256]):=⟨_,rfl⟩
            replace H : ((unblock_Get.f kj14 l0 y371).bind fun bt374 => ((tachographlaw15_fixed.f kj14).bind fun t378 => (if t378 = true then (if t354 = 0 then ((tachographref12_Same.f kj14 t353 l1).bind fun t379 => (if t379 = true then (if t362 = 0 then (some false) else (if bt374.2 = 4 then (some ((wrap64 ((t361.length : Int) + (bt374.1.length : Int))) == 0)) else (some false))) else (some false))) else (some false)) else (some false)))) = some r:=by first | (rw [hy371];with_reducible exact H) | (have H2_:=(Option.bind_some _ _).symm.trans H;rw [hy371];with_reducible exact H2_) | (have H2_:=(Option.bind_some _ _).symm.trans H;with_reducible exact H2_) | with_reducible exact H | (rw [hy371];exact H) | exact H
            have Ny371:=qm hy371
            clear hy371
            replace H:=obq.mp H
            obtain ⟨⟨t374,t375⟩,A320,H⟩:=H
            replace H : ((tachographlaw15_fixed.f kj14).bind fun t378 => (if t378 = true then (if t354 = 0 then ((tachographref12_Same.f kj14 t353 l1).bind fun t379 => (if t379 = true then (if t362 = 0 then (some false) else (if t375 = 4 then (some ((wrap64 ((t361.length : Int) + (t374.length : Int))) == 0)) else (some false))) else (some false))) else (some false)) else (some false))) = some r:=H
            have A32:=qm A320
            clear A320
            replace H:=obq.mp H
            obtain ⟨t378,A330,H⟩:=H
            replace H : (if t378 = true then (if t354 = 0 then ((tachographref12_Same.f kj14 t353 l1).bind fun t379 => (if t379 = true then (if t362 = 0 then (some false) else (if t375 = 4 then (some ((wrap64 ((t361.length : Int) + (t374.length : Int))) == 0)) else (some false))) else (some false))) else (some false)) else (some false)) = some r:=H
            have A33:=qm A330
            clear A330
            obtain ⟨Ao39,co39,eo39⟩:=Kd.R_slice HO_7.out
            subst eo39
            go_wp2_with (first | ((with_reducible refine gcq (f:=11) rfl ?_);refine glq (some 43) rfl rfl Try.func11 (by kernel_rfl) rfl #[.slice A0 l0.length c0,.slice Ao39 t348.length co39] rfl (by (try simp only [l3q,l4q,l5q]);first | done | rfl | (simp only [l1q,l2q];rfl)) ?_;(with_reducible refine (unblock_Get.calls kj14 _ _ l0 _ _ t348 t353 t354 _ ?side1 ?side2 ?side3 ?side4 A24.out).mono ?_);(case side1 => repeat (first | exact (Kd.C_below HR0.out HB.out) | (with_reducible first | refine caq ?_ _ | refine cnq ?_ _ | refine cdq ?_)));(case side2 => exact HC0.out);(case side3 => repeat (first | exact (Kd.R_reads' HO_7.out).2.2 | (with_reducible first | refine caq ?_ _ | refine cnq ?_ _ | refine cdq ?_)));(case side4 => exact (Kd.R_reads' HO_7.out).2.1);rintro e w40 ⟨v355,rfl,ho0,hb⟩;refine ⟨_,rfl,?_⟩;have n0_:=qm (Kd.R_below (by (with_reducible repeat (first | apply raq | apply rnq | apply rdq));exact HO_7.out) hb);have n1_:=qm (Kd.R_lower ho0 (qs (by repeat (first | (with_reducible first | exact HB.out | apply qa | apply qn | apply qd) | exact HB.out))));have n2_:=qm (qt (by repeat (first | (with_reducible first | exact HB.out | apply qa | apply qn | apply qd) | exact HB.out)) hb);clear HO_7;clear HB;have HO_7:=n0_;have HO356:=n1_;have HB:=n2_;clear n0_ n1_ n2_;(try clear hb);(try clear hb2);(try clear hk);(try clear hi);(try clear ho0);have q41 : ((ji26) : Int) ≤ ((t348.length : Int) : Int):=dq_ (by first | (with_reducible assumption) | assumption);obtain ⟨i041,hi041,_,hsz41,_⟩:=info_parts info5;have hroom41 : t348.length ≤ co39:=(Kd.R_reads' HO_7.out).2.1;have hC41 : Kd.C (Kd.int .u8) _ Ao39 t348.length t348:=(Kd.R_reads' HO_7.out).2.2;have hcut41:=cut_to (P:=Try.prog) 28 5 .i64 Try.underlying28 hi041 Ao39 t348.length co39 (ji26) (dq_ (by first | (with_reducible assumption) | assumption)) q41 hroom41;have hr41:=Kd.C_take (m:=((ji26) : Int).toNat) hC41 (by omega);have hy41 : y357.length = ((ji26) : Int).toNat:=(by rw [Ny357.out,l2q];omega);rw [← Ny357.out] at hr41;rw [← hy41] at hcut41;have HR360:=qm hr41;have HC360:=qm (show y357.length ≤ co39 from by omega);clear hr41 hC41 hroom41 hi041 hsz41;have KY41:=qm hy41;clear hy41;have KL41:=qm (show ((ji26) : Int).toNat ≤ t348.length from by omega);replace q41:=eq_true q41) | ((with_reducible refine gcq (f:=11) rfl ?_);refine glq (some 55) rfl rfl Try.func11 (by kernel_rfl) rfl #[.slice A0 l0.length c0,.slice Ao39 y357.length co39] rfl (by (try simp only [l3q,l4q,l5q]);first | done | rfl | (simp only [l1q,l2q];rfl)) ?_;(with_reducible refine (unblock_Get.calls kj14 _ _ l0 _ _ y357 t361 t362 _ ?side1 ?side2 ?side3 ?side4 A29.out).mono ?_);(case side1 => repeat (first | exact (Kd.C_below HR0.out HB.out) | (with_reducible first | refine caq ?_ _ | refine cnq ?_ _ | refine cdq ?_)));(case side2 => exact HC0.out);(case side3 => repeat (first | exact (by repeat (first | (with_reducible exact HR360.out) | (with_reducible first | refine caq ?_ _ | refine cnq ?_ _ | refine cdq ?_) | exact HR360.out)) | (with_reducible first | refine caq ?_ _ | refine cnq ?_ _ | refine cdq ?_)));(case side4 => exact HC360.out);rintro e w42 ⟨v363,rfl,ho0,hb⟩;refine ⟨_,rfl,?_⟩;have n0_:=qm (Kd.R_below (by (with_reducible repeat (first | apply raq | apply rnq | apply rdq));exact HO_7.out) hb);have n1_:=qm (Kd.R_elder' (by (with_reducible repeat (first | apply raq | apply rnq | apply rdq));exact HO356.out) (Kd.R_base ho0) hb);have n2_:=qm (Kd.R_lower (Kd.R_new' ho0 (Kd.R_lt (by (with_reducible repeat (first | apply raq | apply rnq | apply rdq));exact HO356.out))) (qs (by repeat (first | (with_reducible first | exact HB.out | apply qa | apply qn | apply qd) | exact HB.out))));have n3_:=qm (Kd.C_below (by repeat (first | (with_reducible exact HR360.out) | (with_reducible first | refine caq ?_ _ | refine cnq ?_ _ | refine cdq ?_) | exact HR360.out)) hb);have n4_:=qm (qt (by repeat (first | (with_reducible first | exact HB.out | apply qa | apply qn | apply qd) | exact HB.out)) hb);clear HO_7;clear HO356;clear HR360;clear HB;have HO_7:=n0_;have HO356:=n1_;have HO364:=n2_;have HR360:=n3_;have HB:=n4_;clear n0_ n1_ n2_ n3_ n4_;(try clear hb);(try clear hb2);(try clear hk);(try clear hi);(try clear ho0)) | ((with_reducible refine gdq (N:=60) rfl ?_);(try (refine gate_guard (by rfl) ?_;dsimp only));refine Kd.R_lit (Kd.int .u8) _ 5 ?hg (N:=60) ?hd (xs:=([] : List Int)) (inner:=[]) (ok:=fun _ => True) (okp:=fun _ => True) ?hr ?hp (fun _ hk => hk) trivial (Below.refl _ _) (Nat.le_refl _) (by simp) ?_;(case hd => rfl);(case hg => rfl);(case hr => first | (go_simp;done) | (go_simp;rfl));(case hp => exact (Reps.none _ _));intro v366 w43 ho44 hb hg_ hnew_;clear hg_ hnew_;(first | rw [← Ny365.out] at ho44 | (simp only [Int.reduceToNat] at ho44;rw [← Ny365.out] at ho44));have n0_:=qm (Kd.R_elder' (by (with_reducible repeat (first | apply raq | apply rnq | apply rdq));exact HO_7.out) (Kd.R_base ho44) hb);have n1_:=qm (Kd.R_below (by (with_reducible repeat (first | apply raq | apply rnq | apply rdq));exact HO356.out) hb);have n2_:=qm (Kd.R_below (by (with_reducible repeat (first | apply raq | apply rnq | apply rdq));exact HO364.out) hb);have n3_:=qm (Kd.R_lower (Kd.R_new' ho44 (Kd.R_lt (by (with_reducible repeat (first | apply raq | apply rnq | apply rdq));exact HO_7.out))) (qs (by repeat (first | (with_reducible first | exact HB.out | apply qa | apply qn | apply qd) | exact HB.out))));have n4_:=qm (Kd.C_below (by repeat (first | (with_reducible exact HR360.out) | (with_reducible first | refine caq ?_ _ | refine cnq ?_ _ | refine cdq ?_) | exact HR360.out)) hb);have n5_:=qm (qt (by repeat (first | (with_reducible first | exact HB.out | apply qa | apply qn | apply qd) | exact HB.out)) hb);clear HO_7;clear HO356;clear HO364;clear HR360;clear HB;have HO_7:=n0_;have HO356:=n1_;have HO364:=n2_;have HO367:=n3_;have HR360:=n4_;have HB:=n5_;clear n0_ n1_ n2_ n3_ n4_ n5_;clear hb ho44) | ((with_reducible refine gate_builtin (b:=.append) (xs:=#[.tmp 60,.tmp 61]) rfl ?_);(try (refine gate_guard (by rfl) ?_;dsimp only));at_builtin;refine Kd.R_append_rows (Kd.int .u8) (w0:=w) w.heap.size rfl (.tmp 60) (.tmp 61) 28 5 (.int .u8 0) 1 rfl Try.underlying28 info5 rfl (by decide) (by omega) v366 y365 t348 _ _ _ (fun k_ => some k_ ≠ (.slice Ao39 t348.length co39 : Value).ownBlock) (fun _ => False) rfl rfl ?aO ?aR (fun _ _ h => h) (fun _ h => h.elim) ?aF ?aB ?aS ?aL ?_;(case aR => repeat (first | exact (Kd.R_reads' HO_7.out).2.2 | (with_reducible first | refine caq ?_ _ | refine cnq ?_ _ | refine cdq ?_)));(case aB => exact (by repeat (first | (with_reducible first | exact HB.out | apply qa | apply qn | apply qd) | exact HB.out)));(case aF => exact (fun k_ hk => Kd.fresh' (Kd.R_lt (by (with_reducible repeat (first | apply raq | apply rnq | apply rdq));exact HO_7.out)) k_ hk));(case aO => exact (by (with_reducible repeat (first | apply raq | apply rnq | apply rdq));exact Kd.R_mono HO367.out (fun _ hk => hk.2)));(case aS => exact (qs (by repeat (first | (with_reducible first | exact HB.out | apply qa | apply qn | apply qd) | exact HB.out))));(case aL => have:=LMc30.out;omega);intro v369 w45 ho hb hg hat;rw [← Ny368.out] at ho;have n0_:=qm (Kd.R_after (ok:=(fun _ => True)) (by (with_reducible repeat (first | apply raq | apply rnq | apply rdq));exact HO_7.out) hg hat);have n1_:=qm (Kd.R_over' (by (with_reducible repeat (first | apply raq | apply rnq | apply rdq));exact HO356.out) (Kd.R_typed (by (with_reducible repeat (first | apply raq | apply rnq | apply rdq));exact HO367.out)) (by decide) hg);have n2_:=qm (Kd.R_over' (by (with_reducible repeat (first | apply raq | apply rnq | apply rdq));exact HO364.out) (Kd.R_typed (by (with_reducible repeat (first | apply raq | apply rnq | apply rdq));exact HO367.out)) (by decide) hg);have n3_:=qm (hb);have n4_:=qm ((show Kd.C (Kd.int .u8) w45 Ao39 y357.length y357 from by rw [Ny357.out];exact Kd.C_take (m:=((ji26) : Int).toNat) ((Kd.R_reads' (Kd.R_after (ok:=(fun _ => True)) (by (with_reducible repeat (first | apply raq | apply rnq | apply rdq));exact HO_7.out) hg hat)).2.2) KL41.out));have n5_:=qm (ho);clear HO_7;clear HO356;clear HO364;clear HB;clear HR360;clear HO367;have HO_7:=n0_;have HO356:=n1_;have HO364:=n2_;have HB:=n3_;have HR360:=n4_;have HO370:=n5_;clear n0_ n1_ n2_ n3_ n4_ n5_;clear ho hb hg hat) | ((with_reducible refine gate_builtin (b:=.append) (xs:=#[.tmp 62,.tmp 65]) rfl ?_);(try (refine gate_guard (by rfl) ?_;dsimp only));at_builtin;refine Kd.R_append (Kd.int .u8) (w0:=w) w.heap.size rfl (.tmp 62) (.tmp 65) 28 5 (.int .u8 0) 1 rfl Try.underlying28 info5 rfl (by decide) (by omega) v369 y368 ((a2) % 256) [.int .u8 ((a2) % 256)] (fun k_ => some k_ ≠ (.slice Ao39 t348.length co39 : Value).ownBlock) (fun _ => False) rfl rfl ?aP (fun _ hk => hk.elim) ?aF ?aO ?aB ?aS ?aL ?_;(case aP => exact rfl);(case aB => exact (by repeat (first | (with_reducible first | exact HB.out | apply qa | apply qn | apply qd) | exact HB.out)));(case aF => exact (fun k_ hk => Kd.fresh' (Kd.R_lt (by (with_reducible repeat (first | apply raq | apply rnq | apply rdq));exact HO_7.out)) k_ hk));(case aO => exact (by (with_reducible repeat (first | apply raq | apply rnq | apply rdq));exact HO370.out));(case aS => exact (qs (by repeat (first | (with_reducible first | exact HB.out | apply qa | apply qn | apply qd) | exact HB.out))));(case aL => have:=LMc31.out;omega);intro v372 w46 ho hb hg hat;rw [← Ny371.out] at ho;have n0_:=qm (Kd.R_after (ok:=(fun _ => True)) (by (with_reducible repeat (first | apply raq | apply rnq | apply rdq));exact HO_7.out) hg hat);have n1_:=qm (Kd.R_over' (by (with_reducible repeat (first | apply raq | apply rnq | apply rdq));exact HO356.out) (Kd.R_typed (by (with_reducible repeat (first | apply raq | apply rnq | apply rdq));exact HO370.out)) (by decide) hg);have n2_:=qm (Kd.R_over' (by (with_reducible repeat (first | apply raq | apply rnq | apply rdq));exact HO364.out) (Kd.R_typed (by (with_reducible repeat (first | apply raq | apply rnq | apply rdq));exact HO370.out)) (by decide) hg);have n3_:=qm (hb);have n4_:=qm ((show Kd.C (Kd.int .u8) w46 Ao39 y357.length y357 from by rw [Ny357.out];exact Kd.C_take (m:=((ji26) : Int).toNat) ((Kd.R_reads' (Kd.R_after (ok:=(fun _ => True)) (by (with_reducible repeat (first | apply raq | apply rnq | apply rdq));exact HO_7.out) hg hat)).2.2) KL41.out));have n5_:=qm (ho);clear HO_7;clear HO356;clear HO364;clear HB;clear HR360;clear HO370;have HO_7:=n0_;have HO356:=n1_;have HO364:=n2_;have HB:=n3_;have HR360:=n4_;have HO373:=n5_;clear n0_ n1_ n2_ n3_ n4_ n5_;clear ho hb hg hat;obtain ⟨Ao47,co47,eo47⟩:=Kd.R_slice HO373.out;subst eo47) | ((with_reducible refine gcq (f:=11) rfl ?_);refine glq (some 67) rfl rfl Try.func11 (by kernel_rfl) rfl #[.slice A0 l0.length c0,.slice Ao47 y371.length co47] rfl (by (try simp only [l3q,l4q,l5q]);first | done | rfl | (simp only [l1q,l2q];rfl)) ?_;(with_reducible refine (unblock_Get.calls kj14 _ _ l0 _ _ y371 t374 t375 _ ?side1 ?side2 ?side3 ?side4 A32.out).mono ?_);(case side1 => repeat (first | exact (Kd.C_below HR0.out HB.out) | (with_reducible first | refine caq ?_ _ | refine cnq ?_ _ | refine cdq ?_)));(case side2 => exact HC0.out);(case side3 => repeat (first | exact (Kd.R_reads' HO373.out).2.2 | (with_reducible first | refine caq ?_ _ | refine cnq ?_ _ | refine cdq ?_)));(case side4 => exact (Kd.R_reads' HO373.out).2.1);rintro e w48 ⟨v376,rfl,ho0,hb⟩;refine ⟨_,rfl,?_⟩;have n0_:=qm (Kd.R_below (by (with_reducible repeat (first | apply raq | apply rnq | apply rdq));exact HO_7.out) hb);have n1_:=qm (Kd.R_elder' (by (with_reducible repeat (first | apply raq | apply rnq | apply rdq));exact HO356.out) (Kd.R_base ho0) hb);have n2_:=qm (Kd.R_elder' (by (with_reducible repeat (first | apply raq | apply rnq | apply rdq));exact HO364.out) (Kd.R_base ho0) hb);have n3_:=qm (Kd.R_below (by (with_reducible repeat (first | apply raq | apply rnq | apply rdq));exact HO373.out) hb);have n4_:=qm (Kd.R_lower (Kd.R_new' (Kd.R_new' ho0 (Kd.R_lt (by (with_reducible repeat (first | apply raq | apply rnq | apply rdq));exact HO356.out))) (Kd.R_lt (by (with_reducible repeat (first | apply raq | apply rnq | apply rdq));exact HO364.out))) (qs (by repeat (first | (with_reducible first | exact HB.out | apply qa | apply qn | apply qd) | exact HB.out))));have n5_:=qm (Kd.C_below (by repeat (first | (with_reducible exact HR360.out) | (with_reducible first | refine caq ?_ _ | refine cnq ?_ _ | refine cdq ?_) | exact HR360.out)) hb);have n6_:=qm (qt (by repeat (first | (with_reducible first | exact HB.out | apply qa | apply qn | apply qd) | exact HB.out)) hb);clear HO_7;clear HO356;clear HO364;clear HO373;clear HR360;clear HB;have HO_7:=n0_;have HO356:=n1_;have HO364:=n2_;have HO373:=n3_;have HO377:=n4_;have HR360:=n5_;have HB:=n6_;clear n0_ n1_ n2_ n3_ n4_ n5_ n6_;(try clear hb);(try clear hb2);(try clear hk);(try clear hi);(try clear ho0)))
            by_cases c34 : t378 = true
            ·subst c34
             have H1 : (if t354 = 0 then ((tachographref12_Same.f kj14 t353 l1).bind fun t379 => (if t379 = true then (if t362 = 0 then (some false) else (if t375 = 4 then (some ((wrap64 ((t361.length : Int) + (t374.length : Int))) == 0)) else (some false))) else (some false))) else (some false)) = some r:=by rw [if_pos rfl] at H;exact H
             clear H
             have H:=H1
             clear H1
             by_cases c35 : t354 = 0
             ·rw [if_pos c35] at H
              have c35b0 : (t354 == 0) = true:=beq_iff_eq.mpr c35
              have c35b1 : (t354 != 0) = false:=b2q.mpr c35
              clear c35
              replace H:=obq.mp H
              obtain ⟨t379,A360,H⟩:=H
              replace H : (if t379 = true then (if t362 = 0 then (some false) else (if t375 = 4 then (some ((wrap64 ((t361.length : Int) + (t374.length : Int))) == 0)) else (some false))) else (some false)) = some r:=H
              have A36:=qm A360
              clear A360
              by_cases c37 : t379 = true
              ·subst c37
               have H1 : (if t362 = 0 then (some false) else (if t375 = 4 then (some ((wrap64 ((t361.length : Int) + (t374.length : Int))) == 0)) else (some false))) = some r:=by rw [if_pos rfl] at H;exact H
               clear H
               have H:=H1
               clear H1
               by_cases c38 : t362 = 0
               ·rw [if_pos c38] at H
                have c38b0 : (t362 == 0) = true:=beq_iff_eq.mpr c38
                have c38b1 : (t362 != 0) = false:=b2q.mpr c38
                clear c38
                obtain rfl:=oiq H
                go_wp2_with (first | (go_at_call 9;(with_reducible refine (tachographlaw15_fixed.calls kj14  true _ A33.out).mono ?_);rintro e w49 ⟨rfl,hb⟩;have n0_:=qm (Kd.R_below (by (with_reducible repeat (first | apply raq | apply rnq | apply rdq));exact HO_7.out) hb);have n1_:=qm (Kd.R_below (by (with_reducible repeat (first | apply raq | apply rnq | apply rdq));exact HO356.out) hb);have n2_:=qm (Kd.R_below (by (with_reducible repeat (first | apply raq | apply rnq | apply rdq));exact HO364.out) hb);have n3_:=qm (Kd.R_below (by (with_reducible repeat (first | apply raq | apply rnq | apply rdq));exact HO373.out) hb);have n4_:=qm (Kd.R_below (by (with_reducible repeat (first | apply raq | apply rnq | apply rdq));exact HO377.out) hb);have n5_:=qm (Kd.C_below (by repeat (first | (with_reducible exact HR360.out) | (with_reducible first | refine caq ?_ _ | refine cnq ?_ _ | refine cdq ?_) | exact HR360.out)) hb);have n6_:=qm (qt (by repeat (first | (with_reducible first | exact HB.out | apply qa | apply qn | apply qd) | exact HB.out)) hb);clear HO_7;clear HO356;clear HO364;clear HO373;clear HO377;clear HR360;clear HB;have HO_7:=n0_;have HO356:=n1_;have HO364:=n2_;have HO373:=n3_;have HO377:=n4_;have HR360:=n5_;have HB:=n6_;clear n0_ n1_ n2_ n3_ n4_ n5_ n6_;(try clear hb);(try clear hb2);(try clear hk);(try clear hi);obtain ⟨Ao50,co50,eo50⟩:=Kd.R_slice HO356.out;subst eo50) | (go_at_call 12;(with_reducible refine (tachographref12_Same.calls kj14 _ _ t353 _ _ l1 true _ ?side1 ?side2 ?side3 ?side4 A36.out).mono ?_);(case side1 => repeat (first | exact (Kd.R_reads' HO356.out).2.2 | (with_reducible first | refine caq ?_ _ | refine cnq ?_ _ | refine cdq ?_)));(case side2 => exact (Kd.R_reads' HO356.out).2.1);(case side3 => repeat (first | exact (Kd.C_below HR1.out HB.out) | (with_reducible first | refine caq ?_ _ | refine cnq ?_ _ | refine cdq ?_)));(case side4 => exact HC1.out);rintro e w51 ⟨rfl,hb⟩;have n0_:=qm (Kd.R_below (by (with_reducible repeat (first | apply raq | apply rnq | apply rdq));exact HO_7.out) hb);have n1_:=qm (Kd.R_below (by (with_reducible repeat (first | apply raq | apply rnq | apply rdq));exact HO356.out) hb);have n2_:=qm (Kd.R_below (by (with_reducible repeat (first | apply raq | apply rnq | apply rdq));exact HO364.out) hb);have n3_:=qm (Kd.R_below (by (with_reducible repeat (first | apply raq | apply rnq | apply rdq));exact HO373.out) hb);have n4_:=qm (Kd.R_below (by (with_reducible repeat (first | apply raq | apply rnq | apply rdq));exact HO377.out) hb);have n5_:=qm (Kd.C_below (by repeat (first | (with_reducible exact HR360.out) | (with_reducible first | refine caq ?_ _ | refine cnq ?_ _ | refine cdq ?_) | exact HR360.out)) hb);have n6_:=qm (qt (by repeat (first | (with_reducible first | exact HB.out | apply qa | apply qn | apply qd) | exact HB.out)) hb);clear HO_7;clear HO356;clear HO364;clear HO373;clear HO377;clear HR360;clear HB;have HO_7:=n0_;have HO356:=n1_;have HO364:=n2_;have HO373:=n3_;have HO377:=n4_;have HR360:=n5_;have HB:=n6_;clear n0_ n1_ n2_ n3_ n4_ n5_ n6_;(try clear hb);(try clear hb2);(try clear hk);(try clear hi)))
                go_ret
                exact ⟨by first | rfl | (simp [errW_none,errW_some] <;> rfl) | (simp only [← hji26];first | rfl | (simp [errW_none,errW_some] <;> rfl)) | (simp [*,errW_none,errW_some] <;> rfl),by repeat (first | (with_reducible first | exact HB.out | apply qa | apply qn | apply qd) | exact HB.out)⟩
               ·rw [if_neg c38] at H
                have c38b0 : (t362 == 0) = false:=b1q.mpr c38
                have c38b1 : (t362 != 0) = true:=bne_iff_ne.mpr c38
                by_cases c52 : t375 = 4
                ·rw [if_pos c52] at H
                 have c52b0 : (t375 == 4) = true:=beq_iff_eq.mpr c52
                 have c52b1 : (t375 != 4) = false:=b2q.mpr c52
                 clear c52
                 obtain rfl:=oiq H
                 go_wp2_with (first | (go_at_call 9;(with_reducible refine (tachographlaw15_fixed.calls kj14  true _ A33.out).mono ?_);rintro e w63 ⟨rfl,hb⟩;have n0_:=qm (Kd.R_below (by (with_reducible repeat (first | apply raq | apply rnq | apply rdq));exact HO_7.out) hb);have n1_:=qm (Kd.R_below (by (with_reducible repeat (first | apply raq | apply rnq | apply rdq));exact HO356.out) hb);have n2_:=qm (Kd.R_below (by (with_reducible repeat (first | apply raq | apply rnq | apply rdq));exact HO364.out) hb);have n3_:=qm (Kd.R_below (by (with_reducible repeat (first | apply raq | apply rnq | apply rdq));exact HO373.out) hb);have n4_:=qm (Kd.R_below (by (with_reducible repeat (first | apply raq | apply rnq | apply rdq));exact HO377.out) hb);have n5_:=qm (Kd.C_below (by repeat (first | (with_reducible exact HR360.out) | (with_reducible first | refine caq ?_ _ | refine cnq ?_ _ | refine cdq ?_) | exact HR360.out)) hb);have n6_:=qm (qt (by repeat (first | (with_reducible first | exact HB.out | apply qa | apply qn | apply qd) | exact HB.out)) hb);clear HO_7;clear HO356;clear HO364;clear HO373;clear HO377;clear HR360;clear HB;have HO_7:=n0_;have HO356:=n1_;have HO364:=n2_;have HO373:=n3_;have HO377:=n4_;have HR360:=n5_;have HB:=n6_;clear n0_ n1_ n2_ n3_ n4_ n5_ n6_;(try clear hb);(try clear hb2);(try clear hk);(try clear hi);obtain ⟨Ao64,co64,eo64⟩:=Kd.R_slice HO356.out;subst eo64) | (go_at_call 12;(with_reducible refine (tachographref12_Same.calls kj14 _ _ t353 _ _ l1 true _ ?side1 ?side2 ?side3 ?side4 A36.out).mono ?_);(case side1 => repeat (first | exact (Kd.R_reads' HO356.out).2.2 | (with_reducible first | refine caq ?_ _ | refine cnq ?_ _ | refine cdq ?_)));(case side2 => exact (Kd.R_reads' HO356.out).2.1);(case side3 => repeat (first | exact (Kd.C_below HR1.out HB.out) | (with_reducible first | refine caq ?_ _ | refine cnq ?_ _ | refine cdq ?_)));(case side4 => exact HC1.out);rintro e w65 ⟨rfl,hb⟩;have n0_:=qm (Kd.R_below (by (with_reducible repeat (first | apply raq | apply rnq | apply rdq));exact HO_7.out) hb);have n1_:=qm (Kd.R_below (by (with_reducible repeat (first | apply raq | apply rnq | apply rdq));exact HO356.out) hb);have n2_:=qm (Kd.R_below (by (with_reducible repeat (first | apply raq | apply rnq | apply rdq));exact HO364.out) hb);have n3_:=qm (Kd.R_below (by (with_reducible repeat (first | apply raq | apply rnq | apply rdq));exact HO373.out) hb);have n4_:=qm (Kd.R_below (by (with_reducible repeat (first | apply raq | apply rnq | apply rdq));exact HO377.out) hb);have n5_:=qm (Kd.C_below (by repeat (first | (with_reducible exact HR360.out) | (with_reducible first | refine caq ?_ _ | refine cnq ?_ _ | refine cdq ?_) | exact HR360.out)) hb);have n6_:=qm (qt (by repeat (first | (with_reducible first | exact HB.out | apply qa | apply qn | apply qd) | exact HB.out)) hb);clear HO_7;clear HO356;clear HO364;clear HO373;clear HO377;clear HR360;clear HB;have HO_7:=n0_;have HO356:=n1_;have HO364:=n2_;have HO373:=n3_;have HO377:=n4_;have HR360:=n5_;have HB:=n6_;clear n0_ n1_ n2_ n3_ n4_ n5_ n6_;(try clear hb);(try clear hb2);(try clear hk);(try clear hi);obtain ⟨Ao66,co66,eo66⟩:=Kd.R_slice HO364.out;subst eo66;obtain ⟨Ao67,co67,eo67⟩:=Kd.R_slice HO377.out;subst eo67))
                 go_ret
                 exact ⟨by first | rfl | (simp [errW_none,errW_some] <;> rfl) | (simp only [← hji26];first | rfl | (simp [errW_none,errW_some] <;> rfl)) | (simp [*,errW_none,errW_some] <;> rfl),by repeat (first | (with_reducible first | exact HB.out | apply qa | apply qn | apply qd) | exact HB.out)⟩
                ·rw [if_neg c52] at H
                 have c52b0 : (t375 == 4) = false:=b1q.mpr c52
                 have c52b1 : (t375 != 4) = true:=bne_iff_ne.mpr c52
                 obtain rfl:=oiq H
                 go_wp2_with (first | (go_at_call 9;(with_reducible refine (tachographlaw15_fixed.calls kj14  true _ A33.out).mono ?_);rintro e w78 ⟨rfl,hb⟩;have n0_:=qm (Kd.R_below (by (with_reducible repeat (first | apply raq | apply rnq | apply rdq));exact HO_7.out) hb);have n1_:=qm (Kd.R_below (by (with_reducible repeat (first | apply raq | apply rnq | apply rdq));exact HO356.out) hb);have n2_:=qm (Kd.R_below (by (with_reducible repeat (first | apply raq | apply rnq | apply rdq));exact HO364.out) hb);have n3_:=qm (Kd.R_below (by (with_reducible repeat (first | apply raq | apply rnq | apply rdq));exact HO373.out) hb);have n4_:=qm (Kd.R_below (by (with_reducible repeat (first | apply raq | apply rnq | apply rdq));exact HO377.out) hb);have n5_:=qm (Kd.C_below (by repeat (first | (with_reducible exact HR360.out) | (with_reducible first | refine caq ?_ _ | refine cnq ?_ _ | refine cdq ?_) | exact HR360.out)) hb);have n6_:=qm (qt (by repeat (first | (with_reducible first | exact HB.out | apply qa | apply qn | apply qd) | exact HB.out)) hb);clear HO_7;clear HO356;clear HO364;clear HO373;clear HO377;clear HR360;clear HB;have HO_7:=n0_;have HO356:=n1_;have HO364:=n2_;have HO373:=n3_;have HO377:=n4_;have HR360:=n5_;have HB:=n6_;clear n0_ n1_ n2_ n3_ n4_ n5_ n6_;(try clear hb);(try clear hb2);(try clear hk);(try clear hi);obtain ⟨Ao79,co79,eo79⟩:=Kd.R_slice HO356.out;subst eo79) | (go_at_call 12;(with_reducible refine (tachographref12_Same.calls kj14 _ _ t353 _ _ l1 true _ ?side1 ?side2 ?side3 ?side4 A36.out).mono ?_);(case side1 => repeat (first | exact (Kd.R_reads' HO356.out).2.2 | (with_reducible first | refine caq ?_ _ | refine cnq ?_ _ | refine cdq ?_)));(case side2 => exact (Kd.R_reads' HO356.out).2.1);(case side3 => repeat (first | exact (Kd.C_below HR1.out HB.out) | (with_reducible first | refine caq ?_ _ | refine cnq ?_ _ | refine cdq ?_)));(case side4 => exact HC1.out);rintro e w80 ⟨rfl,hb⟩;have n0_:=qm (Kd.R_below (by (with_reducible repeat (first | apply raq | apply rnq | apply rdq));exact HO_7.out) hb);have n1_:=qm (Kd.R_below (by (with_reducible repeat (first | apply raq | apply rnq | apply rdq));exact HO356.out) hb);have n2_:=qm (Kd.R_below (by (with_reducible repeat (first | apply raq | apply rnq | apply rdq));exact HO364.out) hb);have n3_:=qm (Kd.R_below (by (with_reducible repeat (first | apply raq | apply rnq | apply rdq));exact HO373.out) hb);have n4_:=qm (Kd.R_below (by (with_reducible repeat (first | apply raq | apply rnq | apply rdq));exact HO377.out) hb);have n5_:=qm (Kd.C_below (by repeat (first | (with_reducible exact HR360.out) | (with_reducible first | refine caq ?_ _ | refine cnq ?_ _ | refine cdq ?_) | exact HR360.out)) hb);have n6_:=qm (qt (by repeat (first | (with_reducible first | exact HB.out | apply qa | apply qn | apply qd) | exact HB.out)) hb);clear HO_7;clear HO356;clear HO364;clear HO373;clear HO377;clear HR360;clear HB;have HO_7:=n0_;have HO356:=n1_;have HO364:=n2_;have HO373:=n3_;have HO377:=n4_;have HR360:=n5_;have HB:=n6_;clear n0_ n1_ n2_ n3_ n4_ n5_ n6_;(try clear hb);(try clear hb2);(try clear hk);(try clear hi)))
                 go_ret
                 exact ⟨by first | rfl | (simp [errW_none,errW_some] <;> rfl) | (simp only [← hji26];first | rfl | (simp [errW_none,errW_some] <;> rfl)) | (simp [*,errW_none,errW_some] <;> rfl),by repeat (first | (with_reducible first | exact HB.out | apply qa | apply qn | apply qd) | exact HB.out)⟩
              ·replace c37:=Bool.eq_false_iff.mpr c37
               subst c37
               have H1 : (some false) = some r:=by rw [if_neg (show ¬ (false = true) by decide)] at H;exact H
               clear H
               have H:=H1
               clear H1
               obtain rfl:=oiq H
               go_wp2_with (first | (go_at_call 9;(with_reducible refine (tachographlaw15_fixed.calls kj14  true _ A33.out).mono ?_);rintro e w91 ⟨rfl,hb⟩;have n0_:=qm (Kd.R_below (by (with_reducible repeat (first | apply raq | apply rnq | apply rdq));exact HO_7.out) hb);have n1_:=qm (Kd.R_below (by (with_reducible repeat (first | apply raq | apply rnq | apply rdq));exact HO356.out) hb);have n2_:=qm (Kd.R_below (by (with_reducible repeat (first | apply raq | apply rnq | apply rdq));exact HO364.out) hb);have n3_:=qm (Kd.R_below (by (with_reducible repeat (first | apply raq | apply rnq | apply rdq));exact HO373.out) hb);have n4_:=qm (Kd.R_below (by (with_reducible repeat (first | apply raq | apply rnq | apply rdq));exact HO377.out) hb);have n5_:=qm (Kd.C_below (by repeat (first | (with_reducible exact HR360.out) | (with_reducible first | refine caq ?_ _ | refine cnq ?_ _ | refine cdq ?_) | exact HR360.out)) hb);have n6_:=qm (qt (by repeat (first | (with_reducible first | exact HB.out | apply qa | apply qn | apply qd) | exact HB.out)) hb);clear HO_7;clear HO356;clear HO364;clear HO373;clear HO377;clear HR360;clear HB;have HO_7:=n0_;have HO356:=n1_;have HO364:=n2_;have HO373:=n3_;have HO377:=n4_;have HR360:=n5_;have HB:=n6_;clear n0_ n1_ n2_ n3_ n4_ n5_ n6_;(try clear hb);(try clear hb2);(try clear hk);(try clear hi);obtain ⟨Ao92,co92,eo92⟩:=Kd.R_slice HO356.out;subst eo92) | (go_at_call 12;(with_reducible refine (tachographref12_Same.calls kj14 _ _ t353 _ _ l1 false _ ?side1 ?side2 ?side3 ?side4 A36.out).mono ?_);(case side1 => repeat (first | exact (Kd.R_reads' HO356.out).2.2 | (with_reducible first | refine caq ?_ _ | refine cnq ?_ _ | refine cdq ?_)));(case side2 => exact (Kd.R_reads' HO356.out).2.1);(case side3 => repeat (first | exact (Kd.C_below HR1.out HB.out) | (with_reducible first | refine caq ?_ _ | refine cnq ?_ _ | refine cdq ?_)));(case side4 => exact HC1.out);rintro e w93 ⟨rfl,hb⟩;have n0_:=qm (Kd.R_below (by (with_reducible repeat (first | apply raq | apply rnq | apply rdq));exact HO_7.out) hb);have n1_:=qm (Kd.R_below (by (with_reducible repeat (first | apply raq | apply rnq | apply rdq));exact HO356.out) hb);have n2_:=qm (Kd.R_below (by (with_reducible repeat (first | apply raq | apply rnq | apply rdq));exact HO364.out) hb);have n3_:=qm (Kd.R_below (by (with_reducible repeat (first | apply raq | apply rnq | apply rdq));exact HO373.out) hb);have n4_:=qm (Kd.R_below (by (with_reducible repeat (first | apply raq | apply rnq | apply rdq));exact HO377.out) hb);have n5_:=qm (Kd.C_below (by repeat (first | (with_reducible exact HR360.out) | (with_reducible first | refine caq ?_ _ | refine cnq ?_ _ | refine cdq ?_) | exact HR360.out)) hb);have n6_:=qm (qt (by repeat (first | (with_reducible first | exact HB.out | apply qa | apply qn | apply qd) | exact HB.out)) hb);clear HO_7;clear HO356;clear HO364;clear HO373;clear HO377;clear HR360;clear HB;have HO_7:=n0_;have HO356:=n1_;have HO364:=n2_;have HO373:=n3_;have HO377:=n4_;have HR360:=n5_;have HB:=n6_;clear n0_ n1_ n2_ n3_ n4_ n5_ n6_;(try clear hb);(try clear hb2);(try clear hk);(try clear hi)))
               go_ret
               exact ⟨by first | rfl | (simp [errW_none,errW_some] <;> rfl) | (simp only [← hji26];first | rfl | (simp [errW_none,errW_some] <;> rfl)) | (simp [*,errW_none,errW_some] <;> rfl),by repeat (first | (with_reducible first | exact HB.out | apply qa | apply qn | apply qd) | exact HB.out)⟩
             ·rw [if_neg c35] at H
              have c35b0 : (t354 == 0) = false:=b1q.mpr c35
              have c35b1 : (t354 != 0) = true:=bne_iff_ne.mpr c35
              obtain rfl:=oiq H
              go_wp2_with (first | (go_at_call 9;(with_reducible refine (tachographlaw15_fixed.calls kj14  true _ A33.out).mono ?_);rintro e w104 ⟨rfl,hb⟩;have n0_:=qm (Kd.R_below (by (with_reducible repeat (first | apply raq | apply rnq | apply rdq));exact HO_7.out) hb);have n1_:=qm (Kd.R_below (by (with_reducible repeat (first | apply raq | apply rnq | apply rdq));exact HO356.out) hb);have n2_:=qm (Kd.R_below (by (with_reducible repeat (first | apply raq | apply rnq | apply rdq));exact HO364.out) hb);have n3_:=qm (Kd.R_below (by (with_reducible repeat (first | apply raq | apply rnq | apply rdq));exact HO373.out) hb);have n4_:=qm (Kd.R_below (by (with_reducible repeat (first | apply raq | apply rnq | apply rdq));exact HO377.out) hb);have n5_:=qm (Kd.C_below (by repeat (first | (with_reducible exact HR360.out) | (with_reducible first | refine caq ?_ _ | refine cnq ?_ _ | refine cdq ?_) | exact HR360.out)) hb);have n6_:=qm (qt (by repeat (first | (with_reducible first | exact HB.out | apply qa | apply qn | apply qd) | exact HB.out)) hb);clear HO_7;clear HO356;clear HO364;clear HO373;clear HO377;clear HR360;clear HB;have HO_7:=n0_;have HO356:=n1_;have HO364:=n2_;have HO373:=n3_;have HO377:=n4_;have HR360:=n5_;have HB:=n6_;clear n0_ n1_ n2_ n3_ n4_ n5_ n6_;(try clear hb);(try clear hb2);(try clear hk);(try clear hi)))
              go_ret
              exact ⟨by first | rfl | (simp [errW_none,errW_some] <;> rfl) | (simp only [← hji26];first | rfl | (simp [errW_none,errW_some] <;> rfl)) | (simp [*,errW_none,errW_some] <;> rfl),by repeat (first | (with_reducible first | exact HB.out | apply qa | apply qn | apply qd) | exact HB.out)⟩
            ·replace c34:=Bool.eq_false_iff.mpr c34
             subst c34
             have H1 : (some false) = some r:=by rw [if_neg (show ¬ (false = true) by decide)] at H;exact H
             clear H
             have H:=H1
             clear H1
             obtain rfl:=oiq H
             go_wp2_with (first | (go_at_call 9;(with_reducible refine (tachographlaw15_fixed.calls kj14  false _ A33.out).mono ?_);rintro e w115 ⟨rfl,hb⟩;have n0_:=qm (Kd.R_below (by (with_reducible repeat (first | apply raq | apply rnq | apply rdq));exact HO_7.out) hb);have n1_:=qm (Kd.R_below (by (with_reducible repeat (first | apply raq | apply rnq | apply rdq));exact HO356.out) hb);have n2_:=qm (Kd.R_below (by (with_reducible repeat (first | apply raq | apply rnq | apply rdq));exact HO364.out) hb);have n3_:=qm (Kd.R_below (by (with_reducible repeat (first | apply raq | apply rnq | apply rdq));exact HO373.out) hb);have n4_:=qm (Kd.R_below (by (with_reducible repeat (first | apply raq | apply rnq | apply rdq));exact HO377.out) hb);have n5_:=qm (Kd.C_below (by repeat (first | (with_reducible exact HR360.out) | (with_reducible first | refine caq ?_ _ | refine cnq ?_ _ | refine cdq ?_) | exact HR360.out)) hb);have n6_:=qm (qt (by repeat (first | (with_reducible first | exact HB.out | apply qa | apply qn | apply qd) | exact HB.out)) hb);clear HO_7;clear HO356;clear HO364;clear HO373;clear HO377;clear HR360;clear HB;have HO_7:=n0_;have HO356:=n1_;have HO364:=n2_;have HO373:=n3_;have HO377:=n4_;have HR360:=n5_;have HB:=n6_;clear n0_ n1_ n2_ n3_ n4_ n5_ n6_;(try clear hb);(try clear hb2);(try clear hk);(try clear hi)))
             go_ret
             exact ⟨by first | rfl | (simp [errW_none,errW_some] <;> rfl) | (simp only [← hji26];first | rfl | (simp [errW_none,errW_some] <;> rfl)) | (simp [*,errW_none,errW_some] <;> rfl),by repeat (first | (with_reducible first | exact HB.out | apply qa | apply qn | apply qd) | exact HB.out)⟩
           ·rw [if_neg c31] at H
            exact absurd H (by simp)
          ·rw [if_neg c30] at H
           exact absurd H (by simp)
         ·rw [if_neg c28] at H
          exact absurd H (by simp)
        ·rw [if_neg c27] at H
         exact absurd H (by simp)

set_option maxRecDepth 100000 in
theorem tachographlaw15_UnblockBack.laid0 : Go.Proofs.YtmmfakdncjeoeaaOpen.Laid Try.prog 53 k53 (fun b_ : S53 => (Go.Proofs.YtmmfakdncjeoeaaOpen.pairOk Go.Proofs.YtmmfakdncjeoeaaOpen.strOk (Go.Proofs.YtmmfakdncjeoeaaOpen.sliceOk 8 (Go.Proofs.YtmmfakdncjeoeaaOpen.intOk .i64))) (b_.f0,b_.f1)):=(Go.Proofs.YtmmfakdncjeoeaaOpen.laid_iso (fun b_ : S53 => (b_.f0,b_.f1)) (fun p_ => ⟨p_.1,p_.2⟩) (fun _ => rfl) (Go.Proofs.YtmmfakdncjeoeaaOpen.laid_struct Try.underlying53 (by kernel_rfl) (Go.Proofs.YtmmfakdncjeoeaaOpen.laidF_cons (by rfl) (Go.Proofs.YtmmfakdncjeoeaaOpen.laid_string Try.underlying9 (by kernel_rfl)) (Go.Proofs.YtmmfakdncjeoeaaOpen.laidF_one (by rfl) (Go.Proofs.YtmmfakdncjeoeaaOpen.laid_slice 3 Try.underlying51 (by kernel_rfl) (by kernel_rfl) (Go.Proofs.YtmmfakdncjeoeaaOpen.laid_int Try.underlying3 (by kernel_rfl)))))))
set_option maxRecDepth 100000 in
theorem tachographlaw15_UnblockBack.laid1 : Go.Proofs.YtmmfakdncjeoeaaOpen.Laid Try.prog 56 k56 (fun b_ : S56 => (Go.Proofs.YtmmfakdncjeoeaaOpen.pairOk (Go.Proofs.YtmmfakdncjeoeaaOpen.intOk .u64) (Go.Proofs.YtmmfakdncjeoeaaOpen.sliceOk 32 (fun b_ : S59 => (Go.Proofs.YtmmfakdncjeoeaaOpen.pairOk (Go.Proofs.YtmmfakdncjeoeaaOpen.intOk .i64) (Go.Proofs.YtmmfakdncjeoeaaOpen.sliceOk 32 (fun b_ : S61 => (Go.Proofs.YtmmfakdncjeoeaaOpen.pairOk (Go.Proofs.YtmmfakdncjeoeaaOpen.intOk .i64) (Go.Proofs.YtmmfakdncjeoeaaOpen.pairOk (Go.Proofs.YtmmfakdncjeoeaaOpen.intOk .i64) Go.Proofs.YtmmfakdncjeoeaaOpen.strOk)) (b_.f0,b_.f1,b_.f2)))) (b_.f0,b_.f1)))) (b_.f0,b_.f1)):=(Go.Proofs.YtmmfakdncjeoeaaOpen.laid_iso (fun b_ : S56 => (b_.f0,b_.f1)) (fun p_ => ⟨p_.1,p_.2⟩) (fun _ => rfl) (Go.Proofs.YtmmfakdncjeoeaaOpen.laid_struct Try.underlying56 (by kernel_rfl) (Go.Proofs.YtmmfakdncjeoeaaOpen.laidF_cons (by rfl) (Go.Proofs.YtmmfakdncjeoeaaOpen.laid_int Try.underlying39 (by kernel_rfl)) (Go.Proofs.YtmmfakdncjeoeaaOpen.laidF_one (by rfl) (Go.Proofs.YtmmfakdncjeoeaaOpen.laid_slice 59 Try.underlying54 (by kernel_rfl) (by kernel_rfl) (Go.Proofs.YtmmfakdncjeoeaaOpen.laid_iso (fun b_ : S59 => (b_.f0,b_.f1)) (fun p_ => ⟨p_.1,p_.2⟩) (fun _ => rfl) (Go.Proofs.YtmmfakdncjeoeaaOpen.laid_struct Try.underlying59 (by kernel_rfl) (Go.Proofs.YtmmfakdncjeoeaaOpen.laidF_cons (by rfl) (Go.Proofs.YtmmfakdncjeoeaaOpen.laid_int Try.underlying3 (by kernel_rfl)) (Go.Proofs.YtmmfakdncjeoeaaOpen.laidF_one (by rfl) (Go.Proofs.YtmmfakdncjeoeaaOpen.laid_slice 61 Try.underlying57 (by kernel_rfl) (by kernel_rfl) (Go.Proofs.YtmmfakdncjeoeaaOpen.laid_iso (fun b_ : S61 => (b_.f0,b_.f1,b_.f2)) (fun p_ => ⟨p_.1,p_.2.1,p_.2.2⟩) (fun _ => rfl) (Go.Proofs.YtmmfakdncjeoeaaOpen.laid_struct Try.underlying61 (by kernel_rfl) (Go.Proofs.YtmmfakdncjeoeaaOpen.laidF_cons (by rfl) (Go.Proofs.YtmmfakdncjeoeaaOpen.laid_int Try.underlying3 (by kernel_rfl)) (Go.Proofs.YtmmfakdncjeoeaaOpen.laidF_cons (by rfl) (Go.Proofs.YtmmfakdncjeoeaaOpen.laid_int Try.underlying2 (by kernel_rfl)) (Go.Proofs.YtmmfakdncjeoeaaOpen.laidF_one (by rfl) (Go.Proofs.YtmmfakdncjeoeaaOpen.laid_string Try.underlying9 (by kernel_rfl)))))))))))))))))
/-- THE ONE PURE STATEMENT of tachographlaw15_UnblockBack: yours. -/
def tachographlaw15_UnblockBack.Pure : Prop:=∀ (l0 : List (S53)) (l1 : List (S56)) (a2 : Int),(Go.Proofs.YtmmfakdncjeoeaaOpen.sliceOk 40 (fun b_ : S53 => (Go.Proofs.YtmmfakdncjeoeaaOpen.pairOk Go.Proofs.YtmmfakdncjeoeaaOpen.strOk (Go.Proofs.YtmmfakdncjeoeaaOpen.sliceOk 8 (Go.Proofs.YtmmfakdncjeoeaaOpen.intOk .i64))) (b_.f0,b_.f1))) l0 → (Go.Proofs.YtmmfakdncjeoeaaOpen.sliceOk 32 (fun b_ : S56 => (Go.Proofs.YtmmfakdncjeoeaaOpen.pairOk (Go.Proofs.YtmmfakdncjeoeaaOpen.intOk .u64) (Go.Proofs.YtmmfakdncjeoeaaOpen.sliceOk 32 (fun b_ : S59 => (Go.Proofs.YtmmfakdncjeoeaaOpen.pairOk (Go.Proofs.YtmmfakdncjeoeaaOpen.intOk .i64) (Go.Proofs.YtmmfakdncjeoeaaOpen.sliceOk 32 (fun b_ : S61 => (Go.Proofs.YtmmfakdncjeoeaaOpen.pairOk (Go.Proofs.YtmmfakdncjeoeaaOpen.intOk .i64) (Go.Proofs.YtmmfakdncjeoeaaOpen.pairOk (Go.Proofs.YtmmfakdncjeoeaaOpen.intOk .i64) Go.Proofs.YtmmfakdncjeoeaaOpen.strOk)) (b_.f0,b_.f1,b_.f2)))) (b_.f0,b_.f1)))) (b_.f0,b_.f1))) l1 → (Lit.int .u16 a2).wf = true → ∃ k,tachographlaw15_UnblockBack.f k l0 l1 a2 = some true
theorem tachographlaw15_UnblockBack.walk (P : tachographlaw15_UnblockBack.Pure) (a0 : Option Addr) (cap0 : Nat) (l0 : List (S53)) (a1 : Option Addr) (cap1 : Nat) (l1 : List (S56)) (a2 : Int) (w : World) (w0 : (Go.Proofs.YtmmfakdncjeoeaaOpen.sliceOk 40 (fun b_ : S53 => (Go.Proofs.YtmmfakdncjeoeaaOpen.pairOk Go.Proofs.YtmmfakdncjeoeaaOpen.strOk (Go.Proofs.YtmmfakdncjeoeaaOpen.sliceOk 8 (Go.Proofs.YtmmfakdncjeoeaaOpen.intOk .i64))) (b_.f0,b_.f1))) l0) (e0 : l0.length ≤ cap0) (C0 : Kd.C k53 w a0 l0.length l0) (w1 : (Go.Proofs.YtmmfakdncjeoeaaOpen.sliceOk 32 (fun b_ : S56 => (Go.Proofs.YtmmfakdncjeoeaaOpen.pairOk (Go.Proofs.YtmmfakdncjeoeaaOpen.intOk .u64) (Go.Proofs.YtmmfakdncjeoeaaOpen.sliceOk 32 (fun b_ : S59 => (Go.Proofs.YtmmfakdncjeoeaaOpen.pairOk (Go.Proofs.YtmmfakdncjeoeaaOpen.intOk .i64) (Go.Proofs.YtmmfakdncjeoeaaOpen.sliceOk 32 (fun b_ : S61 => (Go.Proofs.YtmmfakdncjeoeaaOpen.pairOk (Go.Proofs.YtmmfakdncjeoeaaOpen.intOk .i64) (Go.Proofs.YtmmfakdncjeoeaaOpen.pairOk (Go.Proofs.YtmmfakdncjeoeaaOpen.intOk .i64) Go.Proofs.YtmmfakdncjeoeaaOpen.strOk)) (b_.f0,b_.f1,b_.f2)))) (b_.f0,b_.f1)))) (b_.f0,b_.f1))) l1) (e1 : l1.length ≤ cap1) (C1 : Kd.C k56 w a1 l1.length l1) (w2 : (Lit.int .u16 a2).wf = true) :
  Calls Try.prog 3 #[.slice a0 l0.length cap0,.slice a1 l1.length cap1,.int .u16 a2] w fun e w' => e = .returned (.bool true) ∧ Below w.heap.size w w':=by
 obtain ⟨k,h⟩:=P l0 l1 a2 w0 w1 w2
 refine (tachographlaw15_UnblockBack.calls k _ _ l0 _ _ l1 a2 true w C0 e0 C1 e1 h).mono ?_
 rintro e w' ⟨rfl,hd⟩
 exact ⟨rfl,hd⟩

end Go.Proofs.Ytmmfakdncjeoeaa.PU
