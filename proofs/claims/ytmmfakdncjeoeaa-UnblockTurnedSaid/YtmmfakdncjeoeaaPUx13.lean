-- Contracts of Go functions, each with its plain Lean function: written by wip/tools/myprint.py of this work (the kit's print, with contracts proved by hand spliced in).
import Derived.Test.YtmmfakdncjeoeaaPUx0
import Derived.Test.YtmmfakdncjeoeaaPUx2
import Derived.Test.YtmmfakdncjeoeaaPUx7
import Derived.Test.YtmmfakdncjeoeaaPUx11
import Derived.Test.YtmmfakdncjeoeaaPUx12
import Derived.Test.YtmmfakdncjeoeaaShort
namespace Go.Proofs.Ytmmfakdncjeoeaa.PU
open Go.Proofs.YtmmfakdncjeoeaaShort
open Go.RowKit Go.Proofs.YtmmfakdncjeoeaaW.PrintWords Go.Proofs.YtmmfakdncjeoeaaW.PrintLast Go.Proofs.YtmmfakdncjeoeaaW.PrintMore
attribute [local go_sem] max2_int min2_int max_two min_two max_three min_three max_four min_four   -- for this text's walks alone
set_option linter.unusedVariables false
set_option linter.unusedSimpArgs false

/-! ### tachographlaw15_UnblockTurned: function 4 -/
mutual
def tachographlaw15_UnblockTurned.j0 : Nat → List (S53) → List (S56) → Int → Bool → Option (Bool)
 | 0, _, _, _, _ => none
 | k + 1, x0, x1, x2, x16 => if x16 = true then ((tachographlaw15_fixed.f k).bind fun t347 => (some t347)) else ((block_Put.f k x0 x1).bind fun bt348 => (if bt348.2 = 0 then (tachographlaw15_UnblockTurned.j1 k x0 x1 x2 bt348.1 bt348.2 ((bt348.1.length : Int) == 0)) else (tachographlaw15_UnblockTurned.j1 k x0 x1 x2 bt348.1 bt348.2 true)))
def tachographlaw15_UnblockTurned.j1 : Nat → List (S53) → List (S56) → Int → List Int → Int → Bool → Option (Bool)
 | 0, _, _, _, _, _, _ => none
 | k + 1, x0, x1, x2, x7, x8, x30 => if x30 = true then ((tachographlaw15_fixed.f k).bind fun t352 => (if t352 = true then (some (x8 != 0)) else (some false))) else (if (x7.length : Int) = 0 then (none) else (if 0 ≤ (Int.tmod (wrap64 (x2)) (x7.length : Int)) then (if (Int.tmod (wrap64 (x2)) (x7.length : Int)) < (x7.length : Int) then ((unblock_Get.f k x0 (x7.set ((Int.tmod (wrap64 (x2)) (x7.length : Int)) : Int).toNat (Go.bits .xor .u8 (rd x7 (Int.tmod (wrap64 (x2)) (x7.length : Int))) (1 + (((x2 / 256) % 256) % 255))))).bind fun bt355 => ((tachographlaw15_fixed.f k).bind fun t359 => (if t359 = true then (if bt355.2 = 0 then ((tachographref12_Same.f k bt355.1 x1).bind fun t360 => (some (!t360))) else (if (bt355.1.length : Int) = 0 then (some true) else (some false))) else (some false)))) else (none)) else (none)))
end
def tachographlaw15_UnblockTurned.f (k : Nat) (l0 : List (S53)) (l1 : List (S56)) (a2 : Int) : Option (Bool) := (tachographlaw09_Great.f k l0).bind fun t345 => (if t345 = true then (tachographlaw15_UnblockTurned.j0 k l0 l1 a2 true) else ((tachographlaw12_Great.f k l1 2000).bind fun t346 => (tachographlaw15_UnblockTurned.j0 k l0 l1 a2 t346)))
set_option maxHeartbeats 8000000 in
set_option maxRecDepth 100000 in
theorem tachographlaw15_UnblockTurned.calls (k : Nat) (A0 : Option Addr) (c0 : Nat) (l0 : List (S53)) (A1 : Option Addr) (c1 : Nat) (l1 : List (S56)) (a2 : Int) (r : Bool) (w : World) (hr0 : Kd.C k53 w A0 l0.length l0) (hc0 : l0.length ≤ c0) (hr1 : Kd.C k56 w A1 l1.length l1) (hc1 : l1.length ≤ c1) (h : tachographlaw15_UnblockTurned.f k l0 l1 a2 = some r) :
  Calls Try.prog 4 #[.slice A0 l0.length c0,.slice A1 l1.length c1,.int .u16 a2] w fun e w' => e = .returned (.bool r) ∧ Below w.heap.size w w':=by
 have HR0:=qm hr0
 have HC0:=qm hc0
 clear hr0 hc0
 have HR1:=qm hr1
 have HC1:=qm hc1
 clear hr1 hc1
 have HB:=qm (Below.refl w.heap.size w)
 have H : ((tachographlaw09_Great.f k l0).bind fun t345 => (if t345 = true then (tachographlaw15_UnblockTurned.j0 k l0 l1 a2 true) else ((tachographlaw12_Great.f k l1 2000).bind fun t346 => (tachographlaw15_UnblockTurned.j0 k l0 l1 a2 t346)))) = some r:=h
 clear h
 have HC4:=qm H
 clear H
 go_enter Try.func4,Try.ntmps4
 go_upto_region 1 with (fail)
 go_cut [16] (fun v16 wc => ∃ (kq : Nat) (x16_3 : Bool),v16 = .bool x16_3 ∧ Aside0 (tachographlaw15_UnblockTurned.j0 kq l0 l1 a2 x16_3 = some r) ∧ Aside0 (kq ≤ k) ∧ Aside0 (Below w.heap.size w wc))
 case first =>
  have H:=HC4.out
  clear HC4
  replace H:=Option.bind_eq_some_iff.mp H
  obtain ⟨t345,A50,H⟩:=H
  replace H : (if t345 = true then (tachographlaw15_UnblockTurned.j0 k l0 l1 a2 true) else ((tachographlaw12_Great.f k l1 2000).bind fun t346 => (tachographlaw15_UnblockTurned.j0 k l0 l1 a2 t346))) = some r:=H
  have A5:=qm A50
  clear A50
  by_cases c6 : t345 = true
  ·subst c6
   have H1 : (tachographlaw15_UnblockTurned.j0 k l0 l1 a2 true) = some r:=by rw [if_pos rfl] at H;exact H
   clear H
   have H:=H1
   clear H1
   have H':=qm H
   clear H
   go_wp2_with (first | ((with_reducible refine gcq (f:=7) rfl ?_);refine glq (some 12) rfl rfl Try.func7 (by kernel_rfl) rfl #[.slice A0 l0.length c0] rfl (by (try simp only [l3q,l4q,l5q]);first | done | rfl | (simp only [l1q,l2q];rfl)) ?_;(with_reducible refine (tachographlaw09_Great.calls k _ _ l0 true _ ?side1 ?side2 A5.out).mono ?_);(case side1 => repeat (first | exact (Kd.C_below HR0.out HB.out) | (with_reducible first | refine caq ?_ _ | refine cnq ?_ _ | refine cdq ?_)));(case side2 => exact HC0.out);rintro e w7 ⟨rfl,hb⟩;refine ⟨_,rfl,?_⟩;have n0_:=qm (qt (by repeat (first | (with_reducible first | exact HB.out | apply qa | apply qn | apply qd) | exact HB.out)) hb);clear HB;have HB:=n0_;clear n0_;(try clear hb);(try clear hb2);(try clear hk);(try clear hi)))
   go_meet
   case rel => exact ⟨_,(true),(by first | rfl | (simp;done) | (simp [*];done)),H',⟨by first | omega | exact Nat.le_refl _⟩,⟨by repeat (first | (with_reducible first | exact HB.out | apply qa | apply qn | apply qd) | exact HB.out)⟩⟩
  ·replace c6:=Bool.eq_false_iff.mpr c6
   subst c6
   have H1 : ((tachographlaw12_Great.f k l1 2000).bind fun t346 => (tachographlaw15_UnblockTurned.j0 k l0 l1 a2 t346)) = some r:=by rw [if_neg (show ¬ (false = true) by decide)] at H;exact H
   clear H
   have H:=H1
   clear H1
   replace H:=Option.bind_eq_some_iff.mp H
   obtain ⟨t346,A80,H⟩:=H
   replace H : (tachographlaw15_UnblockTurned.j0 k l0 l1 a2 t346) = some r:=H
   have A8:=qm A80
   clear A80
   have H':=qm H
   clear H
   go_wp2_with (first | ((with_reducible refine gcq (f:=7) rfl ?_);refine glq (some 12) rfl rfl Try.func7 (by kernel_rfl) rfl #[.slice A0 l0.length c0] rfl (by (try simp only [l3q,l4q,l5q]);first | done | rfl | (simp only [l1q,l2q];rfl)) ?_;(with_reducible refine (tachographlaw09_Great.calls k _ _ l0 false _ ?side1 ?side2 A5.out).mono ?_);(case side1 => repeat (first | exact (Kd.C_below HR0.out HB.out) | (with_reducible first | refine caq ?_ _ | refine cnq ?_ _ | refine cdq ?_)));(case side2 => exact HC0.out);rintro e w9 ⟨rfl,hb⟩;refine ⟨_,rfl,?_⟩;have n0_:=qm (qt (by repeat (first | (with_reducible first | exact HB.out | apply qa | apply qn | apply qd) | exact HB.out)) hb);clear HB;have HB:=n0_;clear n0_;(try clear hb);(try clear hb2);(try clear hk);(try clear hi)) | (go_at_call 8;(with_reducible refine (tachographlaw12_Great.calls k _ _ l1 2000 t346 _ ?side1 ?side2 A8.out).mono ?_);(case side1 => repeat (first | exact (Kd.C_below HR1.out HB.out) | (with_reducible first | refine caq ?_ _ | refine cnq ?_ _ | refine cdq ?_)));(case side2 => exact HC1.out);rintro e w10 ⟨rfl,hb⟩;have n0_:=qm (qt (by repeat (first | (with_reducible first | exact HB.out | apply qa | apply qn | apply qd) | exact HB.out)) hb);clear HB;have HB:=n0_;clear n0_;(try clear hb);(try clear hb2);(try clear hk);(try clear hi)))
   go_meet
   case rel => exact ⟨_,(t346),(by first | rfl | (simp;done) | (simp [*];done)),H',⟨by first | omega | exact Nat.le_refl _⟩,⟨by repeat (first | (with_reducible first | exact HB.out | apply qa | apply qn | apply qd) | exact HB.out)⟩⟩
 case rest =>
  clear HC4
  try clear c1
  try clear p2
  try clear c4
  try clear c6
  try clear c7
  obtain ⟨kq,x16_3,rfl,HA,HJ3,HB⟩:=hcut
  cases kq with
  | zero => exact absurd HA.out (by simp [tachographlaw15_UnblockTurned.j0])
  | succ kj3 =>
   have H:=HA.out
   clear HA
   simp only [tachographlaw15_UnblockTurned.j0] at H
   by_cases c11 : x16_3 = true
   ·subst c11
    have H1 : ((tachographlaw15_fixed.f kj3).bind fun t347 => (some t347)) = some r:=by rw [if_pos rfl] at H;exact H
    clear H
    have H:=H1
    clear H1
    replace H:=Option.bind_eq_some_iff.mp H
    obtain ⟨t347,A120,H⟩:=H
    replace H : (some t347) = some r:=H
    have A12:=qm A120
    clear A120
    obtain rfl:=Option.some.inj H
    go_wp2_with (first | ((with_reducible refine gcq (f:=9) rfl ?_);refine glq (some 17) rfl rfl Try.func9 (by kernel_rfl) rfl #[] rfl (by (try simp only [l3q,l4q,l5q]);first | done | rfl | (simp only [l1q,l2q];rfl)) ?_;(with_reducible refine (tachographlaw15_fixed.calls kj3  t347 _ A12.out).mono ?_);rintro e w13 ⟨rfl,hb⟩;refine ⟨_,rfl,?_⟩;have n0_:=qm (qt (by repeat (first | (with_reducible first | exact HB.out | apply qa | apply qn | apply qd) | exact HB.out)) hb);clear HB;have HB:=n0_;clear n0_;(try clear hb);(try clear hb2);(try clear hk);(try clear hi)))
    go_ret
    exact ⟨by first | rfl | (simp [errW_none,errW_some] <;> rfl) | (simp [*,errW_none,errW_some] <;> rfl),by repeat (first | (with_reducible first | exact HB.out | apply qa | apply qn | apply qd) | exact HB.out)⟩
   ·replace c11:=Bool.eq_false_iff.mpr c11
    subst c11
    have H1 : ((block_Put.f kj3 l0 l1).bind fun bt348 => (if bt348.2 = 0 then (tachographlaw15_UnblockTurned.j1 kj3 l0 l1 a2 bt348.1 bt348.2 ((bt348.1.length : Int) == 0)) else (tachographlaw15_UnblockTurned.j1 kj3 l0 l1 a2 bt348.1 bt348.2 true))) = some r:=by rw [if_neg (show ¬ (false = true) by decide)] at H;exact H
    clear H
    have H:=H1
    clear H1
    replace H:=Option.bind_eq_some_iff.mp H
    obtain ⟨⟨t348,t349⟩,A140,H⟩:=H
    replace H : (if t349 = 0 then (tachographlaw15_UnblockTurned.j1 kj3 l0 l1 a2 t348 t349 ((t348.length : Int) == 0)) else (tachographlaw15_UnblockTurned.j1 kj3 l0 l1 a2 t348 t349 true)) = some r:=H
    have A14:=qm A140
    clear A140
    have HC15:=qm H
    clear H
    go_upto_region 4 with (first | ((with_reducible refine gcq (f:=10) rfl ?_);refine glq (some 21) rfl rfl Try.func10 (by kernel_rfl) rfl #[.slice A0 l0.length c0,.slice A1 l1.length c1] rfl (by (try simp only [l3q,l4q,l5q]);first | done | rfl | (simp only [l1q,l2q];rfl)) ?_;(with_reducible refine (block_Put.calls kj3 _ _ l0 _ _ l1 t348 t349 _ ?side1 ?side2 ?side3 ?side4 A14.out).mono ?_);(case side1 => repeat (first | exact (Kd.C_below HR0.out HB.out) | (with_reducible first | refine caq ?_ _ | refine cnq ?_ _ | refine cdq ?_)));(case side2 => exact HC0.out);(case side3 => repeat (first | exact (Kd.C_below HR1.out HB.out) | (with_reducible first | refine caq ?_ _ | refine cnq ?_ _ | refine cdq ?_)));(case side4 => exact HC1.out);rintro e w16 ⟨v350,rfl,ho0,hb⟩;refine ⟨_,rfl,?_⟩;have n0_:=qm (Kd.R_lower ho0 (qs (by repeat (first | (with_reducible first | exact HB.out | apply qa | apply qn | apply qd) | exact HB.out))));have n1_:=qm (qt (by repeat (first | (with_reducible first | exact HB.out | apply qa | apply qn | apply qd) | exact HB.out)) hb);clear HB;have HO351:=n0_;have HB:=n1_;clear n0_ n1_;(try clear hb);(try clear hb2);(try clear hk);(try clear hi);(try clear ho0)))
    (try simp only [Act.put,List.setIfInBounds_toArray,List.set_cons_zero,List.set_cons_succ])
    go_cut [30] (fun v30 wc => ∃ (kq : Nat) (x30_14 : Bool),v30 = .bool x30_14 ∧ Aside0 (tachographlaw15_UnblockTurned.j1 kq l0 l1 a2 t348 t349 x30_14 = some r) ∧ Aside0 (kq ≤ kj3) ∧ Aside0 (Kd.R (Kd.int .u8) 5 wc w.heap.size (fun _ => True) v350 t348) ∧ Aside0 (Below w.heap.size w wc))
    case first =>
     have H:=HC15.out
     clear HC15
     by_cases c17 : t349 = 0
     ·rw [if_pos c17] at H
      have c17b0 : (t349 == 0) = true:=beq_iff_eq.mpr c17
      have c17b1 : (t349 != 0) = false:=bne_eq_false_iff_eq.mpr c17
      clear c17
      (first | rw [c17b0] | (simp only [i64_w,i32_w];rw [c17b0]) | skip)
      have H':=qm H
      clear H
      obtain ⟨Ao18,co18,eo18⟩:=Kd.R_slice HO351.out
      subst eo18
      go_wp2
      go_meet
      case rel => exact ⟨_,(((t348.length : Int) == 0)),(by first | rfl | (simp;done) | (simp [*];done)),H',⟨by have:=HJ3.out;first | omega | exact Nat.le_refl _⟩,⟨by (with_reducible repeat (first | apply raq | apply rnq | apply rdq));exact HO351.out⟩,⟨by repeat (first | (with_reducible first | exact HB.out | apply qa | apply qn | apply qd) | exact HB.out)⟩⟩
     ·rw [if_neg c17] at H
      have c17b0 : (t349 == 0) = false:=beq_eq_false_iff_ne.mpr c17
      have c17b1 : (t349 != 0) = true:=bne_iff_ne.mpr c17
      (first | rw [c17b0] | (simp only [i64_w,i32_w];rw [c17b0]) | skip)
      have H':=qm H
      clear H
      go_wp2
      go_meet
      case rel => exact ⟨_,(true),(by first | rfl | (simp;done) | (simp [*];done)),H',⟨by have:=HJ3.out;first | omega | exact Nat.le_refl _⟩,⟨by (with_reducible repeat (first | apply raq | apply rnq | apply rdq));exact HO351.out⟩,⟨by repeat (first | (with_reducible first | exact HB.out | apply qa | apply qn | apply qd) | exact HB.out)⟩⟩
    case rest =>
     clear HC15
     try clear c1
     try clear p2
     try clear c4
     try clear c6
     try clear c7
     try clear c9
     try clear c10
     try clear c11
     try clear c17
     try clear c17b0
     try clear c17b1
     try clear p2
     obtain ⟨kq,x30_14,rfl,HA,HJ14,HO_7,HB⟩:=hcut
     cases kq with
     | zero => exact absurd HA.out (by simp [tachographlaw15_UnblockTurned.j1])
     | succ kj14 =>
      have H:=HA.out
      clear HA
      simp only [tachographlaw15_UnblockTurned.j1] at H
      by_cases c19 : x30_14 = true
      ·subst c19
       have H1 : ((tachographlaw15_fixed.f kj14).bind fun t352 => (if t352 = true then (some (t349 != 0)) else (some false))) = some r:=by rw [if_pos rfl] at H;exact H
       clear H
       have H:=H1
       clear H1
       replace H:=Option.bind_eq_some_iff.mp H
       obtain ⟨t352,A200,H⟩:=H
       replace H : (if t352 = true then (some (t349 != 0)) else (some false)) = some r:=H
       have A20:=qm A200
       clear A200
       by_cases c21 : t352 = true
       ·subst c21
        have H1 : (some (t349 != 0)) = some r:=by rw [if_pos rfl] at H;exact H
        clear H
        have H:=H1
        clear H1
        obtain rfl:=Option.some.inj H
        go_wp2_with (first | ((with_reducible refine gcq (f:=9) rfl ?_);refine glq (some 31) rfl rfl Try.func9 (by kernel_rfl) rfl #[] rfl (by (try simp only [l3q,l4q,l5q]);first | done | rfl | (simp only [l1q,l2q];rfl)) ?_;(with_reducible refine (tachographlaw15_fixed.calls kj14  true _ A20.out).mono ?_);rintro e w22 ⟨rfl,hb⟩;refine ⟨_,rfl,?_⟩;have n0_:=qm (Kd.R_below (by (with_reducible repeat (first | apply raq | apply rnq | apply rdq));exact HO_7.out) hb);have n1_:=qm (qt (by repeat (first | (with_reducible first | exact HB.out | apply qa | apply qn | apply qd) | exact HB.out)) hb);clear HO_7;clear HB;have HO_7:=n0_;have HB:=n1_;clear n0_ n1_;(try clear hb);(try clear hb2);(try clear hk);(try clear hi)))
        go_ret
        exact ⟨by first | rfl | (simp [errW_none,errW_some] <;> rfl) | (simp [*,errW_none,errW_some] <;> rfl),by repeat (first | (with_reducible first | exact HB.out | apply qa | apply qn | apply qd) | exact HB.out)⟩
       ·replace c21:=Bool.eq_false_iff.mpr c21
        subst c21
        have H1 : (some false) = some r:=by rw [if_neg (show ¬ (false = true) by decide)] at H;exact H
        clear H
        have H:=H1
        clear H1
        obtain rfl:=Option.some.inj H
        go_wp2_with (first | ((with_reducible refine gcq (f:=9) rfl ?_);refine glq (some 31) rfl rfl Try.func9 (by kernel_rfl) rfl #[] rfl (by (try simp only [l3q,l4q,l5q]);first | done | rfl | (simp only [l1q,l2q];rfl)) ?_;(with_reducible refine (tachographlaw15_fixed.calls kj14  false _ A20.out).mono ?_);rintro e w23 ⟨rfl,hb⟩;refine ⟨_,rfl,?_⟩;have n0_:=qm (Kd.R_below (by (with_reducible repeat (first | apply raq | apply rnq | apply rdq));exact HO_7.out) hb);have n1_:=qm (qt (by repeat (first | (with_reducible first | exact HB.out | apply qa | apply qn | apply qd) | exact HB.out)) hb);clear HO_7;clear HB;have HO_7:=n0_;have HB:=n1_;clear n0_ n1_;(try clear hb);(try clear hb2);(try clear hk);(try clear hi)))
        go_ret
        exact ⟨by first | rfl | (simp [errW_none,errW_some] <;> rfl) | (simp [*,errW_none,errW_some] <;> rfl),by repeat (first | (with_reducible first | exact HB.out | apply qa | apply qn | apply qd) | exact HB.out)⟩
      ·replace c19:=Bool.eq_false_iff.mpr c19
       subst c19
       have H1 : (if (t348.length : Int) = 0 then (none) else (if 0 ≤ (Int.tmod (wrap64 (a2)) (t348.length : Int)) then (if (Int.tmod (wrap64 (a2)) (t348.length : Int)) < (t348.length : Int) then ((unblock_Get.f kj14 l0 (t348.set ((Int.tmod (wrap64 (a2)) (t348.length : Int)) : Int).toNat (Go.bits .xor .u8 (rd t348 (Int.tmod (wrap64 (a2)) (t348.length : Int))) (1 + (((a2 / 256) % 256) % 255))))).bind fun bt355 => ((tachographlaw15_fixed.f kj14).bind fun t359 => (if t359 = true then (if bt355.2 = 0 then ((tachographref12_Same.f kj14 bt355.1 l1).bind fun t360 => (some (!t360))) else (if (bt355.1.length : Int) = 0 then (some true) else (some false))) else (some false)))) else (none)) else (none))) = some r:=by rw [if_neg (show ¬ (false = true) by decide)] at H;exact H
       clear H
       have H:=H1
       clear H1
       by_cases c24 : (t348.length : Int) = 0
       ·rw [if_pos c24] at H
        exact absurd H (by simp)
       ·rw [if_neg c24] at H
        have c24b0 : ((t348.length : Int) == 0) = false:=beq_eq_false_iff_ne.mpr c24
        have c24b1 : ((t348.length : Int) != 0) = true:=bne_iff_ne.mpr c24
        have c24b2 : ¬ (t348 = []):=fun h_ => c24 (by rw [h_];rfl)
        obtain ⟨ji25,hji25⟩ : ∃ j_ : Int,(Int.tmod (wrap64 (a2)) (t348.length : Int)) = j_:=⟨_,rfl⟩
        replace H : (if 0 ≤ (ji25) then (if (ji25) < (t348.length : Int) then ((unblock_Get.f kj14 l0 (t348.set ((ji25) : Int).toNat (Go.bits .xor .u8 (rd t348 (ji25)) (1 + (((a2 / 256) % 256) % 255))))).bind fun bt355 => ((tachographlaw15_fixed.f kj14).bind fun t359 => (if t359 = true then (if bt355.2 = 0 then ((tachographref12_Same.f kj14 bt355.1 l1).bind fun t360 => (some (!t360))) else (if (bt355.1.length : Int) = 0 then (some true) else (some false))) else (some false)))) else (none)) else (none)) = some r:=by first | (rw [hji25] at H;exact H) | (simp only [hji25] at H ⊢;exact H)
        by_cases c26 : 0 ≤ (ji25)
        ·rw [if_pos c26] at H
         have c26b0 : decide (0 ≤ (ji25)) = true:=decide_eq_true c26
         clear c26
         by_cases c27 : (ji25) < (t348.length : Int)
         ·rw [if_pos c27] at H
          have c27b0 : decide ((ji25) < (t348.length : Int)) = true:=decide_eq_true c27
          clear c27
          obtain ⟨y354,hy354⟩ : ∃ y_ : List Int,y_ = (t348.set ((ji25) : Int).toNat (Go.bits .xor .u8 (rd t348 (ji25)) (1 + (((a2 / 256) % 256) % 255)))):=⟨_,rfl⟩
          replace H : ((unblock_Get.f kj14 l0 y354).bind fun bt355 => ((tachographlaw15_fixed.f kj14).bind fun t359 => (if t359 = true then (if bt355.2 = 0 then ((tachographref12_Same.f kj14 bt355.1 l1).bind fun t360 => (some (!t360))) else (if (bt355.1.length : Int) = 0 then (some true) else (some false))) else (some false)))) = some r:=by first | (rw [hy354];with_reducible exact H) | (have H2_:=(Option.bind_some _ _).symm.trans H;rw [hy354];with_reducible exact H2_) | (have H2_:=(Option.bind_some _ _).symm.trans H;with_reducible exact H2_) | with_reducible exact H | (rw [hy354];exact H) | exact H
          have Ny354:=qm hy354
          clear hy354
          replace H:=Option.bind_eq_some_iff.mp H
          obtain ⟨⟨t355,t356⟩,A290,H⟩:=H
          replace H : ((tachographlaw15_fixed.f kj14).bind fun t359 => (if t359 = true then (if t356 = 0 then ((tachographref12_Same.f kj14 t355 l1).bind fun t360 => (some (!t360))) else (if (t355.length : Int) = 0 then (some true) else (some false))) else (some false))) = some r:=H
          have A29:=qm A290
          clear A290
          replace H:=Option.bind_eq_some_iff.mp H
          obtain ⟨t359,A300,H⟩:=H
          replace H : (if t359 = true then (if t356 = 0 then ((tachographref12_Same.f kj14 t355 l1).bind fun t360 => (some (!t360))) else (if (t355.length : Int) = 0 then (some true) else (some false))) else (some false)) = some r:=H
          have A30:=qm A300
          clear A300
          by_cases c31 : t359 = true
          ·subst c31
           have H1 : (if t356 = 0 then ((tachographref12_Same.f kj14 t355 l1).bind fun t360 => (some (!t360))) else (if (t355.length : Int) = 0 then (some true) else (some false))) = some r:=by rw [if_pos rfl] at H;exact H
           clear H
           have H:=H1
           clear H1
           by_cases c32 : t356 = 0
           ·rw [if_pos c32] at H
            have c32b0 : (t356 == 0) = true:=beq_iff_eq.mpr c32
            have c32b1 : (t356 != 0) = false:=bne_eq_false_iff_eq.mpr c32
            clear c32
            replace H:=Option.bind_eq_some_iff.mp H
            obtain ⟨t360,A330,H⟩:=H
            replace H : (some (!t360)) = some r:=H
            have A33:=qm A330
            clear A330
            obtain rfl:=Option.some.inj H
            obtain ⟨Ao34,co34,eo34⟩:=Kd.R_slice HO_7.out
            subst eo34
            have p353 : 0 ≤ ((ji25) : Int):=of_decide_eq_true (by first | (with_reducible assumption) | assumption)
            have q353 : (ji25) < (t348.length : Int):=of_decide_eq_true (by first | (with_reducible assumption) | assumption)
            obtain ⟨ad353,e353,hx353_0⟩:=Kd.at_int (Kd.R_reads' HO_7.out).2.2 (ji25) p353 q353
            cases e353
            replace p353:=eq_true p353
            replace q353:=eq_true q353
            have p28 : 0 ≤ ((ji25) : Int):=of_decide_eq_true (by first | (with_reducible assumption) | assumption)
            have q28 : ((ji25) : Int) < ((t348.length : Int) : Int):=of_decide_eq_true (by first | (with_reducible assumption) | assumption)
            obtain ⟨go28,co28,eo28,gb28,gl28,cl28,HG28⟩:=Kd.R_form HO_7.out (by omega)
            (first | cases eo28 | (injection eo28 with ea_ en_ ec_;(first | subst ea_ | (injection ea_ with ea_;subst ea_));subst ec_;clear en_))
            have GB28:=qm gb28
            have GG28:=qm HG28
            clear gb28 gl28 HG28
            (first | simp only [add_plain] at hx353_0 | skip)
            obtain ⟨hx28_0,hf28_0⟩:=Kd.R_celln 0 HO_7.out ((ji25) : Int) p28 q28
            replace p28:=eq_true p28
            replace q28:=eq_true q28
            have HP35:=Kd.R_putg HO_7.out ((ji25) : Int) (Go.bits .xor .u8 (rd t348 (ji25)) (1 + (((a2 / 256) % 256) % 255)))
            go_wp2_with (first | ((with_reducible refine gate_store (t:=5) (p:=50) rfl ?_);refine store_event (t:=5) (p:=50) (v:=?vo_w36) (w1:=(wc.setCell ⟨go28,((ji25) : Int).toNat,none⟩ (.int .u8 (Go.bits .xor .u8 (rd t348 (ji25)) (1 + (((a2 / 256) % 256) % 255)))))) ?hg ?ho ?hn ?hr ?_;(case ho => rfl);(case hg => rfl);(case hn => rfl);(case hr => first | (go_simp;done) | (go_simp;rfl));intro w36 hw;have hg : wc.grownBy w36 (some go28):=(by rw [hw];exact HP35.2);have hp_ : Kd.R (Kd.int .u8) 5 w36 w.heap.size (fun _ => True) (.slice (some ⟨go28,0,none⟩) t348.length co34) y354:=(by rw [hw,Ny354.out];exact HP35.1);clear HP35;have n0_:=qm (hp_);have n1_:=qm ((by rw [hw];exact below_set (HB.out) GB28.out : Below w.heap.size w w36));clear HO_7;clear HB;have HO_7:=n0_;have HB:=n1_;clear n0_ n1_;clear hg hw hp_) | ((with_reducible refine gcq (f:=11) rfl ?_);refine glq (some 54) rfl rfl Try.func11 (by kernel_rfl) rfl #[.slice A0 l0.length c0,.slice (some ⟨go28,0,none⟩) y354.length co34] rfl (by (try simp only [l3q,l4q,l5q]);first | done | (rw [show y354.length = t348.length from (Kd.R_reads' HO_7.out).1.symm] <;> rfl) | rfl | (simp only [l1q,l2q];rfl)) ?_;(with_reducible refine (unblock_Get.calls kj14 _ _ l0 _ _ y354 t355 t356 _ ?side1 ?side2 ?side3 ?side4 A29.out).mono ?_);(case side1 => repeat (first | exact (Kd.C_below HR0.out HB.out) | (with_reducible first | refine caq ?_ _ | refine cnq ?_ _ | refine cdq ?_)));(case side2 => exact HC0.out);(case side3 => repeat (first | exact (Kd.R_reads' HO_7.out).2.2 | (with_reducible first | refine caq ?_ _ | refine cnq ?_ _ | refine cdq ?_)));(case side4 => rw [show y354.length = t348.length from (Kd.R_reads' HO_7.out).1.symm];exact (Kd.R_reads' HO_7.out).2.1);rintro e w37 ⟨v357,rfl,ho0,hb⟩;refine ⟨_,rfl,?_⟩;have n0_:=qm (Kd.R_below (by (with_reducible repeat (first | apply raq | apply rnq | apply rdq));exact HO_7.out) hb);have n1_:=qm (Kd.R_lower ho0 (qs (by repeat (first | (with_reducible first | exact HB.out | apply qa | apply qn | apply qd) | exact HB.out))));have n2_:=qm (qt (by repeat (first | (with_reducible first | exact HB.out | apply qa | apply qn | apply qd) | exact HB.out)) hb);clear HO_7;clear HB;have HO_7:=n0_;have HO358:=n1_;have HB:=n2_;clear n0_ n1_ n2_;(try clear hb);(try clear hb2);(try clear hk);(try clear hi);(try clear ho0)) | ((with_reducible refine gcq (f:=9) rfl ?_);refine glq (some 57) rfl rfl Try.func9 (by kernel_rfl) rfl #[] rfl (by (try simp only [l3q,l4q,l5q]);first | done | rfl | (simp only [l1q,l2q];rfl)) ?_;(with_reducible refine (tachographlaw15_fixed.calls kj14  true _ A30.out).mono ?_);rintro e w38 ⟨rfl,hb⟩;refine ⟨_,rfl,?_⟩;have n0_:=qm (Kd.R_below (by (with_reducible repeat (first | apply raq | apply rnq | apply rdq));exact HO_7.out) hb);have n1_:=qm (Kd.R_below (by (with_reducible repeat (first | apply raq | apply rnq | apply rdq));exact HO358.out) hb);have n2_:=qm (qt (by repeat (first | (with_reducible first | exact HB.out | apply qa | apply qn | apply qd) | exact HB.out)) hb);clear HO_7;clear HO358;clear HB;have HO_7:=n0_;have HO358:=n1_;have HB:=n2_;clear n0_ n1_ n2_;(try clear hb);(try clear hb2);(try clear hk);(try clear hi);obtain ⟨Ao39,co39,eo39⟩:=Kd.R_slice HO358.out;subst eo39) | (go_at_call 12;(with_reducible refine (tachographref12_Same.calls kj14 _ _ t355 _ _ l1 t360 _ ?side1 ?side2 ?side3 ?side4 A33.out).mono ?_);(case side1 => repeat (first | exact (Kd.R_reads' HO358.out).2.2 | (with_reducible first | refine caq ?_ _ | refine cnq ?_ _ | refine cdq ?_)));(case side2 => exact (Kd.R_reads' HO358.out).2.1);(case side3 => repeat (first | exact (Kd.C_below HR1.out HB.out) | (with_reducible first | refine caq ?_ _ | refine cnq ?_ _ | refine cdq ?_)));(case side4 => exact HC1.out);rintro e w40 ⟨rfl,hb⟩;have n0_:=qm (Kd.R_below (by (with_reducible repeat (first | apply raq | apply rnq | apply rdq));exact HO_7.out) hb);have n1_:=qm (Kd.R_below (by (with_reducible repeat (first | apply raq | apply rnq | apply rdq));exact HO358.out) hb);have n2_:=qm (qt (by repeat (first | (with_reducible first | exact HB.out | apply qa | apply qn | apply qd) | exact HB.out)) hb);clear HO_7;clear HO358;clear HB;have HO_7:=n0_;have HO358:=n1_;have HB:=n2_;clear n0_ n1_ n2_;(try clear hb);(try clear hb2);(try clear hk);(try clear hi)))
            go_ret
            exact ⟨by first | rfl | (simp [errW_none,errW_some] <;> rfl) | (simp only [← hji25];first | rfl | (simp [errW_none,errW_some] <;> rfl)) | (simp [*,errW_none,errW_some] <;> rfl),by repeat (first | (with_reducible first | exact HB.out | apply qa | apply qn | apply qd) | exact HB.out)⟩
           ·rw [if_neg c32] at H
            have c32b0 : (t356 == 0) = false:=beq_eq_false_iff_ne.mpr c32
            have c32b1 : (t356 != 0) = true:=bne_iff_ne.mpr c32
            by_cases c41 : (t355.length : Int) = 0
            ·rw [if_pos c41] at H
             have c41b0 : ((t355.length : Int) == 0) = true:=beq_iff_eq.mpr c41
             have c41b1 : ((t355.length : Int) != 0) = false:=bne_eq_false_iff_eq.mpr c41
             clear c41
             obtain rfl:=Option.some.inj H
             obtain ⟨Ao42,co42,eo42⟩:=Kd.R_slice HO_7.out
             subst eo42
             have p353 : 0 ≤ ((ji25) : Int):=of_decide_eq_true (by first | (with_reducible assumption) | assumption)
             have q353 : (ji25) < (t348.length : Int):=of_decide_eq_true (by first | (with_reducible assumption) | assumption)
             obtain ⟨ad353,e353,hx353_0⟩:=Kd.at_int (Kd.R_reads' HO_7.out).2.2 (ji25) p353 q353
             cases e353
             replace p353:=eq_true p353
             replace q353:=eq_true q353
             have p28 : 0 ≤ ((ji25) : Int):=of_decide_eq_true (by first | (with_reducible assumption) | assumption)
             have q28 : ((ji25) : Int) < ((t348.length : Int) : Int):=of_decide_eq_true (by first | (with_reducible assumption) | assumption)
             obtain ⟨go28,co28,eo28,gb28,gl28,cl28,HG28⟩:=Kd.R_form HO_7.out (by omega)
             (first | cases eo28 | (injection eo28 with ea_ en_ ec_;(first | subst ea_ | (injection ea_ with ea_;subst ea_));subst ec_;clear en_))
             have GB28:=qm gb28
             have GG28:=qm HG28
             clear gb28 gl28 HG28
             (first | simp only [add_plain] at hx353_0 | skip)
             obtain ⟨hx28_0,hf28_0⟩:=Kd.R_celln 0 HO_7.out ((ji25) : Int) p28 q28
             replace p28:=eq_true p28
             replace q28:=eq_true q28
             have HP43:=Kd.R_putg HO_7.out ((ji25) : Int) (Go.bits .xor .u8 (rd t348 (ji25)) (1 + (((a2 / 256) % 256) % 255)))
             go_wp2_with (first | ((with_reducible refine gate_store (t:=5) (p:=50) rfl ?_);refine store_event (t:=5) (p:=50) (v:=?vo_w44) (w1:=(wc.setCell ⟨go28,((ji25) : Int).toNat,none⟩ (.int .u8 (Go.bits .xor .u8 (rd t348 (ji25)) (1 + (((a2 / 256) % 256) % 255)))))) ?hg ?ho ?hn ?hr ?_;(case ho => rfl);(case hg => rfl);(case hn => rfl);(case hr => first | (go_simp;done) | (go_simp;rfl));intro w44 hw;have hg : wc.grownBy w44 (some go28):=(by rw [hw];exact HP43.2);have hp_ : Kd.R (Kd.int .u8) 5 w44 w.heap.size (fun _ => True) (.slice (some ⟨go28,0,none⟩) t348.length co42) y354:=(by rw [hw,Ny354.out];exact HP43.1);clear HP43;have n0_:=qm (hp_);have n1_:=qm ((by rw [hw];exact below_set (HB.out) GB28.out : Below w.heap.size w w44));clear HO_7;clear HB;have HO_7:=n0_;have HB:=n1_;clear n0_ n1_;clear hg hw hp_) | ((with_reducible refine gcq (f:=11) rfl ?_);refine glq (some 54) rfl rfl Try.func11 (by kernel_rfl) rfl #[.slice A0 l0.length c0,.slice (some ⟨go28,0,none⟩) y354.length co42] rfl (by (try simp only [l3q,l4q,l5q]);first | done | (rw [show y354.length = t348.length from (Kd.R_reads' HO_7.out).1.symm] <;> rfl) | rfl | (simp only [l1q,l2q];rfl)) ?_;(with_reducible refine (unblock_Get.calls kj14 _ _ l0 _ _ y354 t355 t356 _ ?side1 ?side2 ?side3 ?side4 A29.out).mono ?_);(case side1 => repeat (first | exact (Kd.C_below HR0.out HB.out) | (with_reducible first | refine caq ?_ _ | refine cnq ?_ _ | refine cdq ?_)));(case side2 => exact HC0.out);(case side3 => repeat (first | exact (Kd.R_reads' HO_7.out).2.2 | (with_reducible first | refine caq ?_ _ | refine cnq ?_ _ | refine cdq ?_)));(case side4 => rw [show y354.length = t348.length from (Kd.R_reads' HO_7.out).1.symm];exact (Kd.R_reads' HO_7.out).2.1);rintro e w45 ⟨v357,rfl,ho0,hb⟩;refine ⟨_,rfl,?_⟩;have n0_:=qm (Kd.R_below (by (with_reducible repeat (first | apply raq | apply rnq | apply rdq));exact HO_7.out) hb);have n1_:=qm (Kd.R_lower ho0 (qs (by repeat (first | (with_reducible first | exact HB.out | apply qa | apply qn | apply qd) | exact HB.out))));have n2_:=qm (qt (by repeat (first | (with_reducible first | exact HB.out | apply qa | apply qn | apply qd) | exact HB.out)) hb);clear HO_7;clear HB;have HO_7:=n0_;have HO358:=n1_;have HB:=n2_;clear n0_ n1_ n2_;(try clear hb);(try clear hb2);(try clear hk);(try clear hi);(try clear ho0)) | ((with_reducible refine gcq (f:=9) rfl ?_);refine glq (some 57) rfl rfl Try.func9 (by kernel_rfl) rfl #[] rfl (by (try simp only [l3q,l4q,l5q]);first | done | rfl | (simp only [l1q,l2q];rfl)) ?_;(with_reducible refine (tachographlaw15_fixed.calls kj14  true _ A30.out).mono ?_);rintro e w46 ⟨rfl,hb⟩;refine ⟨_,rfl,?_⟩;have n0_:=qm (Kd.R_below (by (with_reducible repeat (first | apply raq | apply rnq | apply rdq));exact HO_7.out) hb);have n1_:=qm (Kd.R_below (by (with_reducible repeat (first | apply raq | apply rnq | apply rdq));exact HO358.out) hb);have n2_:=qm (qt (by repeat (first | (with_reducible first | exact HB.out | apply qa | apply qn | apply qd) | exact HB.out)) hb);clear HO_7;clear HO358;clear HB;have HO_7:=n0_;have HO358:=n1_;have HB:=n2_;clear n0_ n1_ n2_;(try clear hb);(try clear hb2);(try clear hk);(try clear hi);obtain ⟨Ao47,co47,eo47⟩:=Kd.R_slice HO358.out;subst eo47))
             go_ret
             exact ⟨by first | rfl | (simp [errW_none,errW_some] <;> rfl) | (simp only [← hji25];first | rfl | (simp [errW_none,errW_some] <;> rfl)) | (simp [*,errW_none,errW_some] <;> rfl),by repeat (first | (with_reducible first | exact HB.out | apply qa | apply qn | apply qd) | exact HB.out)⟩
            ·rw [if_neg c41] at H
             have c41b0 : ((t355.length : Int) == 0) = false:=beq_eq_false_iff_ne.mpr c41
             have c41b1 : ((t355.length : Int) != 0) = true:=bne_iff_ne.mpr c41
             have c41b2 : ¬ (t355 = []):=fun h_ => c41 (by rw [h_];rfl)
             obtain rfl:=Option.some.inj H
             obtain ⟨Ao48,co48,eo48⟩:=Kd.R_slice HO_7.out
             subst eo48
             have p353 : 0 ≤ ((ji25) : Int):=of_decide_eq_true (by first | (with_reducible assumption) | assumption)
             have q353 : (ji25) < (t348.length : Int):=of_decide_eq_true (by first | (with_reducible assumption) | assumption)
             obtain ⟨ad353,e353,hx353_0⟩:=Kd.at_int (Kd.R_reads' HO_7.out).2.2 (ji25) p353 q353
             cases e353
             replace p353:=eq_true p353
             replace q353:=eq_true q353
             have p28 : 0 ≤ ((ji25) : Int):=of_decide_eq_true (by first | (with_reducible assumption) | assumption)
             have q28 : ((ji25) : Int) < ((t348.length : Int) : Int):=of_decide_eq_true (by first | (with_reducible assumption) | assumption)
             obtain ⟨go28,co28,eo28,gb28,gl28,cl28,HG28⟩:=Kd.R_form HO_7.out (by omega)
             (first | cases eo28 | (injection eo28 with ea_ en_ ec_;(first | subst ea_ | (injection ea_ with ea_;subst ea_));subst ec_;clear en_))
             have GB28:=qm gb28
             have GG28:=qm HG28
             clear gb28 gl28 HG28
             (first | simp only [add_plain] at hx353_0 | skip)
             obtain ⟨hx28_0,hf28_0⟩:=Kd.R_celln 0 HO_7.out ((ji25) : Int) p28 q28
             replace p28:=eq_true p28
             replace q28:=eq_true q28
             have HP49:=Kd.R_putg HO_7.out ((ji25) : Int) (Go.bits .xor .u8 (rd t348 (ji25)) (1 + (((a2 / 256) % 256) % 255)))
             go_wp2_with (first | ((with_reducible refine gate_store (t:=5) (p:=50) rfl ?_);refine store_event (t:=5) (p:=50) (v:=?vo_w50) (w1:=(wc.setCell ⟨go28,((ji25) : Int).toNat,none⟩ (.int .u8 (Go.bits .xor .u8 (rd t348 (ji25)) (1 + (((a2 / 256) % 256) % 255)))))) ?hg ?ho ?hn ?hr ?_;(case ho => rfl);(case hg => rfl);(case hn => rfl);(case hr => first | (go_simp;done) | (go_simp;rfl));intro w50 hw;have hg : wc.grownBy w50 (some go28):=(by rw [hw];exact HP49.2);have hp_ : Kd.R (Kd.int .u8) 5 w50 w.heap.size (fun _ => True) (.slice (some ⟨go28,0,none⟩) t348.length co48) y354:=(by rw [hw,Ny354.out];exact HP49.1);clear HP49;have n0_:=qm (hp_);have n1_:=qm ((by rw [hw];exact below_set (HB.out) GB28.out : Below w.heap.size w w50));clear HO_7;clear HB;have HO_7:=n0_;have HB:=n1_;clear n0_ n1_;clear hg hw hp_) | ((with_reducible refine gcq (f:=11) rfl ?_);refine glq (some 54) rfl rfl Try.func11 (by kernel_rfl) rfl #[.slice A0 l0.length c0,.slice (some ⟨go28,0,none⟩) y354.length co48] rfl (by (try simp only [l3q,l4q,l5q]);first | done | (rw [show y354.length = t348.length from (Kd.R_reads' HO_7.out).1.symm] <;> rfl) | rfl | (simp only [l1q,l2q];rfl)) ?_;(with_reducible refine (unblock_Get.calls kj14 _ _ l0 _ _ y354 t355 t356 _ ?side1 ?side2 ?side3 ?side4 A29.out).mono ?_);(case side1 => repeat (first | exact (Kd.C_below HR0.out HB.out) | (with_reducible first | refine caq ?_ _ | refine cnq ?_ _ | refine cdq ?_)));(case side2 => exact HC0.out);(case side3 => repeat (first | exact (Kd.R_reads' HO_7.out).2.2 | (with_reducible first | refine caq ?_ _ | refine cnq ?_ _ | refine cdq ?_)));(case side4 => rw [show y354.length = t348.length from (Kd.R_reads' HO_7.out).1.symm];exact (Kd.R_reads' HO_7.out).2.1);rintro e w51 ⟨v357,rfl,ho0,hb⟩;refine ⟨_,rfl,?_⟩;have n0_:=qm (Kd.R_below (by (with_reducible repeat (first | apply raq | apply rnq | apply rdq));exact HO_7.out) hb);have n1_:=qm (Kd.R_lower ho0 (qs (by repeat (first | (with_reducible first | exact HB.out | apply qa | apply qn | apply qd) | exact HB.out))));have n2_:=qm (qt (by repeat (first | (with_reducible first | exact HB.out | apply qa | apply qn | apply qd) | exact HB.out)) hb);clear HO_7;clear HB;have HO_7:=n0_;have HO358:=n1_;have HB:=n2_;clear n0_ n1_ n2_;(try clear hb);(try clear hb2);(try clear hk);(try clear hi);(try clear ho0)) | ((with_reducible refine gcq (f:=9) rfl ?_);refine glq (some 57) rfl rfl Try.func9 (by kernel_rfl) rfl #[] rfl (by (try simp only [l3q,l4q,l5q]);first | done | rfl | (simp only [l1q,l2q];rfl)) ?_;(with_reducible refine (tachographlaw15_fixed.calls kj14  true _ A30.out).mono ?_);rintro e w52 ⟨rfl,hb⟩;refine ⟨_,rfl,?_⟩;have n0_:=qm (Kd.R_below (by (with_reducible repeat (first | apply raq | apply rnq | apply rdq));exact HO_7.out) hb);have n1_:=qm (Kd.R_below (by (with_reducible repeat (first | apply raq | apply rnq | apply rdq));exact HO358.out) hb);have n2_:=qm (qt (by repeat (first | (with_reducible first | exact HB.out | apply qa | apply qn | apply qd) | exact HB.out)) hb);clear HO_7;clear HO358;clear HB;have HO_7:=n0_;have HO358:=n1_;have HB:=n2_;clear n0_ n1_ n2_;(try clear hb);(try clear hb2);(try clear hk);(try clear hi);obtain ⟨Ao53,co53,eo53⟩:=Kd.R_slice HO358.out;subst eo53))
             go_ret
             exact ⟨by first | rfl | (simp [errW_none,errW_some] <;> rfl) | (simp only [← hji25];first | rfl | (simp [errW_none,errW_some] <;> rfl)) | (simp [*,errW_none,errW_some] <;> rfl),by repeat (first | (with_reducible first | exact HB.out | apply qa | apply qn | apply qd) | exact HB.out)⟩
          ·replace c31:=Bool.eq_false_iff.mpr c31
           subst c31
           have H1 : (some false) = some r:=by rw [if_neg (show ¬ (false = true) by decide)] at H;exact H
           clear H
           have H:=H1
           clear H1
           obtain rfl:=Option.some.inj H
           obtain ⟨Ao54,co54,eo54⟩:=Kd.R_slice HO_7.out
           subst eo54
           have p353 : 0 ≤ ((ji25) : Int):=of_decide_eq_true (by first | (with_reducible assumption) | assumption)
           have q353 : (ji25) < (t348.length : Int):=of_decide_eq_true (by first | (with_reducible assumption) | assumption)
           obtain ⟨ad353,e353,hx353_0⟩:=Kd.at_int (Kd.R_reads' HO_7.out).2.2 (ji25) p353 q353
           cases e353
           replace p353:=eq_true p353
           replace q353:=eq_true q353
           have p28 : 0 ≤ ((ji25) : Int):=of_decide_eq_true (by first | (with_reducible assumption) | assumption)
           have q28 : ((ji25) : Int) < ((t348.length : Int) : Int):=of_decide_eq_true (by first | (with_reducible assumption) | assumption)
           obtain ⟨go28,co28,eo28,gb28,gl28,cl28,HG28⟩:=Kd.R_form HO_7.out (by omega)
           (first | cases eo28 | (injection eo28 with ea_ en_ ec_;(first | subst ea_ | (injection ea_ with ea_;subst ea_));subst ec_;clear en_))
           have GB28:=qm gb28
           have GG28:=qm HG28
           clear gb28 gl28 HG28
           (first | simp only [add_plain] at hx353_0 | skip)
           obtain ⟨hx28_0,hf28_0⟩:=Kd.R_celln 0 HO_7.out ((ji25) : Int) p28 q28
           replace p28:=eq_true p28
           replace q28:=eq_true q28
           have HP55:=Kd.R_putg HO_7.out ((ji25) : Int) (Go.bits .xor .u8 (rd t348 (ji25)) (1 + (((a2 / 256) % 256) % 255)))
           go_wp2_with (first | ((with_reducible refine gate_store (t:=5) (p:=50) rfl ?_);refine store_event (t:=5) (p:=50) (v:=?vo_w56) (w1:=(wc.setCell ⟨go28,((ji25) : Int).toNat,none⟩ (.int .u8 (Go.bits .xor .u8 (rd t348 (ji25)) (1 + (((a2 / 256) % 256) % 255)))))) ?hg ?ho ?hn ?hr ?_;(case ho => rfl);(case hg => rfl);(case hn => rfl);(case hr => first | (go_simp;done) | (go_simp;rfl));intro w56 hw;have hg : wc.grownBy w56 (some go28):=(by rw [hw];exact HP55.2);have hp_ : Kd.R (Kd.int .u8) 5 w56 w.heap.size (fun _ => True) (.slice (some ⟨go28,0,none⟩) t348.length co54) y354:=(by rw [hw,Ny354.out];exact HP55.1);clear HP55;have n0_:=qm (hp_);have n1_:=qm ((by rw [hw];exact below_set (HB.out) GB28.out : Below w.heap.size w w56));clear HO_7;clear HB;have HO_7:=n0_;have HB:=n1_;clear n0_ n1_;clear hg hw hp_) | ((with_reducible refine gcq (f:=11) rfl ?_);refine glq (some 54) rfl rfl Try.func11 (by kernel_rfl) rfl #[.slice A0 l0.length c0,.slice (some ⟨go28,0,none⟩) y354.length co54] rfl (by (try simp only [l3q,l4q,l5q]);first | done | (rw [show y354.length = t348.length from (Kd.R_reads' HO_7.out).1.symm] <;> rfl) | rfl | (simp only [l1q,l2q];rfl)) ?_;(with_reducible refine (unblock_Get.calls kj14 _ _ l0 _ _ y354 t355 t356 _ ?side1 ?side2 ?side3 ?side4 A29.out).mono ?_);(case side1 => repeat (first | exact (Kd.C_below HR0.out HB.out) | (with_reducible first | refine caq ?_ _ | refine cnq ?_ _ | refine cdq ?_)));(case side2 => exact HC0.out);(case side3 => repeat (first | exact (Kd.R_reads' HO_7.out).2.2 | (with_reducible first | refine caq ?_ _ | refine cnq ?_ _ | refine cdq ?_)));(case side4 => rw [show y354.length = t348.length from (Kd.R_reads' HO_7.out).1.symm];exact (Kd.R_reads' HO_7.out).2.1);rintro e w57 ⟨v357,rfl,ho0,hb⟩;refine ⟨_,rfl,?_⟩;have n0_:=qm (Kd.R_below (by (with_reducible repeat (first | apply raq | apply rnq | apply rdq));exact HO_7.out) hb);have n1_:=qm (Kd.R_lower ho0 (qs (by repeat (first | (with_reducible first | exact HB.out | apply qa | apply qn | apply qd) | exact HB.out))));have n2_:=qm (qt (by repeat (first | (with_reducible first | exact HB.out | apply qa | apply qn | apply qd) | exact HB.out)) hb);clear HO_7;clear HB;have HO_7:=n0_;have HO358:=n1_;have HB:=n2_;clear n0_ n1_ n2_;(try clear hb);(try clear hb2);(try clear hk);(try clear hi);(try clear ho0)) | ((with_reducible refine gcq (f:=9) rfl ?_);refine glq (some 57) rfl rfl Try.func9 (by kernel_rfl) rfl #[] rfl (by (try simp only [l3q,l4q,l5q]);first | done | rfl | (simp only [l1q,l2q];rfl)) ?_;(with_reducible refine (tachographlaw15_fixed.calls kj14  false _ A30.out).mono ?_);rintro e w58 ⟨rfl,hb⟩;refine ⟨_,rfl,?_⟩;have n0_:=qm (Kd.R_below (by (with_reducible repeat (first | apply raq | apply rnq | apply rdq));exact HO_7.out) hb);have n1_:=qm (Kd.R_below (by (with_reducible repeat (first | apply raq | apply rnq | apply rdq));exact HO358.out) hb);have n2_:=qm (qt (by repeat (first | (with_reducible first | exact HB.out | apply qa | apply qn | apply qd) | exact HB.out)) hb);clear HO_7;clear HO358;clear HB;have HO_7:=n0_;have HO358:=n1_;have HB:=n2_;clear n0_ n1_ n2_;(try clear hb);(try clear hb2);(try clear hk);(try clear hi)))
           go_ret
           exact ⟨by first | rfl | (simp [errW_none,errW_some] <;> rfl) | (simp only [← hji25];first | rfl | (simp [errW_none,errW_some] <;> rfl)) | (simp [*,errW_none,errW_some] <;> rfl),by repeat (first | (with_reducible first | exact HB.out | apply qa | apply qn | apply qd) | exact HB.out)⟩
         ·rw [if_neg c27] at H
          exact absurd H (by simp)
        ·rw [if_neg c26] at H
         exact absurd H (by simp)

set_option maxRecDepth 100000 in
theorem tachographlaw15_UnblockTurned.laid0 : Go.Proofs.YtmmfakdncjeoeaaOpen.Laid Try.prog 53 k53 (fun b_ : S53 => (Go.Proofs.YtmmfakdncjeoeaaOpen.pairOk Go.Proofs.YtmmfakdncjeoeaaOpen.strOk (Go.Proofs.YtmmfakdncjeoeaaOpen.sliceOk 8 (Go.Proofs.YtmmfakdncjeoeaaOpen.intOk .i64))) (b_.f0,b_.f1)):=(Go.Proofs.YtmmfakdncjeoeaaOpen.laid_iso (fun b_ : S53 => (b_.f0,b_.f1)) (fun p_ => ⟨p_.1,p_.2⟩) (fun _ => rfl) (Go.Proofs.YtmmfakdncjeoeaaOpen.laid_struct Try.underlying53 (by kernel_rfl) (Go.Proofs.YtmmfakdncjeoeaaOpen.laidF_cons (by rfl) (Go.Proofs.YtmmfakdncjeoeaaOpen.laid_string Try.underlying9 (by kernel_rfl)) (Go.Proofs.YtmmfakdncjeoeaaOpen.laidF_one (by rfl) (Go.Proofs.YtmmfakdncjeoeaaOpen.laid_slice 3 Try.underlying51 (by kernel_rfl) (by kernel_rfl) (Go.Proofs.YtmmfakdncjeoeaaOpen.laid_int Try.underlying3 (by kernel_rfl)))))))
set_option maxRecDepth 100000 in
theorem tachographlaw15_UnblockTurned.laid1 : Go.Proofs.YtmmfakdncjeoeaaOpen.Laid Try.prog 56 k56 (fun b_ : S56 => (Go.Proofs.YtmmfakdncjeoeaaOpen.pairOk (Go.Proofs.YtmmfakdncjeoeaaOpen.intOk .u64) (Go.Proofs.YtmmfakdncjeoeaaOpen.sliceOk 32 (fun b_ : S59 => (Go.Proofs.YtmmfakdncjeoeaaOpen.pairOk (Go.Proofs.YtmmfakdncjeoeaaOpen.intOk .i64) (Go.Proofs.YtmmfakdncjeoeaaOpen.sliceOk 32 (fun b_ : S61 => (Go.Proofs.YtmmfakdncjeoeaaOpen.pairOk (Go.Proofs.YtmmfakdncjeoeaaOpen.intOk .i64) (Go.Proofs.YtmmfakdncjeoeaaOpen.pairOk (Go.Proofs.YtmmfakdncjeoeaaOpen.intOk .i64) Go.Proofs.YtmmfakdncjeoeaaOpen.strOk)) (b_.f0,b_.f1,b_.f2)))) (b_.f0,b_.f1)))) (b_.f0,b_.f1)):=(Go.Proofs.YtmmfakdncjeoeaaOpen.laid_iso (fun b_ : S56 => (b_.f0,b_.f1)) (fun p_ => ⟨p_.1,p_.2⟩) (fun _ => rfl) (Go.Proofs.YtmmfakdncjeoeaaOpen.laid_struct Try.underlying56 (by kernel_rfl) (Go.Proofs.YtmmfakdncjeoeaaOpen.laidF_cons (by rfl) (Go.Proofs.YtmmfakdncjeoeaaOpen.laid_int Try.underlying39 (by kernel_rfl)) (Go.Proofs.YtmmfakdncjeoeaaOpen.laidF_one (by rfl) (Go.Proofs.YtmmfakdncjeoeaaOpen.laid_slice 59 Try.underlying54 (by kernel_rfl) (by kernel_rfl) (Go.Proofs.YtmmfakdncjeoeaaOpen.laid_iso (fun b_ : S59 => (b_.f0,b_.f1)) (fun p_ => ⟨p_.1,p_.2⟩) (fun _ => rfl) (Go.Proofs.YtmmfakdncjeoeaaOpen.laid_struct Try.underlying59 (by kernel_rfl) (Go.Proofs.YtmmfakdncjeoeaaOpen.laidF_cons (by rfl) (Go.Proofs.YtmmfakdncjeoeaaOpen.laid_int Try.underlying3 (by kernel_rfl)) (Go.Proofs.YtmmfakdncjeoeaaOpen.laidF_one (by rfl) (Go.Proofs.YtmmfakdncjeoeaaOpen.laid_slice 61 Try.underlying57 (by kernel_rfl) (by kernel_rfl) (Go.Proofs.YtmmfakdncjeoeaaOpen.laid_iso (fun b_ : S61 => (b_.f0,b_.f1,b_.f2)) (fun p_ => ⟨p_.1,p_.2.1,p_.2.2⟩) (fun _ => rfl) (Go.Proofs.YtmmfakdncjeoeaaOpen.laid_struct Try.underlying61 (by kernel_rfl) (Go.Proofs.YtmmfakdncjeoeaaOpen.laidF_cons (by rfl) (Go.Proofs.YtmmfakdncjeoeaaOpen.laid_int Try.underlying3 (by kernel_rfl)) (Go.Proofs.YtmmfakdncjeoeaaOpen.laidF_cons (by rfl) (Go.Proofs.YtmmfakdncjeoeaaOpen.laid_int Try.underlying2 (by kernel_rfl)) (Go.Proofs.YtmmfakdncjeoeaaOpen.laidF_one (by rfl) (Go.Proofs.YtmmfakdncjeoeaaOpen.laid_string Try.underlying9 (by kernel_rfl)))))))))))))))))
/-- THE ONE PURE STATEMENT of tachographlaw15_UnblockTurned: yours. -/
def tachographlaw15_UnblockTurned.Pure : Prop:=∀ (l0 : List (S53)) (l1 : List (S56)) (a2 : Int),(Go.Proofs.YtmmfakdncjeoeaaOpen.sliceOk 40 (fun b_ : S53 => (Go.Proofs.YtmmfakdncjeoeaaOpen.pairOk Go.Proofs.YtmmfakdncjeoeaaOpen.strOk (Go.Proofs.YtmmfakdncjeoeaaOpen.sliceOk 8 (Go.Proofs.YtmmfakdncjeoeaaOpen.intOk .i64))) (b_.f0,b_.f1))) l0 → (Go.Proofs.YtmmfakdncjeoeaaOpen.sliceOk 32 (fun b_ : S56 => (Go.Proofs.YtmmfakdncjeoeaaOpen.pairOk (Go.Proofs.YtmmfakdncjeoeaaOpen.intOk .u64) (Go.Proofs.YtmmfakdncjeoeaaOpen.sliceOk 32 (fun b_ : S59 => (Go.Proofs.YtmmfakdncjeoeaaOpen.pairOk (Go.Proofs.YtmmfakdncjeoeaaOpen.intOk .i64) (Go.Proofs.YtmmfakdncjeoeaaOpen.sliceOk 32 (fun b_ : S61 => (Go.Proofs.YtmmfakdncjeoeaaOpen.pairOk (Go.Proofs.YtmmfakdncjeoeaaOpen.intOk .i64) (Go.Proofs.YtmmfakdncjeoeaaOpen.pairOk (Go.Proofs.YtmmfakdncjeoeaaOpen.intOk .i64) Go.Proofs.YtmmfakdncjeoeaaOpen.strOk)) (b_.f0,b_.f1,b_.f2)))) (b_.f0,b_.f1)))) (b_.f0,b_.f1))) l1 → (Lit.int .u16 a2).wf = true → ∃ k,tachographlaw15_UnblockTurned.f k l0 l1 a2 = some true
theorem tachographlaw15_UnblockTurned.walk (P : tachographlaw15_UnblockTurned.Pure) (a0 : Option Addr) (cap0 : Nat) (l0 : List (S53)) (a1 : Option Addr) (cap1 : Nat) (l1 : List (S56)) (a2 : Int) (w : World) (w0 : (Go.Proofs.YtmmfakdncjeoeaaOpen.sliceOk 40 (fun b_ : S53 => (Go.Proofs.YtmmfakdncjeoeaaOpen.pairOk Go.Proofs.YtmmfakdncjeoeaaOpen.strOk (Go.Proofs.YtmmfakdncjeoeaaOpen.sliceOk 8 (Go.Proofs.YtmmfakdncjeoeaaOpen.intOk .i64))) (b_.f0,b_.f1))) l0) (e0 : l0.length ≤ cap0) (C0 : Kd.C k53 w a0 l0.length l0) (w1 : (Go.Proofs.YtmmfakdncjeoeaaOpen.sliceOk 32 (fun b_ : S56 => (Go.Proofs.YtmmfakdncjeoeaaOpen.pairOk (Go.Proofs.YtmmfakdncjeoeaaOpen.intOk .u64) (Go.Proofs.YtmmfakdncjeoeaaOpen.sliceOk 32 (fun b_ : S59 => (Go.Proofs.YtmmfakdncjeoeaaOpen.pairOk (Go.Proofs.YtmmfakdncjeoeaaOpen.intOk .i64) (Go.Proofs.YtmmfakdncjeoeaaOpen.sliceOk 32 (fun b_ : S61 => (Go.Proofs.YtmmfakdncjeoeaaOpen.pairOk (Go.Proofs.YtmmfakdncjeoeaaOpen.intOk .i64) (Go.Proofs.YtmmfakdncjeoeaaOpen.pairOk (Go.Proofs.YtmmfakdncjeoeaaOpen.intOk .i64) Go.Proofs.YtmmfakdncjeoeaaOpen.strOk)) (b_.f0,b_.f1,b_.f2)))) (b_.f0,b_.f1)))) (b_.f0,b_.f1))) l1) (e1 : l1.length ≤ cap1) (C1 : Kd.C k56 w a1 l1.length l1) (w2 : (Lit.int .u16 a2).wf = true) :
  Calls Try.prog 4 #[.slice a0 l0.length cap0,.slice a1 l1.length cap1,.int .u16 a2] w fun e w' => e = .returned (.bool true) ∧ Below w.heap.size w w':=by
 obtain ⟨k,h⟩:=P l0 l1 a2 w0 w1 w2
 refine (tachographlaw15_UnblockTurned.calls k _ _ l0 _ _ l1 a2 true w C0 e0 C1 e1 h).mono ?_
 rintro e w' ⟨rfl,hd⟩
 exact ⟨rfl,hd⟩

end Go.Proofs.Ytmmfakdncjeoeaa.PU
