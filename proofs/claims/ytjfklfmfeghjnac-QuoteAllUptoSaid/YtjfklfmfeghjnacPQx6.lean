-- Contracts of Go functions, each with its plain Lean function: written by wip/tools/myprint.py of this work (the kit's print, with contracts proved by hand spliced in).
import Derived.Test.YtjfklfmfeghjnacPQx0
import Derived.Test.YtjfklfmfeghjnacPQx1
import Derived.Test.YtjfklfmfeghjnacPQx2
import Derived.Test.YtjfklfmfeghjnacPQx5
namespace Go.Proofs.Ytjfklfmfeghjnac.PQ
open Go.RowKit Go.Proofs.YtjfklfmfeghjnacW.PrintWords Go.Proofs.YtjfklfmfeghjnacW.PrintLast Go.Proofs.YtjfklfmfeghjnacW.PrintMore
attribute [local go_sem] max2_int min2_int max_two min_two max_three min_three max_four min_four   -- for this text's walks alone
set_option linter.unusedVariables false
set_option linter.unusedSimpArgs false

/-! ### tachographlaw20_QuoteAll: function 5 -/
mutual
def tachographlaw20_QuoteAll.l0 : Nat → List ByteArray → ByteArray → List ByteArray → Int → Int → Option (Bool)
 | 0, _, _, _, _, _ => none
 | k + 1, x0, x3, x15, x16, x17 => if x17 < x16 then (if 0 ≤ x17 then (if x17 < (x15.length : Int) then (if ((rdOf ByteArray.empty x15 x17).size : Int) > 200 then ((tachographlaw20_fixed.f k).bind fun t191 => (some t191)) else ((quote_Get.f k x3).bind fun bt192 => (if bt192.1.toList = (rdOf ByteArray.empty x15 x17).toList then (if bt192.2.2 = 0 then (if bt192.2.1 > (x3.size : Int) then (tachographlaw20_QuoteAll.j1 k x0 x3 bt192.2.1 x15 x16 x17 true) else (tachographlaw20_QuoteAll.j1 k x0 x3 bt192.2.1 x15 x16 x17 ((decide (bt192.2.1 < (x3.size : Int))) != (decide ((wrap64 (x17 + 1)) < (x0.length : Int)))))) else (tachographlaw20_QuoteAll.j1 k x0 x3 bt192.2.1 x15 x16 x17 true)) else (tachographlaw20_QuoteAll.j1 k x0 x3 bt192.2.1 x15 x16 x17 true)))) else (none)) else (none)) else ((tachographlaw20_fixed.f k).bind fun t189 => (if t189 = true then (some (x3.toList == ([] : List UInt8))) else (some false)))
def tachographlaw20_QuoteAll.j1 : Nat → List ByteArray → ByteArray → Int → List ByteArray → Int → Int → Bool → Option (Bool)
 | 0, _, _, _, _, _, _, _ => none
 | k + 1, x0, x3, x7, x15, x16, x17, x56 => if x56 = true then (some false) else (if 0 ≤ x7 then (if x7 ≤ (x3.size : Int) then (if (x3.extract (x7 : Int).toNat x3.size).toList = ([] : List UInt8) then (tachographlaw20_QuoteAll.l0 k x0 (x3.extract (x7 : Int).toNat x3.size) x15 x16 (wrap64 (x17 + 1))) else (if 0 < ((x3.extract (x7 : Int).toNat x3.size).size : Int) then (if (bt (x3.extract (x7 : Int).toNat x3.size) 0) = 44 then (if 1 ≤ ((x3.extract (x7 : Int).toNat x3.size).size : Int) then (tachographlaw20_QuoteAll.l0 k x0 ((x3.extract (x7 : Int).toNat x3.size).extract 1 (x3.extract (x7 : Int).toNat x3.size).size) x15 x16 (wrap64 (x17 + 1))) else (none)) else (some false)) else (none))) else (none)) else (none))
end
def tachographlaw20_QuoteAll.f (k : Nat) (l0 : List ByteArray) : Option (Bool) := if (l0.length : Int) > 20 then ((tachographlaw20_fixed.f k).bind fun t187 => (some t187)) else ((quote_All.f k l0).bind fun t188 => (tachographlaw20_QuoteAll.l0 k l0 t188 l0 (l0.length : Int) 0))
theorem tachographlaw20_QuoteAll.mono_l : ∀ k, (∀ y0 y1 y2 y3 y4, LeO (tachographlaw20_QuoteAll.l0 k y0 y1 y2 y3 y4) (tachographlaw20_QuoteAll.l0 (k + 1) y0 y1 y2 y3 y4)) ∧ (∀ y0 y1 y2 y3 y4 y5 y6, LeO (tachographlaw20_QuoteAll.j1 k y0 y1 y2 y3 y4 y5 y6) (tachographlaw20_QuoteAll.j1 (k + 1) y0 y1 y2 y3 y4 y5 y6))
 | 0 => ⟨fun _ _ _ _ _ r h => by simp [tachographlaw20_QuoteAll.l0] at h, fun _ _ _ _ _ _ _ r h => by simp [tachographlaw20_QuoteAll.j1] at h⟩
 | k + 1 => by
  obtain ⟨ih0, ih1⟩ := tachographlaw20_QuoteAll.mono_l k
  refine ⟨?_, ?_⟩
  ·intro y0 y1 y2 y3 y4
   unfold tachographlaw20_QuoteAll.l0
   repeat' first
   | (with_reducible exact ih0 _ _ _ _ _)
   | (with_reducible exact ih1 _ _ _ _ _ _ _)
   | (with_reducible exact quote_All.mono _ _)
   | (with_reducible exact quote_Get.mono _ _)
   | (with_reducible exact tachographlaw20_fixed.mono _)
   | (with_reducible exact LeO.refl _)
   | (with_reducible exact LeO.none _)
   | (with_reducible refine LeO.ite ?_ ?_)
   | (with_reducible refine LeO.bind ?_ (fun _ => ?_))
   | exact ih0 _ _ _ _ _
   | exact ih1 _ _ _ _ _ _ _
   | exact quote_All.mono _ _
   | exact quote_Get.mono _ _
   | exact tachographlaw20_fixed.mono _
   | exact LeO.none _
   | refine LeO.ite ?_ ?_
   | refine LeO.bind ?_ (fun _ => ?_)
  ·intro y0 y1 y2 y3 y4 y5 y6
   unfold tachographlaw20_QuoteAll.j1
   repeat' first
   | (with_reducible exact ih0 _ _ _ _ _)
   | (with_reducible exact ih1 _ _ _ _ _ _ _)
   | (with_reducible exact quote_All.mono _ _)
   | (with_reducible exact quote_Get.mono _ _)
   | (with_reducible exact tachographlaw20_fixed.mono _)
   | (with_reducible exact LeO.refl _)
   | (with_reducible exact LeO.none _)
   | (with_reducible refine LeO.ite ?_ ?_)
   | (with_reducible refine LeO.bind ?_ (fun _ => ?_))
   | exact ih0 _ _ _ _ _
   | exact ih1 _ _ _ _ _ _ _
   | exact quote_All.mono _ _
   | exact quote_Get.mono _ _
   | exact tachographlaw20_fixed.mono _
   | exact LeO.none _
   | refine LeO.ite ?_ ?_
   | refine LeO.bind ?_ (fun _ => ?_)
theorem tachographlaw20_QuoteAll.mono : ∀ a0 k, LeO (tachographlaw20_QuoteAll.f k a0) (tachographlaw20_QuoteAll.f (k + 1) a0) := by
 intro a0 k
 obtain ⟨ih0, ih1⟩ := tachographlaw20_QuoteAll.mono_l k
 unfold tachographlaw20_QuoteAll.f
 repeat' first
   | (with_reducible exact ih0 _ _ _ _ _)
   | (with_reducible exact ih1 _ _ _ _ _ _ _)
   | (with_reducible exact quote_All.mono _ _)
   | (with_reducible exact quote_Get.mono _ _)
   | (with_reducible exact tachographlaw20_fixed.mono _)
   | (with_reducible exact LeO.refl _)
   | (with_reducible exact LeO.none _)
   | (with_reducible refine LeO.ite ?_ ?_)
   | (with_reducible refine LeO.bind ?_ (fun _ => ?_))
   | exact ih0 _ _ _ _ _
   | exact ih1 _ _ _ _ _ _ _
   | exact quote_All.mono _ _
   | exact quote_Get.mono _ _
   | exact tachographlaw20_fixed.mono _
   | exact LeO.none _
   | refine LeO.ite ?_ ?_
   | refine LeO.bind ?_ (fun _ => ?_)
set_option maxHeartbeats 8000000 in
set_option maxRecDepth 100000 in
theorem tachographlaw20_QuoteAll.calls (k : Nat) (A0 : Option Addr) (c0 : Nat) (l0 : List ByteArray) (r : Bool) (w : World) (hr0 : Kd.C Kd.string w A0 l0.length l0) (hc0 : l0.length ≤ c0) (h : tachographlaw20_QuoteAll.f k l0 = some r) :
  Calls Try.prog 5 #[.slice A0 l0.length c0] w fun e w' => e = .returned (.bool r) ∧ Below w.heap.size w w':=by
 have HR0:=Aside0.mk hr0
 have HC0:=Aside0.mk hc0
 clear hr0 hc0
 have HB:=Aside0.mk (Below.refl w.heap.size w)
 have H : (if (l0.length : Int) > 20 then ((tachographlaw20_fixed.f k).bind fun t187 => (some t187)) else ((quote_All.f k l0).bind fun t188 => (tachographlaw20_QuoteAll.l0 k l0 t188 l0 (l0.length : Int) 0))) = some r:=h
 clear h
 by_cases c2 : (l0.length : Int) > 20
 ·rw [if_pos c2] at H
  have c2b0 : decide (20 < (l0.length : Int)) = true:=decide_eq_true c2
  have c2b1 : decide (20 < l0.length) = true:=decide_eq_true (by omega)
  clear c2
  replace H:=Option.bind_eq_some_iff.mp H
  obtain ⟨t187,A30,H⟩:=H
  replace H : (some t187) = some r:=H
  have A3:=Aside0.mk A30
  clear A30
  obtain rfl:=Option.some.inj H
  go_enter Try.func5,Try.ntmps5
  go_wp2_with (first | ((with_reducible refine gate_callee (f:=10) rfl ?_);refine goesL_ (some 12) rfl rfl Try.func10 (by kernel_rfl) rfl #[] rfl (by (try simp only [List.map_toArray,List.map_cons,List.map_nil]);first | done | rfl | (simp only [List.length_drop,List.length_take];rfl)) ?_;(with_reducible refine (tachographlaw20_fixed.calls k  t187 _ A3.out).mono ?_);rintro e w4 ⟨rfl,hb⟩;refine ⟨_,rfl,?_⟩;have n0_:=Aside0.mk (below_step (by repeat (first | (with_reducible first | exact HB.out | apply below_alloc | apply pw_below_drewN | apply below_drew1) | exact HB.out)) hb);clear HB;have HB:=n0_;clear n0_;(try clear hb);(try clear hb2);(try clear hk);(try clear hi)))
  go_ret
  exact ⟨by first | rfl | (simp [errW_none,errW_some] <;> rfl) | (simp [*,errW_none,errW_some] <;> rfl),by repeat (first | (with_reducible first | exact HB.out | apply below_alloc | apply pw_below_drewN | apply below_drew1) | exact HB.out)⟩
 ·rw [if_neg c2] at H
  have c2b0 : decide (20 < (l0.length : Int)) = false:=decide_eq_false c2
  have c2b1 : decide (20 < l0.length) = false:=decide_eq_false (by omega)
  clear c2
  replace H:=Option.bind_eq_some_iff.mp H
  obtain ⟨t188,A50,H⟩:=H
  replace H : (tachographlaw20_QuoteAll.l0 k l0 t188 l0 (l0.length : Int) 0) = some r:=H
  have A5:=Aside0.mk A50
  clear A50
  have H':=Aside0.mk H
  clear H
  go_enter Try.func5,Try.ntmps5
  go_wp2_with (first | ((with_reducible refine gate_callee (f:=15) rfl ?_);refine goesL_ (some 14) rfl rfl Try.func15 (by kernel_rfl) rfl #[.slice A0 l0.length c0] rfl (by (try simp only [List.map_toArray,List.map_cons,List.map_nil]);first | done | rfl | (simp only [List.length_drop,List.length_take];rfl)) ?_;(with_reducible refine (quote_All.calls k _ _ l0 t188 _ ?side1 ?side2 A5.out).mono ?_);(case side1 => repeat (first | exact HR0.out | (with_reducible refine Kd.C_alloc ?_ _) | (with_reducible refine Kd.C_drewN ?_ _) | (with_reducible refine Kd.C_drew ?_)));(case side2 => exact HC0.out);rintro e w6 ⟨rfl,hb⟩;refine ⟨_,rfl,?_⟩;have n0_:=Aside0.mk (below_step (by repeat (first | (with_reducible first | exact HB.out | apply below_alloc | apply pw_below_drewN | apply below_drew1) | exact HB.out)) hb);clear HB;have HB:=n0_;clear n0_;(try clear hb);(try clear hb2);(try clear hk);(try clear hi)))
  go_loopg [3,17] k (fun kq v3 v17 w' => ∃ (x3_1 : ByteArray) (x17_1 : Int),v3 = .string x3_1 ∧ v17 = .int .i64 x17_1 ∧ Aside0 (tachographlaw20_QuoteAll.l0 kq l0 x3_1 l0 (l0.length : Int) x17_1 = some r) ∧ Aside0 (kq ≤ k) ∧ Aside0 (Below w.heap.size w w'))
  case atStart => exact ⟨(t188),(0),(by first | rfl | (simp;done) | (simp [*];done)),(by first | rfl | (simp;done) | (simp [*];done)),H',⟨Nat.le_refl _⟩,⟨by repeat (first | (with_reducible first | exact HB.out | apply below_alloc | apply pw_below_drewN | apply below_drew1) | exact HB.out)⟩⟩
  case round =>
   clear H'
   try clear c1
   try clear c2
   try clear c2b0
   try clear c2b1
   try clear p2
   try clear c5
   obtain ⟨x3_1,x17_1,rfl,rfl,HA,HK1,HB⟩:=hrel
   cases gk with
   | zero => exact absurd HA.out (by simp [tachographlaw20_QuoteAll.l0])
   | succ k1 =>
    have H:=HA.out
    clear HA
    simp only [tachographlaw20_QuoteAll.l0] at H
    by_cases c7 : x17_1 < (l0.length : Int)
    ·rw [if_pos c7] at H
     have c7b0 : decide (x17_1 < (l0.length : Int)) = true:=decide_eq_true c7
     clear c7
     by_cases c8 : 0 ≤ x17_1
     ·rw [if_pos c8] at H
      have c8b0 : decide (0 ≤ x17_1) = true:=decide_eq_true c8
      clear c8
      by_cases c9 : x17_1 < (l0.length : Int)
      ·rw [if_pos c9] at H
       have c9b0 : decide (x17_1 < (l0.length : Int)) = true:=decide_eq_true c9
       clear c9
       by_cases c10 : ((rdOf ByteArray.empty l0 x17_1).size : Int) > 200
       ·rw [if_pos c10] at H
        have c10b0 : decide (200 < ((rdOf ByteArray.empty l0 x17_1).size : Int)) = true:=decide_eq_true c10
        have c10b1 : decide (200 < (rdOf ByteArray.empty l0 x17_1).size) = true:=decide_eq_true (by omega)
        clear c10
        replace H:=Option.bind_eq_some_iff.mp H
        obtain ⟨t191,A110,H⟩:=H
        replace H : (some t191) = some r:=H
        have A11:=Aside0.mk A110
        clear A110
        obtain rfl:=Option.some.inj H
        have p190 : 0 ≤ (x17_1 : Int):=of_decide_eq_true (by first | (with_reducible assumption) | assumption)
        have q190 : x17_1 < (l0.length : Int):=of_decide_eq_true (by first | (with_reducible assumption) | assumption)
        obtain ⟨ad190,e190,hx190_0⟩:=Kd.at_string HR0.out x17_1 p190 q190
        cases e190
        replace hx190_0:=(HB.out.cell (World.block_lt_of_cell? w _ hx190_0)).trans hx190_0
        replace p190:=eq_true p190
        have qn_q190:=q190
        replace q190:=eq_true q190
        (try simp only [ByteArray.size_extract,Nat.min_self] at qn_q190)
        (try replace qn_q190:=eq_true qn_q190)
        go_wp2_with (first | ((with_reducible refine gate_callee (f:=10) rfl ?_);refine goesL_ (some 25) rfl rfl Try.func10 (by kernel_rfl) rfl #[] rfl (by (try simp only [List.map_toArray,List.map_cons,List.map_nil]);first | done | rfl | (simp only [List.length_drop,List.length_take];rfl)) ?_;(with_reducible refine (tachographlaw20_fixed.calls k1  t191 _ A11.out).mono ?_);rintro e w12 ⟨rfl,hb⟩;refine ⟨_,rfl,?_⟩;have n0_:=Aside0.mk (below_step (by repeat (first | (with_reducible first | exact HB.out | apply below_alloc | apply pw_below_drewN | apply below_drew1) | exact HB.out)) hb);clear HB;have HB:=n0_;clear n0_;(try clear hb);(try clear hb2);(try clear hk);(try clear hi)))
        go_ret
        exact ⟨by first | rfl | (simp [errW_none,errW_some] <;> rfl) | (simp [*,errW_none,errW_some] <;> rfl),by repeat (first | (with_reducible first | exact HB.out | apply below_alloc | apply pw_below_drewN | apply below_drew1) | exact HB.out)⟩
       ·rw [if_neg c10] at H
        have c10b0 : decide (200 < ((rdOf ByteArray.empty l0 x17_1).size : Int)) = false:=decide_eq_false c10
        have c10b1 : decide (200 < (rdOf ByteArray.empty l0 x17_1).size) = false:=decide_eq_false (by omega)
        clear c10
        replace H:=Option.bind_eq_some_iff.mp H
        obtain ⟨⟨t192,t193,t194⟩,A130,H⟩:=H
        replace H : (if t192.toList = (rdOf ByteArray.empty l0 x17_1).toList then (if t194 = 0 then (if t193 > (x3_1.size : Int) then (tachographlaw20_QuoteAll.j1 k1 l0 x3_1 t193 l0 (l0.length : Int) x17_1 true) else (tachographlaw20_QuoteAll.j1 k1 l0 x3_1 t193 l0 (l0.length : Int) x17_1 ((decide (t193 < (x3_1.size : Int))) != (decide ((wrap64 (x17_1 + 1)) < (l0.length : Int)))))) else (tachographlaw20_QuoteAll.j1 k1 l0 x3_1 t193 l0 (l0.length : Int) x17_1 true)) else (tachographlaw20_QuoteAll.j1 k1 l0 x3_1 t193 l0 (l0.length : Int) x17_1 true)) = some r:=H
        have A13:=Aside0.mk A130
        clear A130
        have HC14:=Aside0.mk H
        clear H
        have p190 : 0 ≤ (x17_1 : Int):=of_decide_eq_true (by first | (with_reducible assumption) | assumption)
        have q190 : x17_1 < (l0.length : Int):=of_decide_eq_true (by first | (with_reducible assumption) | assumption)
        obtain ⟨ad190,e190,hx190_0⟩:=Kd.at_string HR0.out x17_1 p190 q190
        cases e190
        replace hx190_0:=(HB.out.cell (World.block_lt_of_cell? w _ hx190_0)).trans hx190_0
        replace p190:=eq_true p190
        have qn_q190:=q190
        replace q190:=eq_true q190
        (try simp only [ByteArray.size_extract,Nat.min_self] at qn_q190)
        (try replace qn_q190:=eq_true qn_q190)
        go_upto_region 10 with (first | ((with_reducible refine gate_callee (f:=12) rfl ?_);refine goesL_ (some 28) rfl rfl Try.func12 (by kernel_rfl) rfl #[.string x3_1] rfl (by (try simp only [List.map_toArray,List.map_cons,List.map_nil]);first | done | rfl | (simp only [List.length_drop,List.length_take];rfl)) ?_;(with_reducible refine (quote_Get.calls k1 x3_1 t192 t193 t194 _ A13.out).mono ?_);rintro e w15 ⟨rfl,hb⟩;refine ⟨_,rfl,?_⟩;have n0_:=Aside0.mk (below_step (by repeat (first | (with_reducible first | exact HB.out | apply below_alloc | apply pw_below_drewN | apply below_drew1) | exact HB.out)) hb);clear HB;have HB:=n0_;clear n0_;(try clear hb);(try clear hb2);(try clear hk);(try clear hi)))
        (try simp only [Act.put,List.setIfInBounds_toArray,List.set_cons_zero,List.set_cons_succ])
        go_cut [56] (fun v56 wc => ∃ (kq : Nat) (x56_13 : Bool),v56 = .bool x56_13 ∧ Aside0 (tachographlaw20_QuoteAll.j1 kq l0 x3_1 t193 l0 (l0.length : Int) x17_1 x56_13 = some r) ∧ Aside0 (kq ≤ k1) ∧ Aside0 (Below w.heap.size w wc))
        case first =>
         have H:=HC14.out
         clear HC14
         by_cases c16 : t192.toList = (rdOf ByteArray.empty l0 x17_1).toList
         ·rw [if_pos c16] at H
          have c16b0 : (t192.toList == (rdOf ByteArray.empty l0 x17_1).toList) = true:=beq_iff_eq.mpr c16
          have c16b1 : (t192.toList != (rdOf ByteArray.empty l0 x17_1).toList) = false:=bne_eq_false_iff_eq.mpr c16
          clear c16
          (first | rw [c16b0] | (simp only [i64_w,i32_w];rw [c16b0]) | skip)
          by_cases c17 : t194 = 0
          ·rw [if_pos c17] at H
           have c17b0 : (t194 == 0) = true:=beq_iff_eq.mpr c17
           have c17b1 : (t194 != 0) = false:=bne_eq_false_iff_eq.mpr c17
           clear c17
           by_cases c18 : t193 > (x3_1.size : Int)
           ·rw [if_pos c18] at H
            have c18b0 : decide ((x3_1.size : Int) < t193) = true:=decide_eq_true c18
            clear c18
            have H':=Aside0.mk H
            clear H
            go_wp2
            go_meet
            case rel => exact ⟨_,(true),(by first | rfl | (simp;done) | (simp [*];done)),H',⟨by have:=HK1.out;first | omega | exact Nat.le_refl _⟩,⟨by repeat (first | (with_reducible first | exact HB.out | apply below_alloc | apply pw_below_drewN | apply below_drew1) | exact HB.out)⟩⟩
           ·rw [if_neg c18] at H
            have c18b0 : decide ((x3_1.size : Int) < t193) = false:=decide_eq_false c18
            clear c18
            have H':=Aside0.mk H
            clear H
            go_wp2
            go_meet
            case rel => exact ⟨_,(((decide (t193 < (x3_1.size : Int))) != (decide ((wrap64 (x17_1 + 1)) < (l0.length : Int))))),(by first | rfl | (simp;done) | (simp [*];done)),H',⟨by have:=HK1.out;first | omega | exact Nat.le_refl _⟩,⟨by repeat (first | (with_reducible first | exact HB.out | apply below_alloc | apply pw_below_drewN | apply below_drew1) | exact HB.out)⟩⟩
          ·rw [if_neg c17] at H
           have c17b0 : (t194 == 0) = false:=beq_eq_false_iff_ne.mpr c17
           have c17b1 : (t194 != 0) = true:=bne_iff_ne.mpr c17
           have H':=Aside0.mk H
           clear H
           go_wp2
           go_meet
           case rel => exact ⟨_,(true),(by first | rfl | (simp;done) | (simp [*];done)),H',⟨by have:=HK1.out;first | omega | exact Nat.le_refl _⟩,⟨by repeat (first | (with_reducible first | exact HB.out | apply below_alloc | apply pw_below_drewN | apply below_drew1) | exact HB.out)⟩⟩
         ·rw [if_neg c16] at H
          have c16b0 : (t192.toList == (rdOf ByteArray.empty l0 x17_1).toList) = false:=beq_eq_false_iff_ne.mpr c16
          have c16b1 : (t192.toList != (rdOf ByteArray.empty l0 x17_1).toList) = true:=bne_iff_ne.mpr c16
          (first | rw [c16b0] | (simp only [i64_w,i32_w];rw [c16b0]) | skip)
          have H':=Aside0.mk H
          clear H
          go_wp2
          go_meet
          case rel => exact ⟨_,(true),(by first | rfl | (simp;done) | (simp [*];done)),H',⟨by have:=HK1.out;first | omega | exact Nat.le_refl _⟩,⟨by repeat (first | (with_reducible first | exact HB.out | apply below_alloc | apply pw_below_drewN | apply below_drew1) | exact HB.out)⟩⟩
        case rest =>
         clear HC14
         try clear c1
         try clear p1
         try clear q1
         try clear hx1
         try clear c2
         try clear c2b0
         try clear c2b1
         try clear p2
         try clear c5
         try clear p6
         try clear c7
         try clear c7b0
         try clear c8
         try clear c8b0
         try clear c9
         try clear c9b0
         try clear c10
         try clear c10b0
         try clear c10b1
         try clear c12
         try clear c15
         try clear c16
         try clear c16b0
         try clear c16b1
         try clear c17
         try clear c17b0
         try clear c17b1
         try clear c18
         try clear c18b0
         try clear hx190_0
         try clear p190
         try clear p2
         try clear q190
         obtain ⟨kq,x56_13,rfl,HA,HJ13,HB⟩:=hcut
         cases kq with
         | zero => exact absurd HA.out (by simp [tachographlaw20_QuoteAll.j1])
         | succ kj13 =>
          have H:=HA.out
          clear HA
          simp only [tachographlaw20_QuoteAll.j1] at H
          by_cases c19 : x56_13 = true
          ·subst c19
           have H1 : (some false) = some r:=by rw [if_pos rfl] at H;exact H
           clear H
           have H:=H1
           clear H1
           obtain rfl:=Option.some.inj H
           go_wp2
           go_ret
           exact ⟨by first | rfl | (simp [errW_none,errW_some] <;> rfl) | (simp [*,errW_none,errW_some] <;> rfl),by repeat (first | (with_reducible first | exact HB.out | apply below_alloc | apply pw_below_drewN | apply below_drew1) | exact HB.out)⟩
          ·replace c19:=Bool.eq_false_iff.mpr c19
           subst c19
           have H1 : (if 0 ≤ t193 then (if t193 ≤ (x3_1.size : Int) then (if (x3_1.extract (t193 : Int).toNat x3_1.size).toList = ([] : List UInt8) then (tachographlaw20_QuoteAll.l0 kj13 l0 (x3_1.extract (t193 : Int).toNat x3_1.size) l0 (l0.length : Int) (wrap64 (x17_1 + 1))) else (if 0 < ((x3_1.extract (t193 : Int).toNat x3_1.size).size : Int) then (if (bt (x3_1.extract (t193 : Int).toNat x3_1.size) 0) = 44 then (if 1 ≤ ((x3_1.extract (t193 : Int).toNat x3_1.size).size : Int) then (tachographlaw20_QuoteAll.l0 kj13 l0 ((x3_1.extract (t193 : Int).toNat x3_1.size).extract 1 (x3_1.extract (t193 : Int).toNat x3_1.size).size) l0 (l0.length : Int) (wrap64 (x17_1 + 1))) else (none)) else (some false)) else (none))) else (none)) else (none)) = some r:=by rw [if_neg (show ¬ (false = true) by decide)] at H;exact H
           clear H
           have H:=H1
           clear H1
           by_cases c20 : 0 ≤ t193
           ·rw [if_pos c20] at H
            have c20b0:=eq_true c20
            (try have cn_c20:=c20;simp only [ByteArray.size_extract,Nat.min_self] at cn_c20;replace cn_c20:=eq_true cn_c20)
            have c20b1 : decide (0 ≤ t193) = true:=decide_eq_true c20
            clear c20
            by_cases c21 : t193 ≤ (x3_1.size : Int)
            ·rw [if_pos c21] at H
             have c21b0:=eq_true c21
             (try have cn_c21:=c21;simp only [ByteArray.size_extract,Nat.min_self] at cn_c21;replace cn_c21:=eq_true cn_c21)
             have c21b1 : decide (t193 ≤ (x3_1.size : Int)) = true:=decide_eq_true c21
             clear c21
             by_cases c22 : (x3_1.extract (t193 : Int).toNat x3_1.size).toList = ([] : List UInt8)
             ·rw [if_pos c22] at H
              have c22b0 : ((x3_1.extract (t193 : Int).toNat x3_1.size).toList == ([] : List UInt8)) = true:=beq_iff_eq.mpr c22
              have c22b1 : ((x3_1.extract (t193 : Int).toNat x3_1.size).toList != ([] : List UInt8)) = false:=bne_eq_false_iff_eq.mpr c22
              clear c22
              have H':=Aside0.mk H
              clear H
              go_wp2
              go_roundg kj13
              case measure => have:=HK1.out;have:=HJ13.out;omega
              case rel => exact ⟨(x3_1.extract (t193 : Int).toNat x3_1.size),(wrap64 (x17_1 + 1)),(by first | rfl | (simp;done) | (simp [*];done)),(by first | rfl | (simp;done) | (simp [*];done)),H',⟨by have:=HK1.out;have:=HJ13.out;omega⟩,⟨by repeat (first | (with_reducible first | exact HB.out | apply below_alloc | apply pw_below_drewN | apply below_drew1) | exact HB.out)⟩⟩
             ·rw [if_neg c22] at H
              have c22b0 : ((x3_1.extract (t193 : Int).toNat x3_1.size).toList == ([] : List UInt8)) = false:=beq_eq_false_iff_ne.mpr c22
              have c22b1 : ((x3_1.extract (t193 : Int).toNat x3_1.size).toList != ([] : List UInt8)) = true:=bne_iff_ne.mpr c22
              by_cases c23 : 0 < ((x3_1.extract (t193 : Int).toNat x3_1.size).size : Int)
              ·rw [if_pos c23] at H
               have c23b0 : decide (0 < ((x3_1.extract (t193 : Int).toNat x3_1.size).size : Int)) = true:=decide_eq_true c23
               have c23b1 : decide (0 < (x3_1.extract (t193 : Int).toNat x3_1.size).size) = true:=decide_eq_true (by omega)
               clear c23
               by_cases c25 : (bt (x3_1.extract (t193 : Int).toNat x3_1.size) 0) = 44
               ·rw [if_pos c25] at H
                have c25b0 : ((bt (x3_1.extract (t193 : Int).toNat x3_1.size) 0) == 44) = true:=beq_iff_eq.mpr c25
                have c25b1 : ((bt (x3_1.extract (t193 : Int).toNat x3_1.size) 0) != 44) = false:=bne_eq_false_iff_eq.mpr c25
                clear c25
                by_cases c26 : 1 ≤ ((x3_1.extract (t193 : Int).toNat x3_1.size).size : Int)
                ·rw [if_pos c26] at H
                 have c26b0:=eq_true c26
                 (try have cn_c26:=c26;simp only [ByteArray.size_extract,Nat.min_self] at cn_c26;replace cn_c26:=eq_true cn_c26)
                 have c26b1 : decide (1 ≤ ((x3_1.extract (t193 : Int).toNat x3_1.size).size : Int)) = true:=decide_eq_true c26
                 clear c26
                 have H':=Aside0.mk H
                 clear H
                 have p24 : 0 ≤ (0 : Int):=(by omega)
                 have q24 : 0 < (x3_1.extract (t193 : Int).toNat x3_1.size).size:=(by have : (0 : Int) < ((x3_1.extract (t193 : Int).toNat x3_1.size).size : Int):=of_decide_eq_true (by first | (with_reducible assumption) | assumption);omega)
                 have hx24 : ∀ h : 0 < (x3_1.extract (t193 : Int).toNat x3_1.size).size,(((x3_1.extract (t193 : Int).toNat x3_1.size)[0]'h).toNat : Int) = bt (x3_1.extract (t193 : Int).toNat x3_1.size) 0:=bt_at (x3_1.extract (t193 : Int).toNat x3_1.size) 0
                 clear p24
                 have qi24 : (0 < ((x3_1.extract (t193 : Int).toNat x3_1.size).size : Int)) = True:=eq_true (of_decide_eq_true (by first | (with_reducible assumption) | assumption))
                 have qn_q24:=q24
                 replace q24:=eq_true q24
                 (try simp only [ByteArray.size_extract,Nat.min_self] at qn_q24)
                 (try replace qn_q24:=eq_true qn_q24)
                 go_wp2
                 go_roundg kj13
                 case measure => have:=HK1.out;have:=HJ13.out;omega
                 case rel => exact ⟨((x3_1.extract (t193 : Int).toNat x3_1.size).extract 1 (x3_1.extract (t193 : Int).toNat x3_1.size).size),(wrap64 (x17_1 + 1)),(by first | rfl | (simp;done) | (simp [*];done)),(by first | rfl | (simp;done) | (simp [*];done)),H',⟨by have:=HK1.out;have:=HJ13.out;omega⟩,⟨by repeat (first | (with_reducible first | exact HB.out | apply below_alloc | apply pw_below_drewN | apply below_drew1) | exact HB.out)⟩⟩
                ·rw [if_neg c26] at H
                 exact absurd H (by simp)
               ·rw [if_neg c25] at H
                have c25b0 : ((bt (x3_1.extract (t193 : Int).toNat x3_1.size) 0) == 44) = false:=beq_eq_false_iff_ne.mpr c25
                have c25b1 : ((bt (x3_1.extract (t193 : Int).toNat x3_1.size) 0) != 44) = true:=bne_iff_ne.mpr c25
                obtain rfl:=Option.some.inj H
                have p24 : 0 ≤ (0 : Int):=(by omega)
                have q24 : 0 < (x3_1.extract (t193 : Int).toNat x3_1.size).size:=(by have : (0 : Int) < ((x3_1.extract (t193 : Int).toNat x3_1.size).size : Int):=of_decide_eq_true (by first | (with_reducible assumption) | assumption);omega)
                have hx24 : ∀ h : 0 < (x3_1.extract (t193 : Int).toNat x3_1.size).size,(((x3_1.extract (t193 : Int).toNat x3_1.size)[0]'h).toNat : Int) = bt (x3_1.extract (t193 : Int).toNat x3_1.size) 0:=bt_at (x3_1.extract (t193 : Int).toNat x3_1.size) 0
                clear p24
                have qi24 : (0 < ((x3_1.extract (t193 : Int).toNat x3_1.size).size : Int)) = True:=eq_true (of_decide_eq_true (by first | (with_reducible assumption) | assumption))
                have qn_q24:=q24
                replace q24:=eq_true q24
                (try simp only [ByteArray.size_extract,Nat.min_self] at qn_q24)
                (try replace qn_q24:=eq_true qn_q24)
                go_wp2
                go_ret
                exact ⟨by first | rfl | (simp [errW_none,errW_some] <;> rfl) | (simp [*,errW_none,errW_some] <;> rfl),by repeat (first | (with_reducible first | exact HB.out | apply below_alloc | apply pw_below_drewN | apply below_drew1) | exact HB.out)⟩
              ·rw [if_neg c23] at H
               exact absurd H (by simp)
            ·rw [if_neg c21] at H
             exact absurd H (by simp)
           ·rw [if_neg c20] at H
            exact absurd H (by simp)
      ·rw [if_neg c9] at H
       exact absurd H (by simp)
     ·rw [if_neg c8] at H
      exact absurd H (by simp)
    ·rw [if_neg c7] at H
     have c7b0 : decide (x17_1 < (l0.length : Int)) = false:=decide_eq_false c7
     clear c7
     replace H:=Option.bind_eq_some_iff.mp H
     obtain ⟨t189,A270,H⟩:=H
     replace H : (if t189 = true then (some (x3_1.toList == ([] : List UInt8))) else (some false)) = some r:=H
     have A27:=Aside0.mk A270
     clear A270
     by_cases c28 : t189 = true
     ·subst c28
      have H1 : (some (x3_1.toList == ([] : List UInt8))) = some r:=by rw [if_pos rfl] at H;exact H
      clear H
      have H:=H1
      clear H1
      obtain rfl:=Option.some.inj H
      go_wp2_with (first | ((with_reducible refine gate_callee (f:=10) rfl ?_);refine goesL_ (some 68) rfl rfl Try.func10 (by kernel_rfl) rfl #[] rfl (by (try simp only [List.map_toArray,List.map_cons,List.map_nil]);first | done | rfl | (simp only [List.length_drop,List.length_take];rfl)) ?_;(with_reducible refine (tachographlaw20_fixed.calls k1  true _ A27.out).mono ?_);rintro e w29 ⟨rfl,hb⟩;refine ⟨_,rfl,?_⟩;have n0_:=Aside0.mk (below_step (by repeat (first | (with_reducible first | exact HB.out | apply below_alloc | apply pw_below_drewN | apply below_drew1) | exact HB.out)) hb);clear HB;have HB:=n0_;clear n0_;(try clear hb);(try clear hb2);(try clear hk);(try clear hi)))
      go_ret
      exact ⟨by first | rfl | (simp [errW_none,errW_some] <;> rfl) | (simp [*,errW_none,errW_some] <;> rfl),by repeat (first | (with_reducible first | exact HB.out | apply below_alloc | apply pw_below_drewN | apply below_drew1) | exact HB.out)⟩
     ·replace c28:=Bool.eq_false_iff.mpr c28
      subst c28
      have H1 : (some false) = some r:=by rw [if_neg (show ¬ (false = true) by decide)] at H;exact H
      clear H
      have H:=H1
      clear H1
      obtain rfl:=Option.some.inj H
      go_wp2_with (first | ((with_reducible refine gate_callee (f:=10) rfl ?_);refine goesL_ (some 68) rfl rfl Try.func10 (by kernel_rfl) rfl #[] rfl (by (try simp only [List.map_toArray,List.map_cons,List.map_nil]);first | done | rfl | (simp only [List.length_drop,List.length_take];rfl)) ?_;(with_reducible refine (tachographlaw20_fixed.calls k1  false _ A27.out).mono ?_);rintro e w30 ⟨rfl,hb⟩;refine ⟨_,rfl,?_⟩;have n0_:=Aside0.mk (below_step (by repeat (first | (with_reducible first | exact HB.out | apply below_alloc | apply pw_below_drewN | apply below_drew1) | exact HB.out)) hb);clear HB;have HB:=n0_;clear n0_;(try clear hb);(try clear hb2);(try clear hk);(try clear hi)))
      go_ret
      exact ⟨by first | rfl | (simp [errW_none,errW_some] <;> rfl) | (simp [*,errW_none,errW_some] <;> rfl),by repeat (first | (with_reducible first | exact HB.out | apply below_alloc | apply pw_below_drewN | apply below_drew1) | exact HB.out)⟩

/-- THE ONE PURE STATEMENT of tachographlaw20_QuoteAll: yours. -/
def tachographlaw20_QuoteAll.Pure : Prop:=∀ (l0 : List ByteArray),(Go.Proofs.YtjfklfmfeghjnacOpen.sliceOk 16 Go.Proofs.YtjfklfmfeghjnacOpen.strOk) l0 → ((Go.Proofs.YtjfklfmfeghjnacOpen.sliceBulk Go.Proofs.YtjfklfmfeghjnacOpen.strBulk) l0 ≤ 1048576) → ∃ k,tachographlaw20_QuoteAll.f k l0 = some true
theorem tachographlaw20_QuoteAll.walk (P : tachographlaw20_QuoteAll.Pure) (a0 : Option Addr) (cap0 : Nat) (l0 : List ByteArray) (w : World) (w0 : (Go.Proofs.YtjfklfmfeghjnacOpen.sliceOk 16 Go.Proofs.YtjfklfmfeghjnacOpen.strOk) l0) (e0 : l0.length ≤ cap0) (C0 : Kd.C Kd.string w a0 l0.length l0) (hbk : (Go.Proofs.YtjfklfmfeghjnacOpen.sliceBulk Go.Proofs.YtjfklfmfeghjnacOpen.strBulk) l0 ≤ 1048576) :
  Calls Try.prog 5 #[.slice a0 l0.length cap0] w fun e w' => e = .returned (.bool true) ∧ Below w.heap.size w w':=by
 obtain ⟨k,h⟩:=P l0 w0 hbk
 refine (tachographlaw20_QuoteAll.calls k _ _ l0 true w C0 e0 h).mono ?_
 rintro e w' ⟨rfl,hd⟩
 exact ⟨rfl,hd⟩

end Go.Proofs.Ytjfklfmfeghjnac.PQ
