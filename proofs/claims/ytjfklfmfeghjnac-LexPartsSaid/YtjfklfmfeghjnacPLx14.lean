-- Contracts of Go functions, each with its plain Lean function: written by wip/tools/myprint.py of this work (the kit's print, with contracts proved by hand spliced in).
import Derived.Test.YtjfklfmfeghjnacPLx0
import Derived.Test.YtjfklfmfeghjnacPLx13
namespace Go.Proofs.Ytjfklfmfeghjnac.PL
open Go.RowKit Go.Proofs.YtjfklfmfeghjnacW.PrintWords Go.Proofs.YtjfklfmfeghjnacW.PrintLast Go.Proofs.YtjfklfmfeghjnacW.PrintMore
attribute [local go_sem] max2_int min2_int max_two min_two max_three min_three max_four min_four   -- for this text's walks alone
set_option linter.unusedVariables false
set_option linter.unusedSimpArgs false

/-! ### tachographref20_Get: function 14 -/
mutual
def tachographref20_Get.l0 : Nat → ByteArray → ByteArray → Int → Option (ByteArray × Int × Int)
 | 0, _, _, _ => none
 | k + 1, x0, x5, x6 => if x6 < (x0.size : Int) then (if 0 ≤ x6 then (tachographref20_Get.j1 k x0 x5 x6 ((bt x0 x6) != 34)) else (none)) else (tachographref20_Get.j1 k x0 x5 x6 false)
def tachographref20_Get.j1 : Nat → ByteArray → ByteArray → Int → Bool → Option (ByteArray × Int × Int)
 | 0, _, _, _, _ => none
 | k + 1, x0, x5, x6, x22 => if x22 = true then (if 0 ≤ x6 then (if x6 ≤ (x0.size : Int) then ((tachographref20_next.f k (x0.extract (x6 : Int).toNat x0.size)).bind fun bt226 => (if bt226.2.2 = 0 then ((some (([bt226.1] : List Int) : List Int)).bind fun y230 => (if x5.size + (strOfNums y230).size ≤ 9223372036854775807 then (tachographref20_Get.l0 k x0 (x5 ++ (strOfNums y230)) (wrap64 (x6 + bt226.2.1))) else (none))) else (some ((⟨#[]⟩ : ByteArray), 0, bt226.2.2)))) else (none)) else (none)) else (if x6 = (x0.size : Int) then (some ((⟨#[]⟩ : ByteArray), 0, 2)) else (if (x5.size : Int) > 200 then (some ((⟨#[]⟩ : ByteArray), 0, 6)) else (some (x5, wrap64 (x6 + 1), 0))))
end
def tachographref20_Get.f (k : Nat) (a0 : ByteArray) : Option (ByteArray × Int × Int) := if a0.toList = ([] : List UInt8) then (some ((⟨#[]⟩ : ByteArray), 0, 2)) else (if 0 < (a0.size : Int) then (if (bt a0 0) = 34 then (tachographref20_Get.l0 k a0 (⟨#[]⟩ : ByteArray) 1) else (some ((⟨#[]⟩ : ByteArray), 0, 4))) else (none))
theorem tachographref20_Get.mono_l : ∀ k, (∀ y0 y1 y2, LeO (tachographref20_Get.l0 k y0 y1 y2) (tachographref20_Get.l0 (k + 1) y0 y1 y2)) ∧ (∀ y0 y1 y2 y3, LeO (tachographref20_Get.j1 k y0 y1 y2 y3) (tachographref20_Get.j1 (k + 1) y0 y1 y2 y3))
 | 0 => ⟨fun _ _ _ r h => by simp [tachographref20_Get.l0] at h, fun _ _ _ _ r h => by simp [tachographref20_Get.j1] at h⟩
 | k + 1 => by
  obtain ⟨ih0, ih1⟩ := tachographref20_Get.mono_l k
  refine ⟨?_, ?_⟩
  ·intro y0 y1 y2
   unfold tachographref20_Get.l0
   repeat' first
   | (with_reducible exact ih0 _ _ _)
   | (with_reducible exact ih1 _ _ _ _)
   | (with_reducible exact tachographref20_next.mono _ _)
   | (with_reducible exact LeO.refl _)
   | (with_reducible exact LeO.none _)
   | (with_reducible refine LeO.ite ?_ ?_)
   | (with_reducible refine LeO.bind ?_ (fun _ => ?_))
   | exact ih0 _ _ _
   | exact ih1 _ _ _ _
   | exact tachographref20_next.mono _ _
   | exact LeO.none _
   | refine LeO.ite ?_ ?_
   | refine LeO.bind ?_ (fun _ => ?_)
  ·intro y0 y1 y2 y3
   unfold tachographref20_Get.j1
   repeat' first
   | (with_reducible exact ih0 _ _ _)
   | (with_reducible exact ih1 _ _ _ _)
   | (with_reducible exact tachographref20_next.mono _ _)
   | (with_reducible exact LeO.refl _)
   | (with_reducible exact LeO.none _)
   | (with_reducible refine LeO.ite ?_ ?_)
   | (with_reducible refine LeO.bind ?_ (fun _ => ?_))
   | exact ih0 _ _ _
   | exact ih1 _ _ _ _
   | exact tachographref20_next.mono _ _
   | exact LeO.none _
   | refine LeO.ite ?_ ?_
   | refine LeO.bind ?_ (fun _ => ?_)
theorem tachographref20_Get.mono : ∀ a0 k, LeO (tachographref20_Get.f k a0) (tachographref20_Get.f (k + 1) a0) := by
 intro a0 k
 obtain ⟨ih0, ih1⟩ := tachographref20_Get.mono_l k
 unfold tachographref20_Get.f
 repeat' first
   | (with_reducible exact ih0 _ _ _)
   | (with_reducible exact ih1 _ _ _ _)
   | (with_reducible exact tachographref20_next.mono _ _)
   | (with_reducible exact LeO.refl _)
   | (with_reducible exact LeO.none _)
   | (with_reducible refine LeO.ite ?_ ?_)
   | (with_reducible refine LeO.bind ?_ (fun _ => ?_))
   | exact ih0 _ _ _
   | exact ih1 _ _ _ _
   | exact tachographref20_next.mono _ _
   | exact LeO.none _
   | refine LeO.ite ?_ ?_
   | refine LeO.bind ?_ (fun _ => ?_)
set_option maxHeartbeats 8000000 in
set_option maxRecDepth 100000 in
theorem tachographref20_Get.calls (k : Nat) (a0 : ByteArray) (r1 : ByteArray) (r2 : Int) (r3 : Int) (w : World) (h : tachographref20_Get.f k a0 = some (r1,r2,r3)) :
  Calls Try.prog 14 #[.string a0] w fun e w' => e = .returned (.tuple #[.string r1,.int .i64 r2,.int .i64 r3]) ∧ Below w.heap.size w w':=by
 have hu71:=Try.underlying71
 have HB:=Aside0.mk (Below.refl w.heap.size w)
 have H : (if a0.toList = ([] : List UInt8) then (some ((⟨#[]⟩ : ByteArray),0,2)) else (if 0 < (a0.size : Int) then (if (bt a0 0) = 34 then (tachographref20_Get.l0 k a0 (⟨#[]⟩ : ByteArray) 1) else (some ((⟨#[]⟩ : ByteArray),0,4))) else (none))) = some (r1,r2,r3):=h
 clear h
 by_cases c2 : a0.toList = ([] : List UInt8)
 ·rw [if_pos c2] at H
  have c2b0 : (a0.toList == ([] : List UInt8)) = true:=beq_iff_eq.mpr c2
  have c2b1 : (a0.toList != ([] : List UInt8)) = false:=bne_eq_false_iff_eq.mpr c2
  clear c2
  simp only [Option.some.injEq,Prod.mk.injEq] at H
  obtain ⟨rfl,rfl,rfl⟩:=H
  go_enter Try.func14,Try.ntmps14
  go_wp2
  repeat (go_quiet (fail);try go_wp2)
  go_ret3
  exact ⟨by first | rfl | (simp [errW_none,errW_some] <;> rfl) | (simp [*,errW_none,errW_some] <;> rfl),by repeat (first | (with_reducible first | exact HB.out | apply below_alloc | apply pw_below_drewN | apply below_drew1) | exact HB.out)⟩
 ·rw [if_neg c2] at H
  have c2b0 : (a0.toList == ([] : List UInt8)) = false:=beq_eq_false_iff_ne.mpr c2
  have c2b1 : (a0.toList != ([] : List UInt8)) = true:=bne_iff_ne.mpr c2
  by_cases c3 : 0 < (a0.size : Int)
  ·rw [if_pos c3] at H
   have c3b0 : decide (0 < (a0.size : Int)) = true:=decide_eq_true c3
   have c3b1 : decide (0 < a0.size) = true:=decide_eq_true (by omega)
   clear c3
   by_cases c5 : (bt a0 0) = 34
   ·rw [if_pos c5] at H
    have c5b0 : ((bt a0 0) == 34) = true:=beq_iff_eq.mpr c5
    have c5b1 : ((bt a0 0) != 34) = false:=bne_eq_false_iff_eq.mpr c5
    clear c5
    have H':=Aside0.mk H
    clear H
    have p4 : 0 ≤ (0 : Int):=(by omega)
    have q4 : 0 < a0.size:=(by have : (0 : Int) < (a0.size : Int):=of_decide_eq_true (by first | (with_reducible assumption) | assumption);omega)
    have hx4 : ∀ h : 0 < a0.size,((a0[0]'h).toNat : Int) = bt a0 0:=bt_at a0 0
    clear p4
    have qi4 : (0 < (a0.size : Int)) = True:=eq_true (of_decide_eq_true (by first | (with_reducible assumption) | assumption))
    replace q4:=eq_true q4
    go_enter Try.func14,Try.ntmps14
    go_wp2
    repeat (go_quiet (fail);try go_wp2)
    go_loopg [5,6] k (fun kq v5 v6 w' => ∃ (x5_1 : ByteArray) (x6_1 : Int),v5 = .string x5_1 ∧ v6 = .int .i64 x6_1 ∧ Aside0 (tachographref20_Get.l0 kq a0 x5_1 x6_1 = some (r1,r2,r3)) ∧ Aside0 (kq ≤ k) ∧ Aside0 (Below w.heap.size w w'))
    case atStart => exact ⟨((⟨#[]⟩ : ByteArray)),(1),(by first | rfl | (simp;done) | (simp [*];done)),(by first | rfl | (simp;done) | (simp [*];done)),H',⟨Nat.le_refl _⟩,⟨by repeat (first | (with_reducible first | exact HB.out | apply below_alloc | apply pw_below_drewN | apply below_drew1) | exact HB.out)⟩⟩
    case round =>
     clear H'
     try clear c1
     try clear c2
     try clear c2b0
     try clear c2b1
     try clear p2
     try clear c3
     try clear c3b0
     try clear c3b1
     try clear p4
     try clear q4
     try clear hx4
     try clear qi4
     try clear c5
     try clear c5b0
     try clear c5b1
     try clear p4
     try clear q4
     obtain ⟨x5_1,x6_1,rfl,rfl,HA,HK1,HB⟩:=hrel
     cases gk with
     | zero => exact absurd HA.out (by simp [tachographref20_Get.l0])
     | succ k1 =>
      have H:=HA.out
      clear HA
      simp only [tachographref20_Get.l0] at H
      have HC6:=Aside0.mk H
      clear H
      go_upto_region 7 with (fail)
      repeat (go_quiet (fail);go_upto_region 7 with (fail))
      go_cut [22] (fun v22 wc => ∃ (kq : Nat) (x22_5 : Bool),v22 = .bool x22_5 ∧ Aside0 (tachographref20_Get.j1 kq a0 x5_1 x6_1 x22_5 = some (r1,r2,r3)) ∧ Aside0 (kq ≤ k1) ∧ Aside0 (Below w.heap.size w wc))
      case first =>
       have H:=HC6.out
       clear HC6
       by_cases c7 : x6_1 < (a0.size : Int)
       ·rw [if_pos c7] at H
        have c7b0 : decide (x6_1 < (a0.size : Int)) = true:=decide_eq_true c7
        clear c7
        (first | rw [c7b0] | (simp only [i64_w,i32_w];rw [c7b0]) | skip)
        by_cases c8 : 0 ≤ x6_1
        ·rw [if_pos c8] at H
         have c8b0 : decide (0 ≤ x6_1) = true:=decide_eq_true c8
         clear c8
         have H':=Aside0.mk H
         clear H
         have p9 : 0 ≤ (x6_1 : Int):=of_decide_eq_true (by first | (with_reducible assumption) | assumption)
         have q9 : x6_1 < (a0.size : Int):=of_decide_eq_true (by first | (with_reducible assumption) | assumption)
         have hx9:=bt_at a0 x6_1
         replace p9:=eq_true p9
         replace q9:=eq_true q9
         go_wp2
         repeat (go_quiet (fail);try go_wp2)
         go_meet
         case rel => exact ⟨_,(((bt a0 x6_1) != 34)),(by first | rfl | (simp;done) | (simp [*];done)),H',⟨by have:=HK1.out;first | omega | exact Nat.le_refl _⟩,⟨by repeat (first | (with_reducible first | exact HB.out | apply below_alloc | apply pw_below_drewN | apply below_drew1) | exact HB.out)⟩⟩
        ·rw [if_neg c8] at H
         exact absurd H (by simp)
       ·rw [if_neg c7] at H
        have c7b0 : decide (x6_1 < (a0.size : Int)) = false:=decide_eq_false c7
        clear c7
        (first | rw [c7b0] | (simp only [i64_w,i32_w];rw [c7b0]) | skip)
        have H':=Aside0.mk H
        clear H
        go_wp2
        repeat (go_quiet (fail);try go_wp2)
        go_meet
        case rel => exact ⟨_,(false),(by first | rfl | (simp;done) | (simp [*];done)),H',⟨by have:=HK1.out;first | omega | exact Nat.le_refl _⟩,⟨by repeat (first | (with_reducible first | exact HB.out | apply below_alloc | apply pw_below_drewN | apply below_drew1) | exact HB.out)⟩⟩
      case rest =>
       clear HC6
       try clear c1
       try clear c2
       try clear c2b0
       try clear c2b1
       try clear p2
       try clear c3
       try clear c3b0
       try clear c3b1
       try clear p4
       try clear q4
       try clear hx4
       try clear qi4
       try clear c5
       try clear c5b0
       try clear c5b1
       try clear c7
       try clear c7b0
       try clear c8
       try clear c8b0
       try clear p9
       try clear q9
       try clear hx9
       try clear p2
       try clear p4
       try clear p9
       try clear q4
       try clear q9
       obtain ⟨kq,x22_5,rfl,HA,HJ5,HB⟩:=hcut
       cases kq with
       | zero => exact absurd HA.out (by simp [tachographref20_Get.j1])
       | succ kj5 =>
        have H:=HA.out
        clear HA
        simp only [tachographref20_Get.j1] at H
        by_cases c10 : x22_5 = true
        ·subst c10
         have H1 : (if 0 ≤ x6_1 then (if x6_1 ≤ (a0.size : Int) then ((tachographref20_next.f kj5 (a0.extract (x6_1 : Int).toNat a0.size)).bind fun bt226 => (if bt226.2.2 = 0 then ((some (([bt226.1] : List Int) : List Int)).bind fun y230 => (if x5_1.size + (strOfNums y230).size ≤ 9223372036854775807 then (tachographref20_Get.l0 kj5 a0 (x5_1 ++ (strOfNums y230)) (wrap64 (x6_1 + bt226.2.1))) else (none))) else (some ((⟨#[]⟩ : ByteArray),0,bt226.2.2)))) else (none)) else (none)) = some (r1,r2,r3):=by rw [if_pos rfl] at H;exact H
         clear H
         have H:=H1
         clear H1
         by_cases c11 : 0 ≤ x6_1
         ·rw [if_pos c11] at H
          have c11b0:=eq_true c11
          have c11b1 : decide (0 ≤ x6_1) = true:=decide_eq_true c11
          clear c11
          by_cases c12 : x6_1 ≤ (a0.size : Int)
          ·rw [if_pos c12] at H
           have c12b0:=eq_true c12
           have c12b1 : decide (x6_1 ≤ (a0.size : Int)) = true:=decide_eq_true c12
           clear c12
           replace H:=Option.bind_eq_some_iff.mp H
           obtain ⟨⟨t226,t227,t228⟩,A130,H⟩:=H
           replace H : (if t228 = 0 then ((some (([t226] : List Int) : List Int)).bind fun y230 => (if x5_1.size + (strOfNums y230).size ≤ 9223372036854775807 then (tachographref20_Get.l0 kj5 a0 (x5_1 ++ (strOfNums y230)) (wrap64 (x6_1 + t227))) else (none))) else (some ((⟨#[]⟩ : ByteArray),0,t228))) = some (r1,r2,r3):=H
           have A13:=Aside0.mk A130
           clear A130
           by_cases c14 : t228 = 0
           ·rw [if_pos c14] at H
            have c14b0 : (t228 == 0) = true:=beq_iff_eq.mpr c14
            have c14b1 : (t228 != 0) = false:=bne_eq_false_iff_eq.mpr c14
            clear c14
            obtain ⟨y230,hy230⟩ : ∃ y_ : List Int,y_ = (([t226] : List Int)):=⟨_,rfl⟩
            replace H : (if x5_1.size + (strOfNums y230).size ≤ 9223372036854775807 then (tachographref20_Get.l0 kj5 a0 (x5_1 ++ (strOfNums y230)) (wrap64 (x6_1 + t227))) else (none)) = some (r1,r2,r3):=by first | (rw [hy230];with_reducible exact H) | (have H2_:=(Option.bind_some _ _).symm.trans H;rw [hy230];with_reducible exact H2_) | (have H2_:=(Option.bind_some _ _).symm.trans H;with_reducible exact H2_) | with_reducible exact H | (rw [hy230];exact H) | exact H
            have Ny230:=Aside0.mk hy230
            clear hy230
            by_cases c15 : x5_1.size + (strOfNums y230).size ≤ 9223372036854775807
            ·rw [if_pos c15] at H
             have c15b0:=eq_true c15
             have c15b1 : decide (x5_1.size + (strOfNums y230).size ≤ 9223372036854775807) = true:=decide_eq_true c15
             try have c15b2 : (9223372036854775807 < x5_1.size + (strOfNums y230).size) = False:=eq_false (Nat.not_lt.2 c15)
             have H':=Aside0.mk H
             clear H
             go_wp2_with (first | (go_at_call 33;(with_reducible refine (tachographref20_next.calls kj5 (a0.extract (x6_1 : Int).toNat a0.size) t226 t227 t228 _ A13.out).mono ?_);rintro e w16 ⟨rfl,hb⟩;have n0_:=Aside0.mk (below_step (by repeat (first | (with_reducible first | exact HB.out | apply below_alloc | apply pw_below_drewN | apply below_drew1) | exact HB.out)) hb);clear HB;have HB:=n0_;clear n0_;(try clear hb);(try clear hb2);(try clear hk);(try clear hi)) | ((with_reducible refine gate_dst (N:=7) rfl ?_);refine box_event ?hg (N:=7) ?hd (cs:=#[.int .u8 0,.int .i64 0,.int .i64 0]) (t:=71) ?hr ?_;(case hd => rfl);(case hg => rfl);(case hr => first | (go_simp;done) | (go_simp;rfl));intro gb229 hg w17 hbox hb;have n0_:=Aside0.mk (below_step (by repeat (first | (with_reducible first | exact HB.out | apply below_alloc | apply pw_below_drewN | apply below_drew1) | exact HB.out)) hb);have n1_:=Aside0.mk (hbox);have n2_:=Aside0.mk ((by rw [hg];exact (below_size (by repeat (first | (with_reducible first | exact HB.out | apply below_alloc | apply pw_below_drewN | apply below_drew1) | exact HB.out))) : w.heap.size ≤ gb229));have n3_:=Aside0.mk ((by rw [hg];exact (below_size (by repeat (first | (with_reducible first | exact HB.out | apply below_alloc | apply pw_below_drewN | apply below_drew1) | exact HB.out))) : w.heap.size ≤ gb229));clear HB;have HB:=n0_;have BK229:=n1_;have GW229:=n2_;have GE229:=n3_;clear n0_ n1_ n2_ n3_;clear hb hbox hg;have hcz18_0 : w17.cell? ⟨gb229,0,none⟩ = some (.int .u8 0):=(blk_cell BK229.out 0).trans rfl;have hcz18_1 : w17.cell? ⟨gb229,1,none⟩ = some (.int .i64 0):=(blk_cell BK229.out 1).trans rfl;have hcz18_2 : w17.cell? ⟨gb229,2,none⟩ = some (.int .i64 0):=(blk_cell BK229.out 2).trans rfl;have hfz18_0:=blk_frozen BK229.out 0;have hfz18_1:=blk_frozen BK229.out 1;have hfz18_2:=blk_frozen BK229.out 2) | ((with_reducible refine gate_dst (N:=35) rfl ?_);refine Kd.R_lit (Kd.int .u8) _ 5 ?hg (N:=35) ?hd (xs:=([t226] : List Int)) (inner:=[.int .u8 t226]) (ok:=fun _ => True) (okp:=fun _ => True) ?hr ?hp (fun _ hk => hk) trivial (Below.refl _ _) (Nat.le_refl _) (by simp) ?_;(case hd => rfl);(case hg => rfl);(case hr => first | (go_simp;done) | (go_simp;rfl));(case hp => exact (Reps.one (show Kd.M (Kd.int .u8) _ _ _ t226 [.int .u8 t226] from rfl) (Reps.none _ _)));intro v231 w19 ho20 hb hg_ hnew_;clear hg_ hnew_;(first | rw [← Ny230.out] at ho20 | (simp only [Int.reduceToNat] at ho20;rw [← Ny230.out] at ho20));have n0_:=Aside0.mk (Kd.R_lower ho20 (below_size (by repeat (first | (with_reducible first | exact HB.out | apply below_alloc | apply pw_below_drewN | apply below_drew1 | refine below_set ?_ GE229.out) | exact HB.out))));have n1_:=Aside0.mk (blk_below (g:=gb229) (o:=.cells #[.int .u8 t226,.int .i64 t227,.int .i64 t228] 71 (0,0)) (by (with_reducible repeat (first | refine blk_drewN ?_ _ | refine blk_drew ?_ | refine blk_alloc ?_ _));refine blk_put (cs:=#[.int .u8 t226,.int .i64 t227,.int .i64 0]) ?_ 2 _ rfl;(with_reducible repeat (first | refine blk_drewN ?_ _ | refine blk_drew ?_ | refine blk_alloc ?_ _));refine blk_put (cs:=#[.int .u8 t226,.int .i64 0,.int .i64 0]) ?_ 1 _ rfl;(with_reducible repeat (first | refine blk_drewN ?_ _ | refine blk_drew ?_ | refine blk_alloc ?_ _));refine blk_put (cs:=#[.int .u8 0,.int .i64 0,.int .i64 0]) ?_ 0 _ rfl;(with_reducible repeat (first | refine blk_drewN ?_ _ | refine blk_drew ?_ | refine blk_alloc ?_ _));exact BK229.out) hb);have n2_:=Aside0.mk (below_step (by repeat (first | (with_reducible first | exact HB.out | apply below_alloc | apply pw_below_drewN | apply below_drew1 | refine below_set ?_ GE229.out) | exact HB.out)) hb);clear BK229;clear HB;have HO232:=n0_;have BK229:=n1_;have HB:=n2_;clear n0_ n1_ n2_;clear hb ho20;have hcv21:=own_string (P:=Try.prog) Try.underlying49 Try.underlying5 Try.underlying9 (Kd.own_of_R HO232.out);have hcz22_0 : w19.cell? ⟨gb229,0,none⟩ = some (.int .u8 t226):=(blk_cell BK229.out 0).trans rfl;have hcz22_1 : w19.cell? ⟨gb229,1,none⟩ = some (.int .i64 t227):=(blk_cell BK229.out 1).trans rfl;have hcz22_2 : w19.cell? ⟨gb229,2,none⟩ = some (.int .i64 t228):=(blk_cell BK229.out 2).trans rfl;have hfz22_0:=blk_frozen BK229.out 0;have hfz22_1:=blk_frozen BK229.out 1;have hfz22_2:=blk_frozen BK229.out 2))
             repeat (go_quiet (first | (go_at_call 33;(with_reducible refine (tachographref20_next.calls kj5 (a0.extract (x6_1 : Int).toNat a0.size) t226 t227 t228 _ A13.out).mono ?_);rintro e w16 ⟨rfl,hb⟩;have n0_:=Aside0.mk (below_step (by repeat (first | (with_reducible first | exact HB.out | apply below_alloc | apply pw_below_drewN | apply below_drew1) | exact HB.out)) hb);clear HB;have HB:=n0_;clear n0_;(try clear hb);(try clear hb2);(try clear hk);(try clear hi)) | ((with_reducible refine gate_dst (N:=7) rfl ?_);refine box_event ?hg (N:=7) ?hd (cs:=#[.int .u8 0,.int .i64 0,.int .i64 0]) (t:=71) ?hr ?_;(case hd => rfl);(case hg => rfl);(case hr => first | (go_simp;done) | (go_simp;rfl));intro gb229 hg w17 hbox hb;have n0_:=Aside0.mk (below_step (by repeat (first | (with_reducible first | exact HB.out | apply below_alloc | apply pw_below_drewN | apply below_drew1) | exact HB.out)) hb);have n1_:=Aside0.mk (hbox);have n2_:=Aside0.mk ((by rw [hg];exact (below_size (by repeat (first | (with_reducible first | exact HB.out | apply below_alloc | apply pw_below_drewN | apply below_drew1) | exact HB.out))) : w.heap.size ≤ gb229));have n3_:=Aside0.mk ((by rw [hg];exact (below_size (by repeat (first | (with_reducible first | exact HB.out | apply below_alloc | apply pw_below_drewN | apply below_drew1) | exact HB.out))) : w.heap.size ≤ gb229));clear HB;have HB:=n0_;have BK229:=n1_;have GW229:=n2_;have GE229:=n3_;clear n0_ n1_ n2_ n3_;clear hb hbox hg;have hcz18_0 : w17.cell? ⟨gb229,0,none⟩ = some (.int .u8 0):=(blk_cell BK229.out 0).trans rfl;have hcz18_1 : w17.cell? ⟨gb229,1,none⟩ = some (.int .i64 0):=(blk_cell BK229.out 1).trans rfl;have hcz18_2 : w17.cell? ⟨gb229,2,none⟩ = some (.int .i64 0):=(blk_cell BK229.out 2).trans rfl;have hfz18_0:=blk_frozen BK229.out 0;have hfz18_1:=blk_frozen BK229.out 1;have hfz18_2:=blk_frozen BK229.out 2) | ((with_reducible refine gate_dst (N:=35) rfl ?_);refine Kd.R_lit (Kd.int .u8) _ 5 ?hg (N:=35) ?hd (xs:=([t226] : List Int)) (inner:=[.int .u8 t226]) (ok:=fun _ => True) (okp:=fun _ => True) ?hr ?hp (fun _ hk => hk) trivial (Below.refl _ _) (Nat.le_refl _) (by simp) ?_;(case hd => rfl);(case hg => rfl);(case hr => first | (go_simp;done) | (go_simp;rfl));(case hp => exact (Reps.one (show Kd.M (Kd.int .u8) _ _ _ t226 [.int .u8 t226] from rfl) (Reps.none _ _)));intro v231 w19 ho20 hb hg_ hnew_;clear hg_ hnew_;(first | rw [← Ny230.out] at ho20 | (simp only [Int.reduceToNat] at ho20;rw [← Ny230.out] at ho20));have n0_:=Aside0.mk (Kd.R_lower ho20 (below_size (by repeat (first | (with_reducible first | exact HB.out | apply below_alloc | apply pw_below_drewN | apply below_drew1 | refine below_set ?_ GE229.out) | exact HB.out))));have n1_:=Aside0.mk (blk_below (g:=gb229) (o:=.cells #[.int .u8 t226,.int .i64 t227,.int .i64 t228] 71 (0,0)) (by (with_reducible repeat (first | refine blk_drewN ?_ _ | refine blk_drew ?_ | refine blk_alloc ?_ _));refine blk_put (cs:=#[.int .u8 t226,.int .i64 t227,.int .i64 0]) ?_ 2 _ rfl;(with_reducible repeat (first | refine blk_drewN ?_ _ | refine blk_drew ?_ | refine blk_alloc ?_ _));refine blk_put (cs:=#[.int .u8 t226,.int .i64 0,.int .i64 0]) ?_ 1 _ rfl;(with_reducible repeat (first | refine blk_drewN ?_ _ | refine blk_drew ?_ | refine blk_alloc ?_ _));refine blk_put (cs:=#[.int .u8 0,.int .i64 0,.int .i64 0]) ?_ 0 _ rfl;(with_reducible repeat (first | refine blk_drewN ?_ _ | refine blk_drew ?_ | refine blk_alloc ?_ _));exact BK229.out) hb);have n2_:=Aside0.mk (below_step (by repeat (first | (with_reducible first | exact HB.out | apply below_alloc | apply pw_below_drewN | apply below_drew1 | refine below_set ?_ GE229.out) | exact HB.out)) hb);clear BK229;clear HB;have HO232:=n0_;have BK229:=n1_;have HB:=n2_;clear n0_ n1_ n2_;clear hb ho20;have hcv21:=own_string (P:=Try.prog) Try.underlying49 Try.underlying5 Try.underlying9 (Kd.own_of_R HO232.out);have hcz22_0 : w19.cell? ⟨gb229,0,none⟩ = some (.int .u8 t226):=(blk_cell BK229.out 0).trans rfl;have hcz22_1 : w19.cell? ⟨gb229,1,none⟩ = some (.int .i64 t227):=(blk_cell BK229.out 1).trans rfl;have hcz22_2 : w19.cell? ⟨gb229,2,none⟩ = some (.int .i64 t228):=(blk_cell BK229.out 2).trans rfl;have hfz22_0:=blk_frozen BK229.out 0;have hfz22_1:=blk_frozen BK229.out 1;have hfz22_2:=blk_frozen BK229.out 2));try go_wp2_with (first | (go_at_call 33;(with_reducible refine (tachographref20_next.calls kj5 (a0.extract (x6_1 : Int).toNat a0.size) t226 t227 t228 _ A13.out).mono ?_);rintro e w16 ⟨rfl,hb⟩;have n0_:=Aside0.mk (below_step (by repeat (first | (with_reducible first | exact HB.out | apply below_alloc | apply pw_below_drewN | apply below_drew1) | exact HB.out)) hb);clear HB;have HB:=n0_;clear n0_;(try clear hb);(try clear hb2);(try clear hk);(try clear hi)) | ((with_reducible refine gate_dst (N:=7) rfl ?_);refine box_event ?hg (N:=7) ?hd (cs:=#[.int .u8 0,.int .i64 0,.int .i64 0]) (t:=71) ?hr ?_;(case hd => rfl);(case hg => rfl);(case hr => first | (go_simp;done) | (go_simp;rfl));intro gb229 hg w17 hbox hb;have n0_:=Aside0.mk (below_step (by repeat (first | (with_reducible first | exact HB.out | apply below_alloc | apply pw_below_drewN | apply below_drew1) | exact HB.out)) hb);have n1_:=Aside0.mk (hbox);have n2_:=Aside0.mk ((by rw [hg];exact (below_size (by repeat (first | (with_reducible first | exact HB.out | apply below_alloc | apply pw_below_drewN | apply below_drew1) | exact HB.out))) : w.heap.size ≤ gb229));have n3_:=Aside0.mk ((by rw [hg];exact (below_size (by repeat (first | (with_reducible first | exact HB.out | apply below_alloc | apply pw_below_drewN | apply below_drew1) | exact HB.out))) : w.heap.size ≤ gb229));clear HB;have HB:=n0_;have BK229:=n1_;have GW229:=n2_;have GE229:=n3_;clear n0_ n1_ n2_ n3_;clear hb hbox hg;have hcz18_0 : w17.cell? ⟨gb229,0,none⟩ = some (.int .u8 0):=(blk_cell BK229.out 0).trans rfl;have hcz18_1 : w17.cell? ⟨gb229,1,none⟩ = some (.int .i64 0):=(blk_cell BK229.out 1).trans rfl;have hcz18_2 : w17.cell? ⟨gb229,2,none⟩ = some (.int .i64 0):=(blk_cell BK229.out 2).trans rfl;have hfz18_0:=blk_frozen BK229.out 0;have hfz18_1:=blk_frozen BK229.out 1;have hfz18_2:=blk_frozen BK229.out 2) | ((with_reducible refine gate_dst (N:=35) rfl ?_);refine Kd.R_lit (Kd.int .u8) _ 5 ?hg (N:=35) ?hd (xs:=([t226] : List Int)) (inner:=[.int .u8 t226]) (ok:=fun _ => True) (okp:=fun _ => True) ?hr ?hp (fun _ hk => hk) trivial (Below.refl _ _) (Nat.le_refl _) (by simp) ?_;(case hd => rfl);(case hg => rfl);(case hr => first | (go_simp;done) | (go_simp;rfl));(case hp => exact (Reps.one (show Kd.M (Kd.int .u8) _ _ _ t226 [.int .u8 t226] from rfl) (Reps.none _ _)));intro v231 w19 ho20 hb hg_ hnew_;clear hg_ hnew_;(first | rw [← Ny230.out] at ho20 | (simp only [Int.reduceToNat] at ho20;rw [← Ny230.out] at ho20));have n0_:=Aside0.mk (Kd.R_lower ho20 (below_size (by repeat (first | (with_reducible first | exact HB.out | apply below_alloc | apply pw_below_drewN | apply below_drew1 | refine below_set ?_ GE229.out) | exact HB.out))));have n1_:=Aside0.mk (blk_below (g:=gb229) (o:=.cells #[.int .u8 t226,.int .i64 t227,.int .i64 t228] 71 (0,0)) (by (with_reducible repeat (first | refine blk_drewN ?_ _ | refine blk_drew ?_ | refine blk_alloc ?_ _));refine blk_put (cs:=#[.int .u8 t226,.int .i64 t227,.int .i64 0]) ?_ 2 _ rfl;(with_reducible repeat (first | refine blk_drewN ?_ _ | refine blk_drew ?_ | refine blk_alloc ?_ _));refine blk_put (cs:=#[.int .u8 t226,.int .i64 0,.int .i64 0]) ?_ 1 _ rfl;(with_reducible repeat (first | refine blk_drewN ?_ _ | refine blk_drew ?_ | refine blk_alloc ?_ _));refine blk_put (cs:=#[.int .u8 0,.int .i64 0,.int .i64 0]) ?_ 0 _ rfl;(with_reducible repeat (first | refine blk_drewN ?_ _ | refine blk_drew ?_ | refine blk_alloc ?_ _));exact BK229.out) hb);have n2_:=Aside0.mk (below_step (by repeat (first | (with_reducible first | exact HB.out | apply below_alloc | apply pw_below_drewN | apply below_drew1 | refine below_set ?_ GE229.out) | exact HB.out)) hb);clear BK229;clear HB;have HO232:=n0_;have BK229:=n1_;have HB:=n2_;clear n0_ n1_ n2_;clear hb ho20;have hcv21:=own_string (P:=Try.prog) Try.underlying49 Try.underlying5 Try.underlying9 (Kd.own_of_R HO232.out);have hcz22_0 : w19.cell? ⟨gb229,0,none⟩ = some (.int .u8 t226):=(blk_cell BK229.out 0).trans rfl;have hcz22_1 : w19.cell? ⟨gb229,1,none⟩ = some (.int .i64 t227):=(blk_cell BK229.out 1).trans rfl;have hcz22_2 : w19.cell? ⟨gb229,2,none⟩ = some (.int .i64 t228):=(blk_cell BK229.out 2).trans rfl;have hfz22_0:=blk_frozen BK229.out 0;have hfz22_1:=blk_frozen BK229.out 1;have hfz22_2:=blk_frozen BK229.out 2)))
             go_roundg kj5
             case measure => have:=HK1.out;have:=HJ5.out;omega
             case rel => exact ⟨(x5_1 ++ (strOfNums y230)),(wrap64 (x6_1 + t227)),(by first | rfl | (simp;done) | (simp [*];done)),(by first | rfl | (simp;done) | (simp [*];done)),H',⟨by have:=HK1.out;have:=HJ5.out;omega⟩,⟨by repeat (first | (with_reducible first | exact HB.out | apply below_alloc | apply pw_below_drewN | apply below_drew1 | refine below_set ?_ GE229.out) | exact HB.out)⟩⟩
            ·rw [if_neg c15] at H
             exact absurd H (by simp)
           ·rw [if_neg c14] at H
            have c14b0 : (t228 == 0) = false:=beq_eq_false_iff_ne.mpr c14
            have c14b1 : (t228 != 0) = true:=bne_iff_ne.mpr c14
            simp only [Option.some.injEq,Prod.mk.injEq] at H
            obtain ⟨rfl,rfl,rfl⟩:=H
            go_wp2_with (first | (go_at_call 33;(with_reducible refine (tachographref20_next.calls kj5 (a0.extract (x6_1 : Int).toNat a0.size) t226 t227 t228 _ A13.out).mono ?_);rintro e w23 ⟨rfl,hb⟩;have n0_:=Aside0.mk (below_step (by repeat (first | (with_reducible first | exact HB.out | apply below_alloc | apply pw_below_drewN | apply below_drew1) | exact HB.out)) hb);clear HB;have HB:=n0_;clear n0_;(try clear hb);(try clear hb2);(try clear hk);(try clear hi)) | ((with_reducible refine gate_dst (N:=7) rfl ?_);refine box_event ?hg (N:=7) ?hd (cs:=#[.int .u8 0,.int .i64 0,.int .i64 0]) (t:=71) ?hr ?_;(case hd => rfl);(case hg => rfl);(case hr => first | (go_simp;done) | (go_simp;rfl));intro gb229 hg w24 hbox hb;have n0_:=Aside0.mk (below_step (by repeat (first | (with_reducible first | exact HB.out | apply below_alloc | apply pw_below_drewN | apply below_drew1) | exact HB.out)) hb);have n1_:=Aside0.mk (hbox);have n2_:=Aside0.mk ((by rw [hg];exact (below_size (by repeat (first | (with_reducible first | exact HB.out | apply below_alloc | apply pw_below_drewN | apply below_drew1) | exact HB.out))) : w.heap.size ≤ gb229));have n3_:=Aside0.mk ((by rw [hg];exact (below_size (by repeat (first | (with_reducible first | exact HB.out | apply below_alloc | apply pw_below_drewN | apply below_drew1) | exact HB.out))) : w.heap.size ≤ gb229));clear HB;have HB:=n0_;have BK229:=n1_;have GW229:=n2_;have GE229:=n3_;clear n0_ n1_ n2_ n3_;clear hb hbox hg;have hcz25_0 : w24.cell? ⟨gb229,0,none⟩ = some (.int .u8 0):=(blk_cell BK229.out 0).trans rfl;have hcz25_1 : w24.cell? ⟨gb229,1,none⟩ = some (.int .i64 0):=(blk_cell BK229.out 1).trans rfl;have hcz25_2 : w24.cell? ⟨gb229,2,none⟩ = some (.int .i64 0):=(blk_cell BK229.out 2).trans rfl;have hfz25_0:=blk_frozen BK229.out 0;have hfz25_1:=blk_frozen BK229.out 1;have hfz25_2:=blk_frozen BK229.out 2))
            repeat (go_quiet (first | (go_at_call 33;(with_reducible refine (tachographref20_next.calls kj5 (a0.extract (x6_1 : Int).toNat a0.size) t226 t227 t228 _ A13.out).mono ?_);rintro e w23 ⟨rfl,hb⟩;have n0_:=Aside0.mk (below_step (by repeat (first | (with_reducible first | exact HB.out | apply below_alloc | apply pw_below_drewN | apply below_drew1) | exact HB.out)) hb);clear HB;have HB:=n0_;clear n0_;(try clear hb);(try clear hb2);(try clear hk);(try clear hi)) | ((with_reducible refine gate_dst (N:=7) rfl ?_);refine box_event ?hg (N:=7) ?hd (cs:=#[.int .u8 0,.int .i64 0,.int .i64 0]) (t:=71) ?hr ?_;(case hd => rfl);(case hg => rfl);(case hr => first | (go_simp;done) | (go_simp;rfl));intro gb229 hg w24 hbox hb;have n0_:=Aside0.mk (below_step (by repeat (first | (with_reducible first | exact HB.out | apply below_alloc | apply pw_below_drewN | apply below_drew1) | exact HB.out)) hb);have n1_:=Aside0.mk (hbox);have n2_:=Aside0.mk ((by rw [hg];exact (below_size (by repeat (first | (with_reducible first | exact HB.out | apply below_alloc | apply pw_below_drewN | apply below_drew1) | exact HB.out))) : w.heap.size ≤ gb229));have n3_:=Aside0.mk ((by rw [hg];exact (below_size (by repeat (first | (with_reducible first | exact HB.out | apply below_alloc | apply pw_below_drewN | apply below_drew1) | exact HB.out))) : w.heap.size ≤ gb229));clear HB;have HB:=n0_;have BK229:=n1_;have GW229:=n2_;have GE229:=n3_;clear n0_ n1_ n2_ n3_;clear hb hbox hg;have hcz25_0 : w24.cell? ⟨gb229,0,none⟩ = some (.int .u8 0):=(blk_cell BK229.out 0).trans rfl;have hcz25_1 : w24.cell? ⟨gb229,1,none⟩ = some (.int .i64 0):=(blk_cell BK229.out 1).trans rfl;have hcz25_2 : w24.cell? ⟨gb229,2,none⟩ = some (.int .i64 0):=(blk_cell BK229.out 2).trans rfl;have hfz25_0:=blk_frozen BK229.out 0;have hfz25_1:=blk_frozen BK229.out 1;have hfz25_2:=blk_frozen BK229.out 2));try go_wp2_with (first | (go_at_call 33;(with_reducible refine (tachographref20_next.calls kj5 (a0.extract (x6_1 : Int).toNat a0.size) t226 t227 t228 _ A13.out).mono ?_);rintro e w23 ⟨rfl,hb⟩;have n0_:=Aside0.mk (below_step (by repeat (first | (with_reducible first | exact HB.out | apply below_alloc | apply pw_below_drewN | apply below_drew1) | exact HB.out)) hb);clear HB;have HB:=n0_;clear n0_;(try clear hb);(try clear hb2);(try clear hk);(try clear hi)) | ((with_reducible refine gate_dst (N:=7) rfl ?_);refine box_event ?hg (N:=7) ?hd (cs:=#[.int .u8 0,.int .i64 0,.int .i64 0]) (t:=71) ?hr ?_;(case hd => rfl);(case hg => rfl);(case hr => first | (go_simp;done) | (go_simp;rfl));intro gb229 hg w24 hbox hb;have n0_:=Aside0.mk (below_step (by repeat (first | (with_reducible first | exact HB.out | apply below_alloc | apply pw_below_drewN | apply below_drew1) | exact HB.out)) hb);have n1_:=Aside0.mk (hbox);have n2_:=Aside0.mk ((by rw [hg];exact (below_size (by repeat (first | (with_reducible first | exact HB.out | apply below_alloc | apply pw_below_drewN | apply below_drew1) | exact HB.out))) : w.heap.size ≤ gb229));have n3_:=Aside0.mk ((by rw [hg];exact (below_size (by repeat (first | (with_reducible first | exact HB.out | apply below_alloc | apply pw_below_drewN | apply below_drew1) | exact HB.out))) : w.heap.size ≤ gb229));clear HB;have HB:=n0_;have BK229:=n1_;have GW229:=n2_;have GE229:=n3_;clear n0_ n1_ n2_ n3_;clear hb hbox hg;have hcz25_0 : w24.cell? ⟨gb229,0,none⟩ = some (.int .u8 0):=(blk_cell BK229.out 0).trans rfl;have hcz25_1 : w24.cell? ⟨gb229,1,none⟩ = some (.int .i64 0):=(blk_cell BK229.out 1).trans rfl;have hcz25_2 : w24.cell? ⟨gb229,2,none⟩ = some (.int .i64 0):=(blk_cell BK229.out 2).trans rfl;have hfz25_0:=blk_frozen BK229.out 0;have hfz25_1:=blk_frozen BK229.out 1;have hfz25_2:=blk_frozen BK229.out 2)))
            go_ret3
            exact ⟨by first | rfl | (simp [errW_none,errW_some] <;> rfl) | (simp [*,errW_none,errW_some] <;> rfl),by repeat (first | (with_reducible first | exact HB.out | apply below_alloc | apply pw_below_drewN | apply below_drew1 | refine below_set ?_ GE229.out) | exact HB.out)⟩
          ·rw [if_neg c12] at H
           exact absurd H (by simp)
         ·rw [if_neg c11] at H
          exact absurd H (by simp)
        ·replace c10:=Bool.eq_false_iff.mpr c10
         subst c10
         have H1 : (if x6_1 = (a0.size : Int) then (some ((⟨#[]⟩ : ByteArray),0,2)) else (if (x5_1.size : Int) > 200 then (some ((⟨#[]⟩ : ByteArray),0,6)) else (some (x5_1,wrap64 (x6_1 + 1),0)))) = some (r1,r2,r3):=by rw [if_neg (show ¬ (false = true) by decide)] at H;exact H
         clear H
         have H:=H1
         clear H1
         by_cases c26 : x6_1 = (a0.size : Int)
         ·rw [if_pos c26] at H
          have c26b0 : (x6_1 == (a0.size : Int)) = true:=beq_iff_eq.mpr c26
          have c26b1 : (x6_1 != (a0.size : Int)) = false:=bne_eq_false_iff_eq.mpr c26
          clear c26
          simp only [Option.some.injEq,Prod.mk.injEq] at H
          obtain ⟨rfl,rfl,rfl⟩:=H
          go_wp2
          repeat (go_quiet (fail);try go_wp2)
          go_ret3
          exact ⟨by first | rfl | (simp [errW_none,errW_some] <;> rfl) | (simp [*,errW_none,errW_some] <;> rfl),by repeat (first | (with_reducible first | exact HB.out | apply below_alloc | apply pw_below_drewN | apply below_drew1) | exact HB.out)⟩
         ·rw [if_neg c26] at H
          have c26b0 : (x6_1 == (a0.size : Int)) = false:=beq_eq_false_iff_ne.mpr c26
          have c26b1 : (x6_1 != (a0.size : Int)) = true:=bne_iff_ne.mpr c26
          by_cases c27 : (x5_1.size : Int) > 200
          ·rw [if_pos c27] at H
           have c27b0 : decide (200 < (x5_1.size : Int)) = true:=decide_eq_true c27
           have c27b1 : decide (200 < x5_1.size) = true:=decide_eq_true (by omega)
           clear c27
           simp only [Option.some.injEq,Prod.mk.injEq] at H
           obtain ⟨rfl,rfl,rfl⟩:=H
           go_wp2
           repeat (go_quiet (fail);try go_wp2)
           go_ret3
           exact ⟨by first | rfl | (simp [errW_none,errW_some] <;> rfl) | (simp [*,errW_none,errW_some] <;> rfl),by repeat (first | (with_reducible first | exact HB.out | apply below_alloc | apply pw_below_drewN | apply below_drew1) | exact HB.out)⟩
          ·rw [if_neg c27] at H
           have c27b0 : decide (200 < (x5_1.size : Int)) = false:=decide_eq_false c27
           have c27b1 : decide (200 < x5_1.size) = false:=decide_eq_false (by omega)
           clear c27
           simp only [Option.some.injEq,Prod.mk.injEq] at H
           obtain ⟨rfl,rfl,rfl⟩:=H
           go_wp2
           repeat (go_quiet (fail);try go_wp2)
           go_ret3
           exact ⟨by first | rfl | (simp [errW_none,errW_some] <;> rfl) | (simp [*,errW_none,errW_some] <;> rfl),by repeat (first | (with_reducible first | exact HB.out | apply below_alloc | apply pw_below_drewN | apply below_drew1) | exact HB.out)⟩
   ·rw [if_neg c5] at H
    have c5b0 : ((bt a0 0) == 34) = false:=beq_eq_false_iff_ne.mpr c5
    have c5b1 : ((bt a0 0) != 34) = true:=bne_iff_ne.mpr c5
    simp only [Option.some.injEq,Prod.mk.injEq] at H
    obtain ⟨rfl,rfl,rfl⟩:=H
    have p4 : 0 ≤ (0 : Int):=(by omega)
    have q4 : 0 < a0.size:=(by have : (0 : Int) < (a0.size : Int):=of_decide_eq_true (by first | (with_reducible assumption) | assumption);omega)
    have hx4 : ∀ h : 0 < a0.size,((a0[0]'h).toNat : Int) = bt a0 0:=bt_at a0 0
    clear p4
    have qi4 : (0 < (a0.size : Int)) = True:=eq_true (of_decide_eq_true (by first | (with_reducible assumption) | assumption))
    replace q4:=eq_true q4
    go_enter Try.func14,Try.ntmps14
    go_wp2
    repeat (go_quiet (fail);try go_wp2)
    go_ret3
    exact ⟨by first | rfl | (simp [errW_none,errW_some] <;> rfl) | (simp [*,errW_none,errW_some] <;> rfl),by repeat (first | (with_reducible first | exact HB.out | apply below_alloc | apply pw_below_drewN | apply below_drew1) | exact HB.out)⟩
  ·rw [if_neg c3] at H
   exact absurd H (by simp)

end Go.Proofs.Ytjfklfmfeghjnac.PL
