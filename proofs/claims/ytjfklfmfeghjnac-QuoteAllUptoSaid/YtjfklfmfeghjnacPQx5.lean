-- Contracts of Go functions, each with its plain Lean function: written by wip/tools/myprint.py of this work (the kit's print, with contracts proved by hand spliced in).
import Derived.Test.YtjfklfmfeghjnacPQx0
import Derived.Test.YtjfklfmfeghjnacPQx1
import Derived.Test.YtjfklfmfeghjnacPQx2
import Derived.Test.YtjfklfmfeghjnacPQx4
namespace Go.Proofs.Ytjfklfmfeghjnac.PQ
open Go.RowKit Go.Proofs.YtjfklfmfeghjnacW.PrintWords Go.Proofs.YtjfklfmfeghjnacW.PrintLast Go.Proofs.YtjfklfmfeghjnacW.PrintMore
attribute [local go_sem] max2_int min2_int max_two min_two max_three min_three max_four min_four   -- for this text's walks alone
set_option linter.unusedVariables false
set_option linter.unusedSimpArgs false

/-! ### tachographref20_Get: function 14 -/
mutual
def tachographref20_Get.l0 : Nat → ByteArray → ByteArray → Int → Option (ByteArray × Int × Int)
 | 0, _, _, _ => none
 | k + 1, x0, x5, x6 => if x6 < (x0.size : Int) then (if 0 ≤ x6 then (tachographref20_Get.j1 k x0 x5 x6 ((bt x0 x6) != 34)) else (none)) else (tachographref20_Get.j1 k x0 x5 x6 false)
def tachographref20_Get.j1 : Nat → ByteArray → ByteArray → Int → Bool → Option (ByteArray × Int × Int)
 | 0, _, _, _, _ => none
 | k + 1, x0, x5, x6, x22 => if x22 = true then (if 0 ≤ x6 then (if x6 ≤ (x0.size : Int) then ((tachographref20_next.f k (x0.extract (x6 : Int).toNat x0.size)).bind fun bt162 => (if bt162.2.2 = 0 then ((some (([bt162.1] : List Int) : List Int)).bind fun y166 => (if x5.size + (strOfNums y166).size ≤ 9223372036854775807 then (tachographref20_Get.l0 k x0 (x5 ++ (strOfNums y166)) (wrap64 (x6 + bt162.2.1))) else (none))) else (some ((⟨#[]⟩ : ByteArray), 0, bt162.2.2)))) else (none)) else (none)) else (if x6 = (x0.size : Int) then (some ((⟨#[]⟩ : ByteArray), 0, 2)) else (if (x5.size : Int) > 200 then (some ((⟨#[]⟩ : ByteArray), 0, 6)) else (some (x5, wrap64 (x6 + 1), 0))))
end
def tachographref20_Get.f (k : Nat) (a0 : ByteArray) : Option (ByteArray × Int × Int) := if a0.toList = ([] : List UInt8) then (some ((⟨#[]⟩ : ByteArray), 0, 2)) else (if 0 < (a0.size : Int) then (if (bt a0 0) = 34 then (tachographref20_Get.l0 k a0 (⟨#[]⟩ : ByteArray) 1) else (some ((⟨#[]⟩ : ByteArray), 0, 4))) else (none))
theorem tachographref20_Get.mono_l : ∀ k, (∀ y0 y1 y2, LeO (tachographref20_Get.l0 k y0 y1 y2) (tachographref20_Get.l0 (k + 1) y0 y1 y2)) ∧ (∀ y0 y1 y2 y3, LeO (tachographref20_Get.j1 k y0 y1 y2 y3) (tachographref20_Get.j1 (k + 1) y0 y1 y2 y3))
 | 0 => ⟨fun _ _ _ r h => by simp [tachographref20_Get.l0] at h, fun _ _ _ _ r h => by simp [tachographref20_Get.j1] at h⟩
 | k + 1 => by
  obtain ⟨ih0, ih1⟩ := tachographref20_Get.mono_l k
  refine ⟨?_, ?_⟩
  ·intro y0 y1 y2
   unfold tachographref20_Get.l0
   repeat' first
   | (with_reducible exact ih0 _ _ _)
   | (with_reducible exact ih1 _ _ _ _)
   | (with_reducible exact tachographref20_next.mono _ _)
   | (with_reducible exact LeO.refl _)
   | (with_reducible exact LeO.none _)
   | (with_reducible refine LeO.ite ?_ ?_)
   | (with_reducible refine LeO.bind ?_ (fun _ => ?_))
   | exact ih0 _ _ _
   | exact ih1 _ _ _ _
   | exact tachographref20_next.mono _ _
   | exact LeO.none _
   | refine LeO.ite ?_ ?_
   | refine LeO.bind ?_ (fun _ => ?_)
  ·intro y0 y1 y2 y3
   unfold tachographref20_Get.j1
   repeat' first
   | (with_reducible exact ih0 _ _ _)
   | (with_reducible exact ih1 _ _ _ _)
   | (with_reducible exact tachographref20_next.mono _ _)
   | (with_reducible exact LeO.refl _)
   | (with_reducible exact LeO.none _)
   | (with_reducible refine LeO.ite ?_ ?_)
   | (with_reducible refine LeO.bind ?_ (fun _ => ?_))
   | exact ih0 _ _ _
   | exact ih1 _ _ _ _
   | exact tachographref20_next.mono _ _
   | exact LeO.none _
   | refine LeO.ite ?_ ?_
   | refine LeO.bind ?_ (fun _ => ?_)
theorem tachographref20_Get.mono : ∀ a0 k, LeO (tachographref20_Get.f k a0) (tachographref20_Get.f (k + 1) a0) := by
 intro a0 k
 obtain ⟨ih0, ih1⟩ := tachographref20_Get.mono_l k
 unfold tachographref20_Get.f
 repeat' first
   | (with_reducible exact ih0 _ _ _)
   | (with_reducible exact ih1 _ _ _ _)
   | (with_reducible exact tachographref20_next.mono _ _)
   | (with_reducible exact LeO.refl _)
   | (with_reducible exact LeO.none _)
   | (with_reducible refine LeO.ite ?_ ?_)
   | (with_reducible refine LeO.bind ?_ (fun _ => ?_))
   | exact ih0 _ _ _
   | exact ih1 _ _ _ _
   | exact tachographref20_next.mono _ _
   | exact LeO.none _
   | refine LeO.ite ?_ ?_
   | refine LeO.bind ?_ (fun _ => ?_)
set_option maxHeartbeats 8000000 in
set_option maxRecDepth 100000 in
theorem tachographref20_Get.calls (k : Nat) (a0 : ByteArray) (r1 : ByteArray) (r2 : Int) (r3 : Int) (w : World) (h : tachographref20_Get.f k a0 = some (r1,r2,r3)) :
  Calls Try.prog 14 #[.string a0] w fun e w' => e = .returned (.tuple #[.string r1,.int .i64 r2,.int .i64 r3]) ∧ Below w.heap.size w w':=by
 have hu71:=Try.underlying71
 have HB:=Aside0.mk (Below.refl w.heap.size w)
 have H : (if a0.toList = ([] : List UInt8) then (some ((⟨#[]⟩ : ByteArray),0,2)) else (if 0 < (a0.size : Int) then (if (bt a0 0) = 34 then (tachographref20_Get.l0 k a0 (⟨#[]⟩ : ByteArray) 1) else (some ((⟨#[]⟩ : ByteArray),0,4))) else (none))) = some (r1,r2,r3):=h
 clear h
 by_cases c2 : a0.toList = ([] : List UInt8)
 ·rw [if_pos c2] at H
  have c2b0 : (a0.toList == ([] : List UInt8)) = true:=beq_iff_eq.mpr c2
  have c2b1 : (a0.toList != ([] : List UInt8)) = false:=bne_eq_false_iff_eq.mpr c2
  clear c2
  simp only [Option.some.injEq,Prod.mk.injEq] at H
  obtain ⟨rfl,rfl,rfl⟩:=H
  go_enter Try.func14,Try.ntmps14
  go_wp2
  repeat (go_quiet (fail);try go_wp2)
  go_ret3
  exact ⟨by first | rfl | (simp [errW_none,errW_some] <;> rfl) | (simp [*,errW_none,errW_some] <;> rfl),by repeat (first | (with_reducible first | exact HB.out | apply below_alloc | apply pw_below_drewN | apply below_drew1) | exact HB.out)⟩
 ·rw [if_neg c2] at H
  have c2b0 : (a0.toList == ([] : List UInt8)) = false:=beq_eq_false_iff_ne.mpr c2
  have c2b1 : (a0.toList != ([] : List UInt8)) = true:=bne_iff_ne.mpr c2
  by_cases c3 : 0 < (a0.size : Int)
  ·rw [if_pos c3] at H
   have c3b0 : decide (0 < (a0.size : Int)) = true:=decide_eq_true c3
   have c3b1 : decide (0 < a0.size) = true:=decide_eq_true (by omega)
   clear c3
   by_cases c5 : (bt a0 0) = 34
   ·rw [if_pos c5] at H
    have c5b0 : ((bt a0 0) == 34) = true:=beq_iff_eq.mpr c5
    have c5b1 : ((bt a0 0) != 34) = false:=bne_eq_false_iff_eq.mpr c5
    clear c5
    have H':=Aside0.mk H
    clear H
    have p4 : 0 ≤ (0 : Int):=(by omega)
    have q4 : 0 < a0.size:=(by have : (0 : Int) < (a0.size : Int):=of_decide_eq_true (by first | (with_reducible assumption) | assumption);omega)
    have hx4 : ∀ h : 0 < a0.size,((a0[0]'h).toNat : Int) = bt a0 0:=bt_at a0 0
    clear p4
    have qi4 : (0 < (a0.size : Int)) = True:=eq_true (of_decide_eq_true (by first | (with_reducible assumption) | assumption))
    replace q4:=eq_true q4
    go_enter Try.func14,Try.ntmps14
    go_wp2
    repeat (go_quiet (fail);try go_wp2)
    go_loopg [5,6] k (fun kq v5 v6 w' => ∃ (x5_1 : ByteArray) (x6_1 : Int),v5 = .string x5_1 ∧ v6 = .int .i64 x6_1 ∧ Aside0 (tachographref20_Get.l0 kq a0 x5_1 x6_1 = some (r1,r2,r3)) ∧ Aside0 (kq ≤ k) ∧ Aside0 (Below w.heap.size w w'))
    case atStart => exact ⟨((⟨#[]⟩ : ByteArray)),(1),(by first | rfl | (simp;done) | (simp [*];done)),(by first | rfl | (simp;done) | (simp [*];done)),H',⟨Nat.le_refl _⟩,⟨by repeat (first | (with_reducible first | exact HB.out | apply below_alloc | apply pw_below_drewN | apply below_drew1) | exact HB.out)⟩⟩
    case round =>
     clear H'
     try clear c1
     try clear c2
     try clear c2b0
     try clear c2b1
     try clear p2
     try clear c3
     try clear c3b0
     try clear c3b1
     try clear p4
     try clear q4
     try clear hx4
     try clear qi4
     try clear c5
     try clear c5b0
     try clear c5b1
     try clear p4
     try clear q4
     obtain ⟨x5_1,x6_1,rfl,rfl,HA,HK1,HB⟩:=hrel
     cases gk with
     | zero => exact absurd HA.out (by simp [tachographref20_Get.l0])
     | succ k1 =>
      have H:=HA.out
      clear HA
      simp only [tachographref20_Get.l0] at H
      have HC6:=Aside0.mk H
      clear H
      go_upto_region 7 with (fail)
      repeat (go_quiet (fail);go_upto_region 7 with (fail))
      go_cut [22] (fun v22 wc => ∃ (kq : Nat) (x22_5 : Bool),v22 = .bool x22_5 ∧ Aside0 (tachographref20_Get.j1 kq a0 x5_1 x6_1 x22_5 = some (r1,r2,r3)) ∧ Aside0 (kq ≤ k1) ∧ Aside0 (Below w.heap.size w wc))
      case first =>
       have H:=HC6.out
       clear HC6
       by_cases c7 : x6_1 < (a0.size : Int)
       ·rw [if_pos c7] at H
        have c7b0 : decide (x6_1 < (a0.size : Int)) = true:=decide_eq_true c7
        clear c7
        (first | rw [c7b0] | (simp only [i64_w,i32_w];rw [c7b0]) | skip)
        by_cases c8 : 0 ≤ x6_1
        ·rw [if_pos c8] at H
         have c8b0 : decide (0 ≤ x6_1) = true:=decide_eq_true c8
         clear c8
         have H':=Aside0.mk H
         clear H
         have p9 : 0 ≤ (x6_1 : Int):=of_decide_eq_true (by first | (with_reducible assumption) | assumption)
         have q9 : x6_1 < (a0.size : Int):=of_decide_eq_true (by first | (with_reducible assumption) | assumption)
         have hx9:=bt_at a0 x6_1
         replace p9:=eq_true p9
         replace q9:=eq_true q9
         go_wp2
         repeat (go_quiet (fail);try go_wp2)
         go_meet
         case rel => exact ⟨_,(((bt a0 x6_1) != 34)),(by first | rfl | (simp;done) | (simp [*];done)),H',⟨by have:=HK1.out;first | omega | exact Nat.le_refl _⟩,⟨by repeat (first | (with_reducible first | exact HB.out | apply below_alloc | apply pw_below_drewN | apply below_drew1) | exact HB.out)⟩⟩
        ·rw [if_neg c8] at H
         exact absurd H (by simp)
       ·rw [if_neg c7] at H
        have c7b0 : decide (x6_1 < (a0.size : Int)) = false:=decide_eq_false c7
        clear c7
        (first | rw [c7b0] | (simp only [i64_w,i32_w];rw [c7b0]) | skip)
        have H':=Aside0.mk H
        clear H
        go_wp2
        repeat (go_quiet (fail);try go_wp2)
        go_meet
        case rel => exact ⟨_,(false),(by first | rfl | (simp;done) | (simp [*];done)),H',⟨by have:=HK1.out;first | omega | exact Nat.le_refl _⟩,⟨by repeat (first | (with_reducible first | exact HB.out | apply below_alloc | apply pw_below_drewN | apply below_drew1) | exact HB.out)⟩⟩
      case rest =>
       clear HC6
       try clear c1
       try clear c2
       try clear c2b0
       try clear c2b1
       try clear p2
       try clear c3
       try clear c3b0
       try clear c3b1
       try clear p4
       try clear q4
       try clear hx4
       try clear qi4
       try clear c5
       try clear c5b0
       try clear c5b1
       try clear c7
       try clear c7b0
       try clear c8
       try clear c8b0
       try clear p9
       try clear q9
       try clear hx9
       try clear p2
       try clear p4
       try clear p9
       try clear q4
       try clear q9
       obtain ⟨kq,x22_5,rfl,HA,HJ5,HB⟩:=hcut
       cases kq with
       | zero => exact absurd HA.out (by simp [tachographref20_Get.j1])
       | succ kj5 =>
        have H:=HA.out
        clear HA
        simp only [tachographref20_Get.j1] at H
        by_cases c10 : x22_5 = true
        ·subst c10
         have H1 : (if 0 ≤ x6_1 then (if x6_1 ≤ (a0.size : Int) then ((tachographref20_next.f kj5 (a0.extract (x6_1 : Int).toNat a0.size)).bind fun bt162 => (if bt162.2.2 = 0 then ((some (([bt162.1] : List Int) : List Int)).bind fun y166 => (if x5_1.size + (strOfNums y166).size ≤ 9223372036854775807 then (tachographref20_Get.l0 kj5 a0 (x5_1 ++ (strOfNums y166)) (wrap64 (x6_1 + bt162.2.1))) else (none))) else (some ((⟨#[]⟩ : ByteArray),0,bt162.2.2)))) else (none)) else (none)) = some (r1,r2,r3):=by rw [if_pos rfl] at H;exact H
         clear H
         have H:=H1
         clear H1
         by_cases c11 : 0 ≤ x6_1
         ·rw [if_pos c11] at H
          have c11b0:=eq_true c11
          have c11b1 : decide (0 ≤ x6_1) = true:=decide_eq_true c11
          clear c11
          by_cases c12 : x6_1 ≤ (a0.size : Int)
          ·rw [if_pos c12] at H
           have c12b0:=eq_true c12
           have c12b1 : decide (x6_1 ≤ (a0.size : Int)) = true:=decide_eq_true c12
           clear c12
           replace H:=Option.bind_eq_some_iff.mp H
           obtain ⟨⟨t162,t163,t164⟩,A130,H⟩:=H
           replace H : (if t164 = 0 then ((some (([t162] : List Int) : List Int)).bind fun y166 => (if x5_1.size + (strOfNums y166).size ≤ 9223372036854775807 then (tachographref20_Get.l0 kj5 a0 (x5_1 ++ (strOfNums y166)) (wrap64 (x6_1 + t163))) else (none))) else (some ((⟨#[]⟩ : ByteArray),0,t164))) = some (r1,r2,r3):=H
           have A13:=Aside0.mk A130
           clear A130
           by_cases c14 : t164 = 0
           ·rw [if_pos c14] at H
            have c14b0 : (t164 == 0) = true:=beq_iff_eq.mpr c14
            have c14b1 : (t164 != 0) = false:=bne_eq_false_iff_eq.mpr c14
            clear c14
            obtain ⟨y166,hy166⟩ : ∃ y_ : List Int,y_ = (([t162] : List Int)):=⟨_,rfl⟩
            replace H : (if x5_1.size + (strOfNums y166).size ≤ 9223372036854775807 then (tachographref20_Get.l0 kj5 a0 (x5_1 ++ (strOfNums y166)) (wrap64 (x6_1 + t163))) else (none)) = some (r1,r2,r3):=by first | (rw [hy166];with_reducible exact H) | (have H2_:=(Option.bind_some _ _).symm.trans H;rw [hy166];with_reducible exact H2_) | (have H2_:=(Option.bind_some _ _).symm.trans H;with_reducible exact H2_) | with_reducible exact H | (rw [hy166];exact H) | exact H
            have Ny166:=Aside0.mk hy166
            clear hy166
            by_cases c15 : x5_1.size + (strOfNums y166).size ≤ 9223372036854775807
            ·rw [if_pos c15] at H
             have c15b0:=eq_true c15
             have c15b1 : decide (x5_1.size + (strOfNums y166).size ≤ 9223372036854775807) = true:=decide_eq_true c15
             try have c15b2 : (9223372036854775807 < x5_1.size + (strOfNums y166).size) = False:=eq_false (Nat.not_lt.2 c15)
             have H':=Aside0.mk H
             clear H
             go_wp2_with (first | (go_at_call 33;(with_reducible refine (tachographref20_next.calls kj5 (a0.extract (x6_1 : Int).toNat a0.size) t162 t163 t164 _ A13.out).mono ?_);rintro e w16 ⟨rfl,hb⟩;have n0_:=Aside0.mk (below_step (by repeat (first | (with_reducible first | exact HB.out | apply below_alloc | apply pw_below_drewN | apply below_drew1) | exact HB.out)) hb);clear HB;have HB:=n0_;clear n0_;(try clear hb);(try clear hb2);(try clear hk);(try clear hi)) | ((with_reducible refine gate_dst (N:=7) rfl ?_);refine box_event ?hg (N:=7) ?hd (cs:=#[.int .u8 0,.int .i64 0,.int .i64 0]) (t:=71) ?hr ?_;(case hd => rfl);(case hg => rfl);(case hr => first | (go_simp;done) | (go_simp;rfl));intro gb165 hg w17 hbox hb;have n0_:=Aside0.mk (below_step (by repeat (first | (with_reducible first | exact HB.out | apply below_alloc | apply pw_below_drewN | apply below_drew1) | exact HB.out)) hb);have n1_:=Aside0.mk (hbox);have n2_:=Aside0.mk ((by rw [hg];exact (below_size (by repeat (first | (with_reducible first | exact HB.out | apply below_alloc | apply pw_below_drewN | apply below_drew1) | exact HB.out))) : w.heap.size ≤ gb165));have n3_:=Aside0.mk ((by rw [hg];exact (below_size (by repeat (first | (with_reducible first | exact HB.out | apply below_alloc | apply pw_below_drewN | apply below_drew1) | exact HB.out))) : w.heap.size ≤ gb165));clear HB;have HB:=n0_;have BK165:=n1_;have GW165:=n2_;have GE165:=n3_;clear n0_ n1_ n2_ n3_;clear hb hbox hg;have hcz18_0 : w17.cell? ⟨gb165,0,none⟩ = some (.int .u8 0):=(blk_cell BK165.out 0).trans rfl;have hcz18_1 : w17.cell? ⟨gb165,1,none⟩ = some (.int .i64 0):=(blk_cell BK165.out 1).trans rfl;have hcz18_2 : w17.cell? ⟨gb165,2,none⟩ = some (.int .i64 0):=(blk_cell BK165.out 2).trans rfl;have hfz18_0:=blk_frozen BK165.out 0;have hfz18_1:=blk_frozen BK165.out 1;have hfz18_2:=blk_frozen BK165.out 2) | ((with_reducible refine gate_dst (N:=35) rfl ?_);refine Kd.R_lit (Kd.int .u8) _ 5 ?hg (N:=35) ?hd (xs:=([t162] : List Int)) (inner:=[.int .u8 t162]) (ok:=fun _ => True) (okp:=fun _ => True) ?hr ?hp (fun _ hk => hk) trivial (Below.refl _ _) (Nat.le_refl _) (by simp) ?_;(case hd => rfl);(case hg => rfl);(case hr => first | (go_simp;done) | (go_simp;rfl));(case hp => exact (Reps.one (show Kd.M (Kd.int .u8) _ _ _ t162 [.int .u8 t162] from rfl) (Reps.none _ _)));intro v167 w19 ho20 hb hg_ hnew_;clear hg_ hnew_;(first | rw [← Ny166.out] at ho20 | (simp only [Int.reduceToNat] at ho20;rw [← Ny166.out] at ho20));have n0_:=Aside0.mk (Kd.R_lower ho20 (below_size (by repeat (first | (with_reducible first | exact HB.out | apply below_alloc | apply pw_below_drewN | apply below_drew1 | refine below_set ?_ GE165.out) | exact HB.out))));have n1_:=Aside0.mk (blk_below (g:=gb165) (o:=.cells #[.int .u8 t162,.int .i64 t163,.int .i64 t164] 71 (0,0)) (by (with_reducible repeat (first | refine blk_drewN ?_ _ | refine blk_drew ?_ | refine blk_alloc ?_ _));refine blk_put (cs:=#[.int .u8 t162,.int .i64 t163,.int .i64 0]) ?_ 2 _ rfl;(with_reducible repeat (first | refine blk_drewN ?_ _ | refine blk_drew ?_ | refine blk_alloc ?_ _));refine blk_put (cs:=#[.int .u8 t162,.int .i64 0,.int .i64 0]) ?_ 1 _ rfl;(with_reducible repeat (first | refine blk_drewN ?_ _ | refine blk_drew ?_ | refine blk_alloc ?_ _));refine blk_put (cs:=#[.int .u8 0,.int .i64 0,.int .i64 0]) ?_ 0 _ rfl;(with_reducible repeat (first | refine blk_drewN ?_ _ | refine blk_drew ?_ | refine blk_alloc ?_ _));exact BK165.out) hb);have n2_:=Aside0.mk (below_step (by repeat (first | (with_reducible first | exact HB.out | apply below_alloc | apply pw_below_drewN | apply below_drew1 | refine below_set ?_ GE165.out) | exact HB.out)) hb);clear BK165;clear HB;have HO168:=n0_;have BK165:=n1_;have HB:=n2_;clear n0_ n1_ n2_;clear hb ho20;have hcv21:=own_string (P:=Try.prog) Try.underlying49 Try.underlying5 Try.underlying9 (Kd.own_of_R HO168.out);have hcz22_0 : w19.cell? ⟨gb165,0,none⟩ = some (.int .u8 t162):=(blk_cell BK165.out 0).trans rfl;have hcz22_1 : w19.cell? ⟨gb165,1,none⟩ = some (.int .i64 t163):=(blk_cell BK165.out 1).trans rfl;have hcz22_2 : w19.cell? ⟨gb165,2,none⟩ = some (.int .i64 t164):=(blk_cell BK165.out 2).trans rfl;have hfz22_0:=blk_frozen BK165.out 0;have hfz22_1:=blk_frozen BK165.out 1;have hfz22_2:=blk_frozen BK165.out 2))
             repeat (go_quiet (first | (go_at_call 33;(with_reducible refine (tachographref20_next.calls kj5 (a0.extract (x6_1 : Int).toNat a0.size) t162 t163 t164 _ A13.out).mono ?_);rintro e w16 ⟨rfl,hb⟩;have n0_:=Aside0.mk (below_step (by repeat (first | (with_reducible first | exact HB.out | apply below_alloc | apply pw_below_drewN | apply below_drew1) | exact HB.out)) hb);clear HB;have HB:=n0_;clear n0_;(try clear hb);(try clear hb2);(try clear hk);(try clear hi)) | ((with_reducible refine gate_dst (N:=7) rfl ?_);refine box_event ?hg (N:=7) ?hd (cs:=#[.int .u8 0,.int .i64 0,.int .i64 0]) (t:=71) ?hr ?_;(case hd => rfl);(case hg => rfl);(case hr => first | (go_simp;done) | (go_simp;rfl));intro gb165 hg w17 hbox hb;have n0_:=Aside0.mk (below_step (by repeat (first | (with_reducible first | exact HB.out | apply below_alloc | apply pw_below_drewN | apply below_drew1) | exact HB.out)) hb);have n1_:=Aside0.mk (hbox);have n2_:=Aside0.mk ((by rw [hg];exact (below_size (by repeat (first | (with_reducible first | exact HB.out | apply below_alloc | apply pw_below_drewN | apply below_drew1) | exact HB.out))) : w.heap.size ≤ gb165));have n3_:=Aside0.mk ((by rw [hg];exact (below_size (by repeat (first | (with_reducible first | exact HB.out | apply below_alloc | apply pw_below_drewN | apply below_drew1) | exact HB.out))) : w.heap.size ≤ gb165));clear HB;have HB:=n0_;have BK165:=n1_;have GW165:=n2_;have GE165:=n3_;clear n0_ n1_ n2_ n3_;clear hb hbox hg;have hcz18_0 : w17.cell? ⟨gb165,0,none⟩ = some (.int .u8 0):=(blk_cell BK165.out 0).trans rfl;have hcz18_1 : w17.cell? ⟨gb165,1,none⟩ = some (.int .i64 0):=(blk_cell BK165.out 1).trans rfl;have hcz18_2 : w17.cell? ⟨gb165,2,none⟩ = some (.int .i64 0):=(blk_cell BK165.out 2).trans rfl;have hfz18_0:=blk_frozen BK165.out 0;have hfz18_1:=blk_frozen BK165.out 1;have hfz18_2:=blk_frozen BK165.out 2) | ((with_reducible refine gate_dst (N:=35) rfl ?_);refine Kd.R_lit (Kd.int .u8) _ 5 ?hg (N:=35) ?hd (xs:=([t162] : List Int)) (inner:=[.int .u8 t162]) (ok:=fun _ => True) (okp:=fun _ => True) ?hr ?hp (fun _ hk => hk) trivial (Below.refl _ _) (Nat.le_refl _) (by simp) ?_;(case hd => rfl);(case hg => rfl);(case hr => first | (go_simp;done) | (go_simp;rfl));(case hp => exact (Reps.one (show Kd.M (Kd.int .u8) _ _ _ t162 [.int .u8 t162] from rfl) (Reps.none _ _)));intro v167 w19 ho20 hb hg_ hnew_;clear hg_ hnew_;(first | rw [← Ny166.out] at ho20 | (simp only [Int.reduceToNat] at ho20;rw [← Ny166.out] at ho20));have n0_:=Aside0.mk (Kd.R_lower ho20 (below_size (by repeat (first | (with_reducible first | exact HB.out | apply below_alloc | apply pw_below_drewN | apply below_drew1 | refine below_set ?_ GE165.out) | exact HB.out))));have n1_:=Aside0.mk (blk_below (g:=gb165) (o:=.cells #[.int .u8 t162,.int .i64 t163,.int .i64 t164] 71 (0,0)) (by (with_reducible repeat (first | refine blk_drewN ?_ _ | refine blk_drew ?_ | refine blk_alloc ?_ _));refine blk_put (cs:=#[.int .u8 t162,.int .i64 t163,.int .i64 0]) ?_ 2 _ rfl;(with_reducible repeat (first | refine blk_drewN ?_ _ | refine blk_drew ?_ | refine blk_alloc ?_ _));refine blk_put (cs:=#[.int .u8 t162,.int .i64 0,.int .i64 0]) ?_ 1 _ rfl;(with_reducible repeat (first | refine blk_drewN ?_ _ | refine blk_drew ?_ | refine blk_alloc ?_ _));refine blk_put (cs:=#[.int .u8 0,.int .i64 0,.int .i64 0]) ?_ 0 _ rfl;(with_reducible repeat (first | refine blk_drewN ?_ _ | refine blk_drew ?_ | refine blk_alloc ?_ _));exact BK165.out) hb);have n2_:=Aside0.mk (below_step (by repeat (first | (with_reducible first | exact HB.out | apply below_alloc | apply pw_below_drewN | apply below_drew1 | refine below_set ?_ GE165.out) | exact HB.out)) hb);clear BK165;clear HB;have HO168:=n0_;have BK165:=n1_;have HB:=n2_;clear n0_ n1_ n2_;clear hb ho20;have hcv21:=own_string (P:=Try.prog) Try.underlying49 Try.underlying5 Try.underlying9 (Kd.own_of_R HO168.out);have hcz22_0 : w19.cell? ⟨gb165,0,none⟩ = some (.int .u8 t162):=(blk_cell BK165.out 0).trans rfl;have hcz22_1 : w19.cell? ⟨gb165,1,none⟩ = some (.int .i64 t163):=(blk_cell BK165.out 1).trans rfl;have hcz22_2 : w19.cell? ⟨gb165,2,none⟩ = some (.int .i64 t164):=(blk_cell BK165.out 2).trans rfl;have hfz22_0:=blk_frozen BK165.out 0;have hfz22_1:=blk_frozen BK165.out 1;have hfz22_2:=blk_frozen BK165.out 2));try go_wp2_with (first | (go_at_call 33;(with_reducible refine (tachographref20_next.calls kj5 (a0.extract (x6_1 : Int).toNat a0.size) t162 t163 t164 _ A13.out).mono ?_);rintro e w16 ⟨rfl,hb⟩;have n0_:=Aside0.mk (below_step (by repeat (first | (with_reducible first | exact HB.out | apply below_alloc | apply pw_below_drewN | apply below_drew1) | exact HB.out)) hb);clear HB;have HB:=n0_;clear n0_;(try clear hb);(try clear hb2);(try clear hk);(try clear hi)) | ((with_reducible refine gate_dst (N:=7) rfl ?_);refine box_event ?hg (N:=7) ?hd (cs:=#[.int .u8 0,.int .i64 0,.int .i64 0]) (t:=71) ?hr ?_;(case hd => rfl);(case hg => rfl);(case hr => first | (go_simp;done) | (go_simp;rfl));intro gb165 hg w17 hbox hb;have n0_:=Aside0.mk (below_step (by repeat (first | (with_reducible first | exact HB.out | apply below_alloc | apply pw_below_drewN | apply below_drew1) | exact HB.out)) hb);have n1_:=Aside0.mk (hbox);have n2_:=Aside0.mk ((by rw [hg];exact (below_size (by repeat (first | (with_reducible first | exact HB.out | apply below_alloc | apply pw_below_drewN | apply below_drew1) | exact HB.out))) : w.heap.size ≤ gb165));have n3_:=Aside0.mk ((by rw [hg];exact (below_size (by repeat (first | (with_reducible first | exact HB.out | apply below_alloc | apply pw_below_drewN | apply below_drew1) | exact HB.out))) : w.heap.size ≤ gb165));clear HB;have HB:=n0_;have BK165:=n1_;have GW165:=n2_;have GE165:=n3_;clear n0_ n1_ n2_ n3_;clear hb hbox hg;have hcz18_0 : w17.cell? ⟨gb165,0,none⟩ = some (.int .u8 0):=(blk_cell BK165.out 0).trans rfl;have hcz18_1 : w17.cell? ⟨gb165,1,none⟩ = some (.int .i64 0):=(blk_cell BK165.out 1).trans rfl;have hcz18_2 : w17.cell? ⟨gb165,2,none⟩ = some (.int .i64 0):=(blk_cell BK165.out 2).trans rfl;have hfz18_0:=blk_frozen BK165.out 0;have hfz18_1:=blk_frozen BK165.out 1;have hfz18_2:=blk_frozen BK165.out 2) | ((with_reducible refine gate_dst (N:=35) rfl ?_);refine Kd.R_lit (Kd.int .u8) _ 5 ?hg (N:=35) ?hd (xs:=([t162] : List Int)) (inner:=[.int .u8 t162]) (ok:=fun _ => True) (okp:=fun _ => True) ?hr ?hp (fun _ hk => hk) trivial (Below.refl _ _) (Nat.le_refl _) (by simp) ?_;(case hd => rfl);(case hg => rfl);(case hr => first | (go_simp;done) | (go_simp;rfl));(case hp => exact (Reps.one (show Kd.M (Kd.int .u8) _ _ _ t162 [.int .u8 t162] from rfl) (Reps.none _ _)));intro v167 w19 ho20 hb hg_ hnew_;clear hg_ hnew_;(first | rw [← Ny166.out] at ho20 | (simp only [Int.reduceToNat] at ho20;rw [← Ny166.out] at ho20));have n0_:=Aside0.mk (Kd.R_lower ho20 (below_size (by repeat (first | (with_reducible first | exact HB.out | apply below_alloc | apply pw_below_drewN | apply below_drew1 | refine below_set ?_ GE165.out) | exact HB.out))));have n1_:=Aside0.mk (blk_below (g:=gb165) (o:=.cells #[.int .u8 t162,.int .i64 t163,.int .i64 t164] 71 (0,0)) (by (with_reducible repeat (first | refine blk_drewN ?_ _ | refine blk_drew ?_ | refine blk_alloc ?_ _));refine blk_put (cs:=#[.int .u8 t162,.int .i64 t163,.int .i64 0]) ?_ 2 _ rfl;(with_reducible repeat (first | refine blk_drewN ?_ _ | refine blk_drew ?_ | refine blk_alloc ?_ _));refine blk_put (cs:=#[.int .u8 t162,.int .i64 0,.int .i64 0]) ?_ 1 _ rfl;(with_reducible repeat (first | refine blk_drewN ?_ _ | refine blk_drew ?_ | refine blk_alloc ?_ _));refine blk_put (cs:=#[.int .u8 0,.int .i64 0,.int .i64 0]) ?_ 0 _ rfl;(with_reducible repeat (first | refine blk_drewN ?_ _ | refine blk_drew ?_ | refine blk_alloc ?_ _));exact BK165.out) hb);have n2_:=Aside0.mk (below_step (by repeat (first | (with_reducible first | exact HB.out | apply below_alloc | apply pw_below_drewN | apply below_drew1 | refine below_set ?_ GE165.out) | exact HB.out)) hb);clear BK165;clear HB;have HO168:=n0_;have BK165:=n1_;have HB:=n2_;clear n0_ n1_ n2_;clear hb ho20;have hcv21:=own_string (P:=Try.prog) Try.underlying49 Try.underlying5 Try.underlying9 (Kd.own_of_R HO168.out);have hcz22_0 : w19.cell? ⟨gb165,0,none⟩ = some (.int .u8 t162):=(blk_cell BK165.out 0).trans rfl;have hcz22_1 : w19.cell? ⟨gb165,1,none⟩ = some (.int .i64 t163):=(blk_cell BK165.out 1).trans rfl;have hcz22_2 : w19.cell? ⟨gb165,2,none⟩ = some (.int .i64 t164):=(blk_cell BK165.out 2).trans rfl;have hfz22_0:=blk_frozen BK165.out 0;have hfz22_1:=blk_frozen BK165.out 1;have hfz22_2:=blk_frozen BK165.out 2)))
             go_roundg kj5
             case measure => have:=HK1.out;have:=HJ5.out;omega
             case rel => exact ⟨(x5_1 ++ (strOfNums y166)),(wrap64 (x6_1 + t163)),(by first | rfl | (simp;done) | (simp [*];done)),(by first | rfl | (simp;done) | (simp [*];done)),H',⟨by have:=HK1.out;have:=HJ5.out;omega⟩,⟨by repeat (first | (with_reducible first | exact HB.out | apply below_alloc | apply pw_below_drewN | apply below_drew1 | refine below_set ?_ GE165.out) | exact HB.out)⟩⟩
            ·rw [if_neg c15] at H
             exact absurd H (by simp)
           ·rw [if_neg c14] at H
            have c14b0 : (t164 == 0) = false:=beq_eq_false_iff_ne.mpr c14
            have c14b1 : (t164 != 0) = true:=bne_iff_ne.mpr c14
            simp only [Option.some.injEq,Prod.mk.injEq] at H
            obtain ⟨rfl,rfl,rfl⟩:=H
            go_wp2_with (first | (go_at_call 33;(with_reducible refine (tachographref20_next.calls kj5 (a0.extract (x6_1 : Int).toNat a0.size) t162 t163 t164 _ A13.out).mono ?_);rintro e w23 ⟨rfl,hb⟩;have n0_:=Aside0.mk (below_step (by repeat (first | (with_reducible first | exact HB.out | apply below_alloc | apply pw_below_drewN | apply below_drew1) | exact HB.out)) hb);clear HB;have HB:=n0_;clear n0_;(try clear hb);(try clear hb2);(try clear hk);(try clear hi)) | ((with_reducible refine gate_dst (N:=7) rfl ?_);refine box_event ?hg (N:=7) ?hd (cs:=#[.int .u8 0,.int .i64 0,.int .i64 0]) (t:=71) ?hr ?_;(case hd => rfl);(case hg => rfl);(case hr => first | (go_simp;done) | (go_simp;rfl));intro gb165 hg w24 hbox hb;have n0_:=Aside0.mk (below_step (by repeat (first | (with_reducible first | exact HB.out | apply below_alloc | apply pw_below_drewN | apply below_drew1) | exact HB.out)) hb);have n1_:=Aside0.mk (hbox);have n2_:=Aside0.mk ((by rw [hg];exact (below_size (by repeat (first | (with_reducible first | exact HB.out | apply below_alloc | apply pw_below_drewN | apply below_drew1) | exact HB.out))) : w.heap.size ≤ gb165));have n3_:=Aside0.mk ((by rw [hg];exact (below_size (by repeat (first | (with_reducible first | exact HB.out | apply below_alloc | apply pw_below_drewN | apply below_drew1) | exact HB.out))) : w.heap.size ≤ gb165));clear HB;have HB:=n0_;have BK165:=n1_;have GW165:=n2_;have GE165:=n3_;clear n0_ n1_ n2_ n3_;clear hb hbox hg;have hcz25_0 : w24.cell? ⟨gb165,0,none⟩ = some (.int .u8 0):=(blk_cell BK165.out 0).trans rfl;have hcz25_1 : w24.cell? ⟨gb165,1,none⟩ = some (.int .i64 0):=(blk_cell BK165.out 1).trans rfl;have hcz25_2 : w24.cell? ⟨gb165,2,none⟩ = some (.int .i64 0):=(blk_cell BK165.out 2).trans rfl;have hfz25_0:=blk_frozen BK165.out 0;have hfz25_1:=blk_frozen BK165.out 1;have hfz25_2:=blk_frozen BK165.out 2))
            repeat (go_quiet (first | (go_at_call 33;(with_reducible refine (tachographref20_next.calls kj5 (a0.extract (x6_1 : Int).toNat a0.size) t162 t163 t164 _ A13.out).mono ?_);rintro e w23 ⟨rfl,hb⟩;have n0_:=Aside0.mk (below_step (by repeat (first | (with_reducible first | exact HB.out | apply below_alloc | apply pw_below_drewN | apply below_drew1) | exact HB.out)) hb);clear HB;have HB:=n0_;clear n0_;(try clear hb);(try clear hb2);(try clear hk);(try clear hi)) | ((with_reducible refine gate_dst (N:=7) rfl ?_);refine box_event ?hg (N:=7) ?hd (cs:=#[.int .u8 0,.int .i64 0,.int .i64 0]) (t:=71) ?hr ?_;(case hd => rfl);(case hg => rfl);(case hr => first | (go_simp;done) | (go_simp;rfl));intro gb165 hg w24 hbox hb;have n0_:=Aside0.mk (below_step (by repeat (first | (with_reducible first | exact HB.out | apply below_alloc | apply pw_below_drewN | apply below_drew1) | exact HB.out)) hb);have n1_:=Aside0.mk (hbox);have n2_:=Aside0.mk ((by rw [hg];exact (below_size (by repeat (first | (with_reducible first | exact HB.out | apply below_alloc | apply pw_below_drewN | apply below_drew1) | exact HB.out))) : w.heap.size ≤ gb165));have n3_:=Aside0.mk ((by rw [hg];exact (below_size (by repeat (first | (with_reducible first | exact HB.out | apply below_alloc | apply pw_below_drewN | apply below_drew1) | exact HB.out))) : w.heap.size ≤ gb165));clear HB;have HB:=n0_;have BK165:=n1_;have GW165:=n2_;have GE165:=n3_;clear n0_ n1_ n2_ n3_;clear hb hbox hg;have hcz25_0 : w24.cell? ⟨gb165,0,none⟩ = some (.int .u8 0):=(blk_cell BK165.out 0).trans rfl;have hcz25_1 : w24.cell? ⟨gb165,1,none⟩ = some (.int .i64 0):=(blk_cell BK165.out 1).trans rfl;have hcz25_2 : w24.cell? ⟨gb165,2,none⟩ = some (.int .i64 0):=(blk_cell BK165.out 2).trans rfl;have hfz25_0:=blk_frozen BK165.out 0;have hfz25_1:=blk_frozen BK165.out 1;have hfz25_2:=blk_frozen BK165.out 2));try go_wp2_with (first | (go_at_call 33;(with_reducible refine (tachographref20_next.calls kj5 (a0.extract (x6_1 : Int).toNat a0.size) t162 t163 t164 _ A13.out).mono ?_);rintro e w23 ⟨rfl,hb⟩;have n0_:=Aside0.mk (below_step (by repeat (first | (with_reducible first | exact HB.out | apply below_alloc | apply pw_below_drewN | apply below_drew1) | exact HB.out)) hb);clear HB;have HB:=n0_;clear n0_;(try clear hb);(try clear hb2);(try clear hk);(try clear hi)) | ((with_reducible refine gate_dst (N:=7) rfl ?_);refine box_event ?hg (N:=7) ?hd (cs:=#[.int .u8 0,.int .i64 0,.int .i64 0]) (t:=71) ?hr ?_;(case hd => rfl);(case hg => rfl);(case hr => first | (go_simp;done) | (go_simp;rfl));intro gb165 hg w24 hbox hb;have n0_:=Aside0.mk (below_step (by repeat (first | (with_reducible first | exact HB.out | apply below_alloc | apply pw_below_drewN | apply below_drew1) | exact HB.out)) hb);have n1_:=Aside0.mk (hbox);have n2_:=Aside0.mk ((by rw [hg];exact (below_size (by repeat (first | (with_reducible first | exact HB.out | apply below_alloc | apply pw_below_drewN | apply below_drew1) | exact HB.out))) : w.heap.size ≤ gb165));have n3_:=Aside0.mk ((by rw [hg];exact (below_size (by repeat (first | (with_reducible first | exact HB.out | apply below_alloc | apply pw_below_drewN | apply below_drew1) | exact HB.out))) : w.heap.size ≤ gb165));clear HB;have HB:=n0_;have BK165:=n1_;have GW165:=n2_;have GE165:=n3_;clear n0_ n1_ n2_ n3_;clear hb hbox hg;have hcz25_0 : w24.cell? ⟨gb165,0,none⟩ = some (.int .u8 0):=(blk_cell BK165.out 0).trans rfl;have hcz25_1 : w24.cell? ⟨gb165,1,none⟩ = some (.int .i64 0):=(blk_cell BK165.out 1).trans rfl;have hcz25_2 : w24.cell? ⟨gb165,2,none⟩ = some (.int .i64 0):=(blk_cell BK165.out 2).trans rfl;have hfz25_0:=blk_frozen BK165.out 0;have hfz25_1:=blk_frozen BK165.out 1;have hfz25_2:=blk_frozen BK165.out 2)))
            go_ret3
            exact ⟨by first | rfl | (simp [errW_none,errW_some] <;> rfl) | (simp [*,errW_none,errW_some] <;> rfl),by repeat (first | (with_reducible first | exact HB.out | apply below_alloc | apply pw_below_drewN | apply below_drew1 | refine below_set ?_ GE165.out) | exact HB.out)⟩
          ·rw [if_neg c12] at H
           exact absurd H (by simp)
         ·rw [if_neg c11] at H
          exact absurd H (by simp)
        ·replace c10:=Bool.eq_false_iff.mpr c10
         subst c10
         have H1 : (if x6_1 = (a0.size : Int) then (some ((⟨#[]⟩ : ByteArray),0,2)) else (if (x5_1.size : Int) > 200 then (some ((⟨#[]⟩ : ByteArray),0,6)) else (some (x5_1,wrap64 (x6_1 + 1),0)))) = some (r1,r2,r3):=by rw [if_neg (show ¬ (false = true) by decide)] at H;exact H
         clear H
         have H:=H1
         clear H1
         by_cases c26 : x6_1 = (a0.size : Int)
         ·rw [if_pos c26] at H
          have c26b0 : (x6_1 == (a0.size : Int)) = true:=beq_iff_eq.mpr c26
          have c26b1 : (x6_1 != (a0.size : Int)) = false:=bne_eq_false_iff_eq.mpr c26
          clear c26
          simp only [Option.some.injEq,Prod.mk.injEq] at H
          obtain ⟨rfl,rfl,rfl⟩:=H
          go_wp2
          repeat (go_quiet (fail);try go_wp2)
          go_ret3
          exact ⟨by first | rfl | (simp [errW_none,errW_some] <;> rfl) | (simp [*,errW_none,errW_some] <;> rfl),by repeat (first | (with_reducible first | exact HB.out | apply below_alloc | apply pw_below_drewN | apply below_drew1) | exact HB.out)⟩
         ·rw [if_neg c26] at H
          have c26b0 : (x6_1 == (a0.size : Int)) = false:=beq_eq_false_iff_ne.mpr c26
          have c26b1 : (x6_1 != (a0.size : Int)) = true:=bne_iff_ne.mpr c26
          by_cases c27 : (x5_1.size : Int) > 200
          ·rw [if_pos c27] at H
           have c27b0 : decide (200 < (x5_1.size : Int)) = true:=decide_eq_true c27
           have c27b1 : decide (200 < x5_1.size) = true:=decide_eq_true (by omega)
           clear c27
           simp only [Option.some.injEq,Prod.mk.injEq] at H
           obtain ⟨rfl,rfl,rfl⟩:=H
           go_wp2
           repeat (go_quiet (fail);try go_wp2)
           go_ret3
           exact ⟨by first | rfl | (simp [errW_none,errW_some] <;> rfl) | (simp [*,errW_none,errW_some] <;> rfl),by repeat (first | (with_reducible first | exact HB.out | apply below_alloc | apply pw_below_drewN | apply below_drew1) | exact HB.out)⟩
          ·rw [if_neg c27] at H
           have c27b0 : decide (200 < (x5_1.size : Int)) = false:=decide_eq_false c27
           have c27b1 : decide (200 < x5_1.size) = false:=decide_eq_false (by omega)
           clear c27
           simp only [Option.some.injEq,Prod.mk.injEq] at H
           obtain ⟨rfl,rfl,rfl⟩:=H
           go_wp2
           repeat (go_quiet (fail);try go_wp2)
           go_ret3
           exact ⟨by first | rfl | (simp [errW_none,errW_some] <;> rfl) | (simp [*,errW_none,errW_some] <;> rfl),by repeat (first | (with_reducible first | exact HB.out | apply below_alloc | apply pw_below_drewN | apply below_drew1) | exact HB.out)⟩
   ·rw [if_neg c5] at H
    have c5b0 : ((bt a0 0) == 34) = false:=beq_eq_false_iff_ne.mpr c5
    have c5b1 : ((bt a0 0) != 34) = true:=bne_iff_ne.mpr c5
    simp only [Option.some.injEq,Prod.mk.injEq] at H
    obtain ⟨rfl,rfl,rfl⟩:=H
    have p4 : 0 ≤ (0 : Int):=(by omega)
    have q4 : 0 < a0.size:=(by have : (0 : Int) < (a0.size : Int):=of_decide_eq_true (by first | (with_reducible assumption) | assumption);omega)
    have hx4 : ∀ h : 0 < a0.size,((a0[0]'h).toNat : Int) = bt a0 0:=bt_at a0 0
    clear p4
    have qi4 : (0 < (a0.size : Int)) = True:=eq_true (of_decide_eq_true (by first | (with_reducible assumption) | assumption))
    replace q4:=eq_true q4
    go_enter Try.func14,Try.ntmps14
    go_wp2
    repeat (go_quiet (fail);try go_wp2)
    go_ret3
    exact ⟨by first | rfl | (simp [errW_none,errW_some] <;> rfl) | (simp [*,errW_none,errW_some] <;> rfl),by repeat (first | (with_reducible first | exact HB.out | apply below_alloc | apply pw_below_drewN | apply below_drew1) | exact HB.out)⟩
  ·rw [if_neg c3] at H
   exact absurd H (by simp)

/-! ### tachographlaw20_QuoteGets: function 4 -/
def tachographlaw20_QuoteGets.j0 : Nat → ByteArray → ByteArray → Int → Int → Bool → Option (Bool)
 | 0, _, _, _, _, _ => none
 | k + 1, x0, x3, x4, x5, x40 => if x40 = true then (some false) else ((quote_Put.f k x3).bind fun t176 => ((quote_Get.f k t176).bind fun bt177 => ((tachographlaw20_fixed.f k).bind fun t180 => (if t180 = true then (if bt177.1.toList = x3.toList then (if bt177.2.2 = 0 then (if x5 = 0 then (some (decide (x4 ≤ (x0.size : Int)))) else (some true)) else (some false)) else (some false)) else (some false)))))
def tachographlaw20_QuoteGets.f (k : Nat) (a0 : ByteArray) : Option (Bool) := if (a0.size : Int) > 1000 then ((tachographlaw20_fixed.f k).bind fun t169 => (some t169)) else ((quote_Get.f k a0).bind fun bt170 => ((tachographref20_Get.f k a0).bind fun bt173 => (if bt170.1.toList = bt173.1.toList then (if bt170.2.1 = bt173.2.1 then (tachographlaw20_QuoteGets.j0 k a0 bt170.1 bt170.2.1 bt170.2.2 (bt170.2.2 != bt173.2.2)) else (tachographlaw20_QuoteGets.j0 k a0 bt170.1 bt170.2.1 bt170.2.2 true)) else (tachographlaw20_QuoteGets.j0 k a0 bt170.1 bt170.2.1 bt170.2.2 true))))
theorem tachographlaw20_QuoteGets.mono_l : ∀ k, (∀ y0 y1 y2 y3 y4, LeO (tachographlaw20_QuoteGets.j0 k y0 y1 y2 y3 y4) (tachographlaw20_QuoteGets.j0 (k + 1) y0 y1 y2 y3 y4))
 | 0 => fun _ _ _ _ _ r h => by simp [tachographlaw20_QuoteGets.j0] at h
 | k + 1 => by
  have ih0 := tachographlaw20_QuoteGets.mono_l k
  ·intro y0 y1 y2 y3 y4
   unfold tachographlaw20_QuoteGets.j0
   repeat' first
   | (with_reducible exact ih0 _ _ _ _ _)
   | (with_reducible exact quote_Get.mono _ _)
   | (with_reducible exact quote_Put.mono _ _)
   | (with_reducible exact tachographlaw20_fixed.mono _)
   | (with_reducible exact tachographref20_Get.mono _ _)
   | (with_reducible exact LeO.refl _)
   | (with_reducible exact LeO.none _)
   | (with_reducible refine LeO.ite ?_ ?_)
   | (with_reducible refine LeO.bind ?_ (fun _ => ?_))
   | exact ih0 _ _ _ _ _
   | exact quote_Get.mono _ _
   | exact quote_Put.mono _ _
   | exact tachographlaw20_fixed.mono _
   | exact tachographref20_Get.mono _ _
   | exact LeO.none _
   | refine LeO.ite ?_ ?_
   | refine LeO.bind ?_ (fun _ => ?_)
theorem tachographlaw20_QuoteGets.mono : ∀ a0 k, LeO (tachographlaw20_QuoteGets.f k a0) (tachographlaw20_QuoteGets.f (k + 1) a0) := by
 intro a0 k
 have ih0 := tachographlaw20_QuoteGets.mono_l k
 unfold tachographlaw20_QuoteGets.f
 repeat' first
   | (with_reducible exact ih0 _ _ _ _ _)
   | (with_reducible exact quote_Get.mono _ _)
   | (with_reducible exact quote_Put.mono _ _)
   | (with_reducible exact tachographlaw20_fixed.mono _)
   | (with_reducible exact tachographref20_Get.mono _ _)
   | (with_reducible exact LeO.refl _)
   | (with_reducible exact LeO.none _)
   | (with_reducible refine LeO.ite ?_ ?_)
   | (with_reducible refine LeO.bind ?_ (fun _ => ?_))
   | exact ih0 _ _ _ _ _
   | exact quote_Get.mono _ _
   | exact quote_Put.mono _ _
   | exact tachographlaw20_fixed.mono _
   | exact tachographref20_Get.mono _ _
   | exact LeO.none _
   | refine LeO.ite ?_ ?_
   | refine LeO.bind ?_ (fun _ => ?_)
set_option maxHeartbeats 8000000 in
set_option maxRecDepth 100000 in
theorem tachographlaw20_QuoteGets.calls (k : Nat) (a0 : ByteArray) (r : Bool) (w : World) (h : tachographlaw20_QuoteGets.f k a0 = some r) :
  Calls Try.prog 4 #[.string a0] w fun e w' => e = .returned (.bool r) ∧ Below w.heap.size w w':=by
 have HB:=Aside0.mk (Below.refl w.heap.size w)
 have H : (if (a0.size : Int) > 1000 then ((tachographlaw20_fixed.f k).bind fun t169 => (some t169)) else ((quote_Get.f k a0).bind fun bt170 => ((tachographref20_Get.f k a0).bind fun bt173 => (if bt170.1.toList = bt173.1.toList then (if bt170.2.1 = bt173.2.1 then (tachographlaw20_QuoteGets.j0 k a0 bt170.1 bt170.2.1 bt170.2.2 (bt170.2.2 != bt173.2.2)) else (tachographlaw20_QuoteGets.j0 k a0 bt170.1 bt170.2.1 bt170.2.2 true)) else (tachographlaw20_QuoteGets.j0 k a0 bt170.1 bt170.2.1 bt170.2.2 true))))) = some r:=h
 clear h
 by_cases c2 : (a0.size : Int) > 1000
 ·rw [if_pos c2] at H
  have c2b0 : decide (1000 < (a0.size : Int)) = true:=decide_eq_true c2
  have c2b1 : decide (1000 < a0.size) = true:=decide_eq_true (by omega)
  clear c2
  replace H:=Option.bind_eq_some_iff.mp H
  obtain ⟨t169,A30,H⟩:=H
  replace H : (some t169) = some r:=H
  have A3:=Aside0.mk A30
  clear A30
  obtain rfl:=Option.some.inj H
  go_enter Try.func4,Try.ntmps4
  go_wp2_with (first | ((with_reducible refine gate_callee (f:=10) rfl ?_);refine goesL_ (some 15) rfl rfl Try.func10 (by kernel_rfl) rfl #[] rfl (by (try simp only [List.map_toArray,List.map_cons,List.map_nil]);first | done | rfl | (simp only [List.length_drop,List.length_take];rfl)) ?_;(with_reducible refine (tachographlaw20_fixed.calls k  t169 _ A3.out).mono ?_);rintro e w4 ⟨rfl,hb⟩;refine ⟨_,rfl,?_⟩;have n0_:=Aside0.mk (below_step (by repeat (first | (with_reducible first | exact HB.out | apply below_alloc | apply pw_below_drewN | apply below_drew1) | exact HB.out)) hb);clear HB;have HB:=n0_;clear n0_;(try clear hb);(try clear hb2);(try clear hk);(try clear hi)))
  go_ret
  exact ⟨by first | rfl | (simp [errW_none,errW_some] <;> rfl) | (simp [*,errW_none,errW_some] <;> rfl),by repeat (first | (with_reducible first | exact HB.out | apply below_alloc | apply pw_below_drewN | apply below_drew1) | exact HB.out)⟩
 ·rw [if_neg c2] at H
  have c2b0 : decide (1000 < (a0.size : Int)) = false:=decide_eq_false c2
  have c2b1 : decide (1000 < a0.size) = false:=decide_eq_false (by omega)
  clear c2
  replace H:=Option.bind_eq_some_iff.mp H
  obtain ⟨⟨t170,t171,t172⟩,A50,H⟩:=H
  replace H : ((tachographref20_Get.f k a0).bind fun bt173 => (if t170.toList = bt173.1.toList then (if t171 = bt173.2.1 then (tachographlaw20_QuoteGets.j0 k a0 t170 t171 t172 (t172 != bt173.2.2)) else (tachographlaw20_QuoteGets.j0 k a0 t170 t171 t172 true)) else (tachographlaw20_QuoteGets.j0 k a0 t170 t171 t172 true))) = some r:=H
  have A5:=Aside0.mk A50
  clear A50
  replace H:=Option.bind_eq_some_iff.mp H
  obtain ⟨⟨t173,t174,t175⟩,A60,H⟩:=H
  replace H : (if t170.toList = t173.toList then (if t171 = t174 then (tachographlaw20_QuoteGets.j0 k a0 t170 t171 t172 (t172 != t175)) else (tachographlaw20_QuoteGets.j0 k a0 t170 t171 t172 true)) else (tachographlaw20_QuoteGets.j0 k a0 t170 t171 t172 true)) = some r:=H
  have A6:=Aside0.mk A60
  clear A60
  have HC7:=Aside0.mk H
  clear H
  go_enter Try.func4,Try.ntmps4
  go_upto_region 5 with (first | ((with_reducible refine gate_callee (f:=12) rfl ?_);refine goesL_ (some 18) rfl rfl Try.func12 (by kernel_rfl) rfl #[.string a0] rfl (by (try simp only [List.map_toArray,List.map_cons,List.map_nil]);first | done | rfl | (simp only [List.length_drop,List.length_take];rfl)) ?_;(with_reducible refine (quote_Get.calls k a0 t170 t171 t172 _ A5.out).mono ?_);rintro e w8 ⟨rfl,hb⟩;refine ⟨_,rfl,?_⟩;have n0_:=Aside0.mk (below_step (by repeat (first | (with_reducible first | exact HB.out | apply below_alloc | apply pw_below_drewN | apply below_drew1) | exact HB.out)) hb);clear HB;have HB:=n0_;clear n0_;(try clear hb);(try clear hb2);(try clear hk);(try clear hi)) | ((with_reducible refine gate_callee (f:=14) rfl ?_);refine goesL_ (some 24) rfl rfl Try.func14 (by kernel_rfl) rfl #[.string a0] rfl (by (try simp only [List.map_toArray,List.map_cons,List.map_nil]);first | done | rfl | (simp only [List.length_drop,List.length_take];rfl)) ?_;(with_reducible refine (tachographref20_Get.calls k a0 t173 t174 t175 _ A6.out).mono ?_);rintro e w9 ⟨rfl,hb⟩;refine ⟨_,rfl,?_⟩;have n0_:=Aside0.mk (below_step (by repeat (first | (with_reducible first | exact HB.out | apply below_alloc | apply pw_below_drewN | apply below_drew1) | exact HB.out)) hb);clear HB;have HB:=n0_;clear n0_;(try clear hb);(try clear hb2);(try clear hk);(try clear hi)))
  (try simp only [Act.put,List.setIfInBounds_toArray,List.set_cons_zero,List.set_cons_succ])
  go_cut [40] (fun v40 wc => ∃ (kq : Nat) (x40_6 : Bool),v40 = .bool x40_6 ∧ Aside0 (tachographlaw20_QuoteGets.j0 kq a0 t170 t171 t172 x40_6 = some r) ∧ Aside0 (kq ≤ k) ∧ Aside0 (Below w.heap.size w wc))
  case first =>
   have H:=HC7.out
   clear HC7
   by_cases c10 : t170.toList = t173.toList
   ·rw [if_pos c10] at H
    have c10b0 : (t170.toList == t173.toList) = true:=beq_iff_eq.mpr c10
    have c10b1 : (t170.toList != t173.toList) = false:=bne_eq_false_iff_eq.mpr c10
    clear c10
    (first | rw [c10b0] | (simp only [i64_w,i32_w];rw [c10b0]) | skip)
    by_cases c11 : t171 = t174
    ·rw [if_pos c11] at H
     have c11b0 : (t171 == t174) = true:=beq_iff_eq.mpr c11
     have c11b1 : (t171 != t174) = false:=bne_eq_false_iff_eq.mpr c11
     clear c11
     have H':=Aside0.mk H
     clear H
     go_wp2
     go_meet
     case rel => exact ⟨_,((t172 != t175)),(by first | rfl | (simp;done) | (simp [*];done)),H',⟨by first | omega | exact Nat.le_refl _⟩,⟨by repeat (first | (with_reducible first | exact HB.out | apply below_alloc | apply pw_below_drewN | apply below_drew1) | exact HB.out)⟩⟩
    ·rw [if_neg c11] at H
     have c11b0 : (t171 == t174) = false:=beq_eq_false_iff_ne.mpr c11
     have c11b1 : (t171 != t174) = true:=bne_iff_ne.mpr c11
     have H':=Aside0.mk H
     clear H
     go_wp2
     go_meet
     case rel => exact ⟨_,(true),(by first | rfl | (simp;done) | (simp [*];done)),H',⟨by first | omega | exact Nat.le_refl _⟩,⟨by repeat (first | (with_reducible first | exact HB.out | apply below_alloc | apply pw_below_drewN | apply below_drew1) | exact HB.out)⟩⟩
   ·rw [if_neg c10] at H
    have c10b0 : (t170.toList == t173.toList) = false:=beq_eq_false_iff_ne.mpr c10
    have c10b1 : (t170.toList != t173.toList) = true:=bne_iff_ne.mpr c10
    (first | rw [c10b0] | (simp only [i64_w,i32_w];rw [c10b0]) | skip)
    have H':=Aside0.mk H
    clear H
    go_wp2
    go_meet
    case rel => exact ⟨_,(true),(by first | rfl | (simp;done) | (simp [*];done)),H',⟨by first | omega | exact Nat.le_refl _⟩,⟨by repeat (first | (with_reducible first | exact HB.out | apply below_alloc | apply pw_below_drewN | apply below_drew1) | exact HB.out)⟩⟩
  case rest =>
   clear HC7
   try clear c1
   try clear c2
   try clear c2b0
   try clear c2b1
   try clear p2
   try clear c4
   try clear c10
   try clear c10b0
   try clear c10b1
   try clear c11
   try clear c11b0
   try clear c11b1
   obtain ⟨kq,x40_6,rfl,HA,HJ6,HB⟩:=hcut
   cases kq with
   | zero => exact absurd HA.out (by simp [tachographlaw20_QuoteGets.j0])
   | succ kj6 =>
    have H:=HA.out
    clear HA
    simp only [tachographlaw20_QuoteGets.j0] at H
    by_cases c12 : x40_6 = true
    ·subst c12
     have H1 : (some false) = some r:=by rw [if_pos rfl] at H;exact H
     clear H
     have H:=H1
     clear H1
     obtain rfl:=Option.some.inj H
     go_wp2
     go_ret
     exact ⟨by first | rfl | (simp [errW_none,errW_some] <;> rfl) | (simp [*,errW_none,errW_some] <;> rfl),by repeat (first | (with_reducible first | exact HB.out | apply below_alloc | apply pw_below_drewN | apply below_drew1) | exact HB.out)⟩
    ·replace c12:=Bool.eq_false_iff.mpr c12
     subst c12
     have H1 : ((quote_Put.f kj6 t170).bind fun t176 => ((quote_Get.f kj6 t176).bind fun bt177 => ((tachographlaw20_fixed.f kj6).bind fun t180 => (if t180 = true then (if bt177.1.toList = t170.toList then (if bt177.2.2 = 0 then (if t172 = 0 then (some (decide (t171 ≤ (a0.size : Int)))) else (some true)) else (some false)) else (some false)) else (some false))))) = some r:=by rw [if_neg (show ¬ (false = true) by decide)] at H;exact H
     clear H
     have H:=H1
     clear H1
     replace H:=Option.bind_eq_some_iff.mp H
     obtain ⟨t176,A130,H⟩:=H
     replace H : ((quote_Get.f kj6 t176).bind fun bt177 => ((tachographlaw20_fixed.f kj6).bind fun t180 => (if t180 = true then (if bt177.1.toList = t170.toList then (if bt177.2.2 = 0 then (if t172 = 0 then (some (decide (t171 ≤ (a0.size : Int)))) else (some true)) else (some false)) else (some false)) else (some false)))) = some r:=H
     have A13:=Aside0.mk A130
     clear A130
     replace H:=Option.bind_eq_some_iff.mp H
     obtain ⟨⟨t177,t178,t179⟩,A140,H⟩:=H
     replace H : ((tachographlaw20_fixed.f kj6).bind fun t180 => (if t180 = true then (if t177.toList = t170.toList then (if t179 = 0 then (if t172 = 0 then (some (decide (t171 ≤ (a0.size : Int)))) else (some true)) else (some false)) else (some false)) else (some false))) = some r:=H
     have A14:=Aside0.mk A140
     clear A140
     replace H:=Option.bind_eq_some_iff.mp H
     obtain ⟨t180,A150,H⟩:=H
     replace H : (if t180 = true then (if t177.toList = t170.toList then (if t179 = 0 then (if t172 = 0 then (some (decide (t171 ≤ (a0.size : Int)))) else (some true)) else (some false)) else (some false)) else (some false)) = some r:=H
     have A15:=Aside0.mk A150
     clear A150
     by_cases c16 : t180 = true
     ·subst c16
      have H1 : (if t177.toList = t170.toList then (if t179 = 0 then (if t172 = 0 then (some (decide (t171 ≤ (a0.size : Int)))) else (some true)) else (some false)) else (some false)) = some r:=by rw [if_pos rfl] at H;exact H
      clear H
      have H:=H1
      clear H1
      by_cases c17 : t177.toList = t170.toList
      ·rw [if_pos c17] at H
       have c17b0 : (t177.toList == t170.toList) = true:=beq_iff_eq.mpr c17
       have c17b1 : (t177.toList != t170.toList) = false:=bne_eq_false_iff_eq.mpr c17
       clear c17
       by_cases c18 : t179 = 0
       ·rw [if_pos c18] at H
        have c18b0 : (t179 == 0) = true:=beq_iff_eq.mpr c18
        have c18b1 : (t179 != 0) = false:=bne_eq_false_iff_eq.mpr c18
        clear c18
        by_cases c19 : t172 = 0
        ·rw [if_pos c19] at H
         have c19b0 : (t172 == 0) = true:=beq_iff_eq.mpr c19
         have c19b1 : (t172 != 0) = false:=bne_eq_false_iff_eq.mpr c19
         clear c19
         obtain rfl:=Option.some.inj H
         go_wp2_with (first | ((with_reducible refine gate_callee (f:=11) rfl ?_);refine goesL_ (some 43) rfl rfl Try.func11 (by kernel_rfl) rfl #[.string t170] rfl (by (try simp only [List.map_toArray,List.map_cons,List.map_nil]);first | done | rfl | (simp only [List.length_drop,List.length_take];rfl)) ?_;(with_reducible refine (quote_Put.calls kj6 t170 t176 _ A13.out).mono ?_);rintro e w20 ⟨rfl,hb⟩;refine ⟨_,rfl,?_⟩;have n0_:=Aside0.mk (below_step (by repeat (first | (with_reducible first | exact HB.out | apply below_alloc | apply pw_below_drewN | apply below_drew1) | exact HB.out)) hb);clear HB;have HB:=n0_;clear n0_;(try clear hb);(try clear hb2);(try clear hk);(try clear hi)) | ((with_reducible refine gate_callee (f:=12) rfl ?_);refine goesL_ (some 44) rfl rfl Try.func12 (by kernel_rfl) rfl #[.string t176] rfl (by (try simp only [List.map_toArray,List.map_cons,List.map_nil]);first | done | rfl | (simp only [List.length_drop,List.length_take];rfl)) ?_;(with_reducible refine (quote_Get.calls kj6 t176 t177 t178 t179 _ A14.out).mono ?_);rintro e w21 ⟨rfl,hb⟩;refine ⟨_,rfl,?_⟩;have n0_:=Aside0.mk (below_step (by repeat (first | (with_reducible first | exact HB.out | apply below_alloc | apply pw_below_drewN | apply below_drew1) | exact HB.out)) hb);clear HB;have HB:=n0_;clear n0_;(try clear hb);(try clear hb2);(try clear hk);(try clear hi)) | ((with_reducible refine gate_callee (f:=10) rfl ?_);refine goesL_ (some 48) rfl rfl Try.func10 (by kernel_rfl) rfl #[] rfl (by (try simp only [List.map_toArray,List.map_cons,List.map_nil]);first | done | rfl | (simp only [List.length_drop,List.length_take];rfl)) ?_;(with_reducible refine (tachographlaw20_fixed.calls kj6  true _ A15.out).mono ?_);rintro e w22 ⟨rfl,hb⟩;refine ⟨_,rfl,?_⟩;have n0_:=Aside0.mk (below_step (by repeat (first | (with_reducible first | exact HB.out | apply below_alloc | apply pw_below_drewN | apply below_drew1) | exact HB.out)) hb);clear HB;have HB:=n0_;clear n0_;(try clear hb);(try clear hb2);(try clear hk);(try clear hi)))
         go_ret
         exact ⟨by first | rfl | (simp [errW_none,errW_some] <;> rfl) | (simp [*,errW_none,errW_some] <;> rfl),by repeat (first | (with_reducible first | exact HB.out | apply below_alloc | apply pw_below_drewN | apply below_drew1) | exact HB.out)⟩
        ·rw [if_neg c19] at H
         have c19b0 : (t172 == 0) = false:=beq_eq_false_iff_ne.mpr c19
         have c19b1 : (t172 != 0) = true:=bne_iff_ne.mpr c19
         obtain rfl:=Option.some.inj H
         go_wp2_with (first | ((with_reducible refine gate_callee (f:=11) rfl ?_);refine goesL_ (some 43) rfl rfl Try.func11 (by kernel_rfl) rfl #[.string t170] rfl (by (try simp only [List.map_toArray,List.map_cons,List.map_nil]);first | done | rfl | (simp only [List.length_drop,List.length_take];rfl)) ?_;(with_reducible refine (quote_Put.calls kj6 t170 t176 _ A13.out).mono ?_);rintro e w23 ⟨rfl,hb⟩;refine ⟨_,rfl,?_⟩;have n0_:=Aside0.mk (below_step (by repeat (first | (with_reducible first | exact HB.out | apply below_alloc | apply pw_below_drewN | apply below_drew1) | exact HB.out)) hb);clear HB;have HB:=n0_;clear n0_;(try clear hb);(try clear hb2);(try clear hk);(try clear hi)) | ((with_reducible refine gate_callee (f:=12) rfl ?_);refine goesL_ (some 44) rfl rfl Try.func12 (by kernel_rfl) rfl #[.string t176] rfl (by (try simp only [List.map_toArray,List.map_cons,List.map_nil]);first | done | rfl | (simp only [List.length_drop,List.length_take];rfl)) ?_;(with_reducible refine (quote_Get.calls kj6 t176 t177 t178 t179 _ A14.out).mono ?_);rintro e w24 ⟨rfl,hb⟩;refine ⟨_,rfl,?_⟩;have n0_:=Aside0.mk (below_step (by repeat (first | (with_reducible first | exact HB.out | apply below_alloc | apply pw_below_drewN | apply below_drew1) | exact HB.out)) hb);clear HB;have HB:=n0_;clear n0_;(try clear hb);(try clear hb2);(try clear hk);(try clear hi)) | ((with_reducible refine gate_callee (f:=10) rfl ?_);refine goesL_ (some 48) rfl rfl Try.func10 (by kernel_rfl) rfl #[] rfl (by (try simp only [List.map_toArray,List.map_cons,List.map_nil]);first | done | rfl | (simp only [List.length_drop,List.length_take];rfl)) ?_;(with_reducible refine (tachographlaw20_fixed.calls kj6  true _ A15.out).mono ?_);rintro e w25 ⟨rfl,hb⟩;refine ⟨_,rfl,?_⟩;have n0_:=Aside0.mk (below_step (by repeat (first | (with_reducible first | exact HB.out | apply below_alloc | apply pw_below_drewN | apply below_drew1) | exact HB.out)) hb);clear HB;have HB:=n0_;clear n0_;(try clear hb);(try clear hb2);(try clear hk);(try clear hi)))
         go_ret
         exact ⟨by first | rfl | (simp [errW_none,errW_some] <;> rfl) | (simp [*,errW_none,errW_some] <;> rfl),by repeat (first | (with_reducible first | exact HB.out | apply below_alloc | apply pw_below_drewN | apply below_drew1) | exact HB.out)⟩
       ·rw [if_neg c18] at H
        have c18b0 : (t179 == 0) = false:=beq_eq_false_iff_ne.mpr c18
        have c18b1 : (t179 != 0) = true:=bne_iff_ne.mpr c18
        obtain rfl:=Option.some.inj H
        go_wp2_with (first | ((with_reducible refine gate_callee (f:=11) rfl ?_);refine goesL_ (some 43) rfl rfl Try.func11 (by kernel_rfl) rfl #[.string t170] rfl (by (try simp only [List.map_toArray,List.map_cons,List.map_nil]);first | done | rfl | (simp only [List.length_drop,List.length_take];rfl)) ?_;(with_reducible refine (quote_Put.calls kj6 t170 t176 _ A13.out).mono ?_);rintro e w26 ⟨rfl,hb⟩;refine ⟨_,rfl,?_⟩;have n0_:=Aside0.mk (below_step (by repeat (first | (with_reducible first | exact HB.out | apply below_alloc | apply pw_below_drewN | apply below_drew1) | exact HB.out)) hb);clear HB;have HB:=n0_;clear n0_;(try clear hb);(try clear hb2);(try clear hk);(try clear hi)) | ((with_reducible refine gate_callee (f:=12) rfl ?_);refine goesL_ (some 44) rfl rfl Try.func12 (by kernel_rfl) rfl #[.string t176] rfl (by (try simp only [List.map_toArray,List.map_cons,List.map_nil]);first | done | rfl | (simp only [List.length_drop,List.length_take];rfl)) ?_;(with_reducible refine (quote_Get.calls kj6 t176 t177 t178 t179 _ A14.out).mono ?_);rintro e w27 ⟨rfl,hb⟩;refine ⟨_,rfl,?_⟩;have n0_:=Aside0.mk (below_step (by repeat (first | (with_reducible first | exact HB.out | apply below_alloc | apply pw_below_drewN | apply below_drew1) | exact HB.out)) hb);clear HB;have HB:=n0_;clear n0_;(try clear hb);(try clear hb2);(try clear hk);(try clear hi)) | ((with_reducible refine gate_callee (f:=10) rfl ?_);refine goesL_ (some 48) rfl rfl Try.func10 (by kernel_rfl) rfl #[] rfl (by (try simp only [List.map_toArray,List.map_cons,List.map_nil]);first | done | rfl | (simp only [List.length_drop,List.length_take];rfl)) ?_;(with_reducible refine (tachographlaw20_fixed.calls kj6  true _ A15.out).mono ?_);rintro e w28 ⟨rfl,hb⟩;refine ⟨_,rfl,?_⟩;have n0_:=Aside0.mk (below_step (by repeat (first | (with_reducible first | exact HB.out | apply below_alloc | apply pw_below_drewN | apply below_drew1) | exact HB.out)) hb);clear HB;have HB:=n0_;clear n0_;(try clear hb);(try clear hb2);(try clear hk);(try clear hi)))
        go_ret
        exact ⟨by first | rfl | (simp [errW_none,errW_some] <;> rfl) | (simp [*,errW_none,errW_some] <;> rfl),by repeat (first | (with_reducible first | exact HB.out | apply below_alloc | apply pw_below_drewN | apply below_drew1) | exact HB.out)⟩
      ·rw [if_neg c17] at H
       have c17b0 : (t177.toList == t170.toList) = false:=beq_eq_false_iff_ne.mpr c17
       have c17b1 : (t177.toList != t170.toList) = true:=bne_iff_ne.mpr c17
       obtain rfl:=Option.some.inj H
       go_wp2_with (first | ((with_reducible refine gate_callee (f:=11) rfl ?_);refine goesL_ (some 43) rfl rfl Try.func11 (by kernel_rfl) rfl #[.string t170] rfl (by (try simp only [List.map_toArray,List.map_cons,List.map_nil]);first | done | rfl | (simp only [List.length_drop,List.length_take];rfl)) ?_;(with_reducible refine (quote_Put.calls kj6 t170 t176 _ A13.out).mono ?_);rintro e w29 ⟨rfl,hb⟩;refine ⟨_,rfl,?_⟩;have n0_:=Aside0.mk (below_step (by repeat (first | (with_reducible first | exact HB.out | apply below_alloc | apply pw_below_drewN | apply below_drew1) | exact HB.out)) hb);clear HB;have HB:=n0_;clear n0_;(try clear hb);(try clear hb2);(try clear hk);(try clear hi)) | ((with_reducible refine gate_callee (f:=12) rfl ?_);refine goesL_ (some 44) rfl rfl Try.func12 (by kernel_rfl) rfl #[.string t176] rfl (by (try simp only [List.map_toArray,List.map_cons,List.map_nil]);first | done | rfl | (simp only [List.length_drop,List.length_take];rfl)) ?_;(with_reducible refine (quote_Get.calls kj6 t176 t177 t178 t179 _ A14.out).mono ?_);rintro e w30 ⟨rfl,hb⟩;refine ⟨_,rfl,?_⟩;have n0_:=Aside0.mk (below_step (by repeat (first | (with_reducible first | exact HB.out | apply below_alloc | apply pw_below_drewN | apply below_drew1) | exact HB.out)) hb);clear HB;have HB:=n0_;clear n0_;(try clear hb);(try clear hb2);(try clear hk);(try clear hi)) | ((with_reducible refine gate_callee (f:=10) rfl ?_);refine goesL_ (some 48) rfl rfl Try.func10 (by kernel_rfl) rfl #[] rfl (by (try simp only [List.map_toArray,List.map_cons,List.map_nil]);first | done | rfl | (simp only [List.length_drop,List.length_take];rfl)) ?_;(with_reducible refine (tachographlaw20_fixed.calls kj6  true _ A15.out).mono ?_);rintro e w31 ⟨rfl,hb⟩;refine ⟨_,rfl,?_⟩;have n0_:=Aside0.mk (below_step (by repeat (first | (with_reducible first | exact HB.out | apply below_alloc | apply pw_below_drewN | apply below_drew1) | exact HB.out)) hb);clear HB;have HB:=n0_;clear n0_;(try clear hb);(try clear hb2);(try clear hk);(try clear hi)))
       go_ret
       exact ⟨by first | rfl | (simp [errW_none,errW_some] <;> rfl) | (simp [*,errW_none,errW_some] <;> rfl),by repeat (first | (with_reducible first | exact HB.out | apply below_alloc | apply pw_below_drewN | apply below_drew1) | exact HB.out)⟩
     ·replace c16:=Bool.eq_false_iff.mpr c16
      subst c16
      have H1 : (some false) = some r:=by rw [if_neg (show ¬ (false = true) by decide)] at H;exact H
      clear H
      have H:=H1
      clear H1
      obtain rfl:=Option.some.inj H
      go_wp2_with (first | ((with_reducible refine gate_callee (f:=11) rfl ?_);refine goesL_ (some 43) rfl rfl Try.func11 (by kernel_rfl) rfl #[.string t170] rfl (by (try simp only [List.map_toArray,List.map_cons,List.map_nil]);first | done | rfl | (simp only [List.length_drop,List.length_take];rfl)) ?_;(with_reducible refine (quote_Put.calls kj6 t170 t176 _ A13.out).mono ?_);rintro e w32 ⟨rfl,hb⟩;refine ⟨_,rfl,?_⟩;have n0_:=Aside0.mk (below_step (by repeat (first | (with_reducible first | exact HB.out | apply below_alloc | apply pw_below_drewN | apply below_drew1) | exact HB.out)) hb);clear HB;have HB:=n0_;clear n0_;(try clear hb);(try clear hb2);(try clear hk);(try clear hi)) | ((with_reducible refine gate_callee (f:=12) rfl ?_);refine goesL_ (some 44) rfl rfl Try.func12 (by kernel_rfl) rfl #[.string t176] rfl (by (try simp only [List.map_toArray,List.map_cons,List.map_nil]);first | done | rfl | (simp only [List.length_drop,List.length_take];rfl)) ?_;(with_reducible refine (quote_Get.calls kj6 t176 t177 t178 t179 _ A14.out).mono ?_);rintro e w33 ⟨rfl,hb⟩;refine ⟨_,rfl,?_⟩;have n0_:=Aside0.mk (below_step (by repeat (first | (with_reducible first | exact HB.out | apply below_alloc | apply pw_below_drewN | apply below_drew1) | exact HB.out)) hb);clear HB;have HB:=n0_;clear n0_;(try clear hb);(try clear hb2);(try clear hk);(try clear hi)) | ((with_reducible refine gate_callee (f:=10) rfl ?_);refine goesL_ (some 48) rfl rfl Try.func10 (by kernel_rfl) rfl #[] rfl (by (try simp only [List.map_toArray,List.map_cons,List.map_nil]);first | done | rfl | (simp only [List.length_drop,List.length_take];rfl)) ?_;(with_reducible refine (tachographlaw20_fixed.calls kj6  false _ A15.out).mono ?_);rintro e w34 ⟨rfl,hb⟩;refine ⟨_,rfl,?_⟩;have n0_:=Aside0.mk (below_step (by repeat (first | (with_reducible first | exact HB.out | apply below_alloc | apply pw_below_drewN | apply below_drew1) | exact HB.out)) hb);clear HB;have HB:=n0_;clear n0_;(try clear hb);(try clear hb2);(try clear hk);(try clear hi)))
      go_ret
      exact ⟨by first | rfl | (simp [errW_none,errW_some] <;> rfl) | (simp [*,errW_none,errW_some] <;> rfl),by repeat (first | (with_reducible first | exact HB.out | apply below_alloc | apply pw_below_drewN | apply below_drew1) | exact HB.out)⟩

/-- THE ONE PURE STATEMENT of tachographlaw20_QuoteGets: yours. -/
def tachographlaw20_QuoteGets.Pure : Prop:=∀ (a0 : ByteArray),a0.size ≤ 140737488351232 → ∃ k,tachographlaw20_QuoteGets.f k a0 = some true
theorem tachographlaw20_QuoteGets.walk (P : tachographlaw20_QuoteGets.Pure) (a0 : ByteArray) (w : World) (w0 : a0.size ≤ 140737488351232) :
  Calls Try.prog 4 #[.string a0] w fun e w' => e = .returned (.bool true) ∧ Below w.heap.size w w':=by
 obtain ⟨k,h⟩:=P a0 w0
 refine (tachographlaw20_QuoteGets.calls k a0 true w h).mono ?_
 rintro e w' ⟨rfl,hd⟩
 exact ⟨rfl,hd⟩

-- NOT PRINTED: function 69 (bytealg_MakeNoZero)

-- NOT PRINTED: function 56 (strings_Builder_grow)

-- NOT PRINTED: function 44 (strings_Builder_Grow)

/-! ### strings_Join: function 34 -/
def strings_Join.f (l0 : List ByteArray) (a1 : ByteArray) : Option ByteArray := if l0.length ≤ 140737488355328 ∧ (Lib.join (l0.map (·.data.toList)) a1.data.toList).length ≤ 140737488355328 then some ⟨(Lib.join (l0.map (·.data.toList)) a1.data.toList).toArray⟩ else none
theorem strings_Join.calls (A0 : Option Addr) (c0 : Nat) (l0 : List ByteArray) (a1 : ByteArray) (r : ByteArray) (w : World) (hr0 : Kd.C Kd.string w A0 l0.length l0) (hc0 : l0.length ≤ c0) (h : strings_Join.f l0 a1 = some r) :
    Calls Try.prog 34 #[.slice A0 l0.length c0, .string a1] w fun e w' => e = .returned (.string r) ∧ Below w.heap.size w w' := by
  unfold strings_Join.f at h
  by_cases hc : l0.length ≤ 140737488355328 ∧ (Lib.join (l0.map (·.data.toList)) a1.data.toList).length ≤ 140737488355328
  · rw [if_pos hc] at h
    obtain rfl := Option.some.inj h
    cases hl : l0 with
    | nil =>
      subst hl
      refine (Go.Proofs.Try.strings_Join_none A0 c0 a1 w).mono ?_
      rintro e w' ⟨rfl, rfl⟩
      exact ⟨rfl, Below.refl _ _⟩
    | cons x xs =>
      rw [← hl]
      have hpos : 0 < l0.length := by rw [hl]; simp
      have hget : ∀ i : Nat, i < l0.length → ∃ ad, A0 = some ad ∧ w.cell? (ad.add i) = some (.string (l0.getD i ⟨#[]⟩)) := by
        intro i hi
        obtain ⟨ad, c, e, _, hK, hcc⟩ := Kd.C_get hr0 (⟨#[]⟩ : ByteArray) (i : Int) (by omega) (by omega)
        have hK' : c = [.string (l0.getD i ⟨#[]⟩)] := by simpa [Kd.string, Kd.scalar] using hK
        subst hK'
        exact ⟨ad, e, by simpa [Kd.string, Kd.scalar] using hcc 0 _ rfl⟩
      obtain ⟨ad, rfl, h0⟩ := hget 0 hpos
      have hadd : ad.add 0 = ad := by simp [Addr.add]
      rw [hadd] at h0
      obtain ⟨bk, o, sp⟩ := ad
      have hsp : sp = none := by
        cases sp with
        | none => rfl
        | some z =>
          exfalso
          unfold World.cell? at h0
          revert h0
          cases w.heap[bk]? with
          | none => simp
          | some ob => cases ob <;> simp
      subst hsp
      have hcells : ∀ (j : Nat) (y : ByteArray), l0[j]? = some y → w.cell? ⟨bk, o + j, none⟩ = some (.string y) := by
        intro j y hj
        have hlt : j < l0.length := (List.getElem?_eq_some_iff.1 hj).1
        obtain ⟨ad, e, h1⟩ := hget j hlt
        injection e with e
        subst e
        have hy : l0.getD j ⟨#[]⟩ = y := by rw [List.getD_eq_getElem?_getD, hj]; rfl
        rw [hy] at h1
        rw [← h1]
        congr 1
        by_cases hz : j = 0
        · subst hz; simp [Addr.add]
        · simp [Addr.add, hz]
      exact (Go.Proofs.Try.strings_Join bk o c0 l0 a1 w hcells (World.block_lt_of_cell? w _ h0) hc.1 hc0 hc.2).mono (fun e w' hq => hq)
  · rw [if_neg hc] at h
    cases h

/-! ### quote_All: function 15 -/
def quote_All.l0 : Nat → List ByteArray → List ByteArray → Int → Int → Option (ByteArray)
  | 0, _, _, _, _ => none
  | k + 1, x3, x6, x7, x8 => if x8 < x7 then (if 0 ≤ x8 then (if x8 < (x6.length : Int) then ((quote_Put.f k (rdOf ByteArray.empty x6 x8)).bind fun t182 => (if x3.length < 8796093022208 then (quote_All.l0 k (x3 ++ [t182]) x6 x7 (wrap64 (x8 + 1))) else (none))) else (none)) else (none)) else ((strings_Join.f x3 (⟨#[44]⟩ : ByteArray)).bind fun t186 => (some t186))
def quote_All.f (k : Nat) (l0 : List ByteArray) : Option (ByteArray) := quote_All.l0 k ([] : List ByteArray) l0 (l0.length : Int) 0
theorem quote_All.mono_l : ∀ k, (∀ y0 y1 y2 y3, LeO (quote_All.l0 k y0 y1 y2 y3) (quote_All.l0 (k + 1) y0 y1 y2 y3))
  | 0 => fun _ _ _ _ r h => by simp [quote_All.l0] at h
  | k + 1 => by
    have ih0 := quote_All.mono_l k
    · intro y0 y1 y2 y3
      unfold quote_All.l0
      repeat' first
      | (with_reducible exact ih0 _ _ _ _)
      | (with_reducible exact quote_Put.mono _ _)
      | (with_reducible exact LeO.refl _)
      | (with_reducible exact LeO.none _)
      | (with_reducible refine LeO.ite ?_ ?_)
      | (with_reducible refine LeO.bind ?_ (fun _ => ?_))
      | exact ih0 _ _ _ _
      | exact quote_Put.mono _ _
      | exact LeO.none _
      | refine LeO.ite ?_ ?_
      | refine LeO.bind ?_ (fun _ => ?_)
theorem quote_All.mono : ∀ a0 k, LeO (quote_All.f k a0) (quote_All.f (k + 1) a0) := by
  intro a0 k
  have ih0 := quote_All.mono_l k
  unfold quote_All.f
  repeat' first
      | (with_reducible exact ih0 _ _ _ _)
      | (with_reducible exact quote_Put.mono _ _)
      | (with_reducible exact LeO.refl _)
      | (with_reducible exact LeO.none _)
      | (with_reducible refine LeO.ite ?_ ?_)
      | (with_reducible refine LeO.bind ?_ (fun _ => ?_))
      | exact ih0 _ _ _ _
      | exact quote_Put.mono _ _
      | exact LeO.none _
      | refine LeO.ite ?_ ?_
      | refine LeO.bind ?_ (fun _ => ?_)
set_option maxHeartbeats 8000000 in
set_option maxRecDepth 100000 in
theorem quote_All.calls (k : Nat) (A0 : Option Addr) (c0 : Nat) (l0 : List ByteArray) (r : ByteArray) (w : World) (hr0 : Kd.C Kd.string w A0 l0.length l0) (hc0 : l0.length ≤ c0) (h : quote_All.f k l0 = some r) :
    Calls Try.prog 15 #[.slice A0 l0.length c0] w fun e w' => e = .returned (.string r) ∧ Below w.heap.size w w' := by
  have HR0 := Aside0.mk hr0
  have HC0 := Aside0.mk hc0
  clear hr0 hc0
  have HB := Aside0.mk (Below.refl w.heap.size w)
  have H : (quote_All.l0 k ([] : List ByteArray) l0 (l0.length : Int) 0) = some r := h
  clear h
  have H' := Aside0.mk H
  clear H
  go_enter Try.func15, Try.ntmps15
  go_wp2
  go_loopg [3, 8] k (fun kq v3 v8 w' => ∃ (x3_1 : List ByteArray) (x8_1 : Int), v8 = .int .i64 x8_1 ∧ Aside0 (quote_All.l0 kq x3_1 l0 (l0.length : Int) x8_1 = some r) ∧ Aside0 (kq ≤ k) ∧ Aside0 (Kd.R Kd.string 9 w' w.heap.size (fun _ => True) v3 x3_1) ∧ Aside0 (Below w.heap.size w w'))
  case atStart => exact ⟨(([] : List ByteArray)), (0), (by first | rfl | (simp; done) | (simp [*]; done)), H', ⟨Nat.le_refl _⟩, ⟨by first | exact Kd.R_nil _ _ _ _ _ | exact Kd.N_nil _ _ _ _ _ | exact Kd.V_nil _ _ _ _ _ | exact Kd.Q_nil _ _ _ _ _ | exact Kd.S_nil _ _ _ _ _⟩, ⟨by repeat (first | (with_reducible first | exact HB.out | apply below_alloc | apply pw_below_drewN | apply below_drew1) | exact HB.out)⟩⟩
  case round =>
    clear H'
    try clear c1
    obtain ⟨x3_1, x8_1, rfl, HA, HK1, HO_3, HB⟩ := hrel
    cases gk with
    | zero => exact absurd HA.out (by simp [quote_All.l0])
    | succ k1 =>
      have H := HA.out
      clear HA
      simp only [quote_All.l0] at H
      by_cases c2 : x8_1 < (l0.length : Int)
      · rw [if_pos c2] at H
        have c2b0 : decide (x8_1 < (l0.length : Int)) = true := decide_eq_true c2
        clear c2
        by_cases c3 : 0 ≤ x8_1
        · rw [if_pos c3] at H
          have c3b0 : decide (0 ≤ x8_1) = true := decide_eq_true c3
          clear c3
          by_cases c4 : x8_1 < (l0.length : Int)
          · rw [if_pos c4] at H
            have c4b0 : decide (x8_1 < (l0.length : Int)) = true := decide_eq_true c4
            clear c4
            replace H := Option.bind_eq_some_iff.mp H
            obtain ⟨t182, A50, H⟩ := H
            replace H : (if x3_1.length < 8796093022208 then (quote_All.l0 k1 (x3_1 ++ [t182]) l0 (l0.length : Int) (wrap64 (x8_1 + 1))) else (none)) = some r := H
            have A5 := Aside0.mk A50
            clear A50
            by_cases c6 : x3_1.length < 8796093022208
            · rw [if_pos c6] at H
              have LMc6 := Aside0.mk c6
              clear c6
              obtain ⟨y183, hy183⟩ : ∃ y_ : List ByteArray, y_ = (x3_1 ++ [t182]) := ⟨_, rfl⟩
              replace H : (quote_All.l0 k1 y183 l0 (l0.length : Int) (wrap64 (x8_1 + 1))) = some r := by first | (rw [hy183]; with_reducible exact H) | (have H2_ := (Option.bind_some _ _).symm.trans H; rw [hy183]; with_reducible exact H2_) | (have H2_ := (Option.bind_some _ _).symm.trans H; with_reducible exact H2_) | with_reducible exact H | (rw [hy183]; exact H) | exact H
              have Ny183 := Aside0.mk hy183
              clear hy183
              have H' := Aside0.mk H
              clear H
              have p181 : 0 ≤ (x8_1 : Int) := of_decide_eq_true (by first | (with_reducible assumption) | assumption)
              have q181 : x8_1 < (l0.length : Int) := of_decide_eq_true (by first | (with_reducible assumption) | assumption)
              obtain ⟨ad181, e181, hx181_0⟩ := Kd.at_string HR0.out x8_1 p181 q181
              cases e181
              replace hx181_0 := (HB.out.cell (World.block_lt_of_cell? w _ hx181_0)).trans hx181_0
              replace p181 := eq_true p181
              replace q181 := eq_true q181
              go_wp2_with (first | ((with_reducible refine gate_callee (f := 11) rfl ?_); refine goesL_ (some 14) rfl rfl Try.func11 (by kernel_rfl) rfl #[.string (rdOf ByteArray.empty l0 x8_1)] rfl (by (try simp only [List.map_toArray, List.map_cons, List.map_nil]); first | done | rfl | (simp only [List.length_drop, List.length_take]; rfl) | (refine congrArg (fun z_ => #[z_]) (congrArg (Value.int IntKind.u64) (Eq.symm (Go.Proofs.YtjfklfmfeghjnacAid.wrap_len _ (by omega)))))) ?_; (with_reducible refine (quote_Put.calls k1 (rdOf ByteArray.empty l0 x8_1) t182 _ A5.out).mono ?_); rintro e w7 ⟨rfl, hb⟩; refine ⟨_, rfl, ?_⟩; have n0_ := Aside0.mk (Kd.R_below (by (with_reducible repeat (first | apply Kd.R_alloc | apply Kd.R_drewN | apply Kd.R_drew)); exact HO_3.out) hb); have n1_ := Aside0.mk (below_step (by repeat (first | (with_reducible first | exact HB.out | apply below_alloc | apply pw_below_drewN | apply below_drew1) | exact HB.out)) hb); clear HO_3; clear HB; have HO_3 := n0_; have HB := n1_; clear n0_ n1_; (try clear hb); (try clear hb2); (try clear hk); (try clear hi)) | ((with_reducible refine gate_builtin (b := .append) (xs := #[.tmp 12, .tmp 15]) rfl ?_); at_builtin; refine Kd.R_append Kd.string (w0 := w) w.heap.size rfl (.tmp 12) (.tmp 15) 31 9 (.string ⟨#[]⟩) 16 rfl Try.underlying31 info9 rfl (by decide) (by omega) u3 x3_1 t182 [.string t182] (fun _ => True) (fun _ => False) rfl rfl ?aP (fun _ hk => hk.elim) ?aF ?aO ?aB ?aS ?aL ?_; (case aP => exact rfl); (case aB => exact (by repeat (first | (with_reducible first | exact HB.out | apply below_alloc | apply pw_below_drewN | apply below_drew1) | exact HB.out))); (case aF => exact (fun _ _ => trivial)); (case aO => exact (by (with_reducible repeat (first | apply Kd.R_alloc | apply Kd.R_drewN | apply Kd.R_drew)); exact HO_3.out)); (case aS => exact (below_size (by repeat (first | (with_reducible first | exact HB.out | apply below_alloc | apply pw_below_drewN | apply below_drew1) | exact HB.out)))); (case aL => have := LMc6.out; omega); intro v184 w8 ho hb hg hat; rw [← Ny183.out] at ho; have n0_ := Aside0.mk (hb); have n1_ := Aside0.mk (ho); clear HB; clear HO_3; have HB := n0_; have HO185 := n1_; clear n0_ n1_; clear ho hb hg hat))
              go_roundg k1
              case measure => have := HK1.out; omega
              case rel => exact ⟨(y183), (wrap64 (x8_1 + 1)), (by first | rfl | (simp; done) | (simp [*]; done)), H', ⟨by have := HK1.out; omega⟩, ⟨by (with_reducible repeat (first | apply Kd.R_alloc | apply Kd.R_drewN | apply Kd.R_drew)); exact HO185.out⟩, ⟨by repeat (first | (with_reducible first | exact HB.out | apply below_alloc | apply pw_below_drewN | apply below_drew1) | exact HB.out)⟩⟩
            · rw [if_neg c6] at H
              exact absurd H (by simp)
          · rw [if_neg c4] at H
            exact absurd H (by simp)
        · rw [if_neg c3] at H
          exact absurd H (by simp)
      · rw [if_neg c2] at H
        have c2b0 : decide (x8_1 < (l0.length : Int)) = false := decide_eq_false c2
        clear c2
        replace H := Option.bind_eq_some_iff.mp H
        obtain ⟨t186, A90, H⟩ := H
        replace H : (some t186) = some r := H
        have A9 := Aside0.mk A90
        clear A90
        obtain rfl := Option.some.inj H
        obtain ⟨Ao10, co10, eo10⟩ := Kd.R_slice HO_3.out
        subst eo10
        go_wp2_with (first | ((with_reducible refine gate_callee (f := 34) rfl ?_); refine goesL_ (some 19) rfl rfl Try.func34 (by kernel_rfl) rfl #[.slice Ao10 x3_1.length co10, .string (⟨#[44]⟩ : ByteArray)] rfl (by (try simp only [List.map_toArray, List.map_cons, List.map_nil]); first | done | rfl | (simp only [List.length_drop, List.length_take]; rfl) | (refine congrArg (fun z_ => #[z_]) (congrArg (Value.int IntKind.u64) (Eq.symm (Go.Proofs.YtjfklfmfeghjnacAid.wrap_len _ (by omega)))))) ?_; (with_reducible refine (strings_Join.calls _ _ x3_1 (⟨#[44]⟩ : ByteArray) t186 _ ?side1 ?side2 A9.out).mono ?_); (case side1 => repeat (first | exact (Kd.R_reads' HO_3.out).2.2 | (with_reducible refine Kd.C_alloc ?_ _) | (with_reducible refine Kd.C_drewN ?_ _) | (with_reducible refine Kd.C_drew ?_))); (case side2 => exact (Kd.R_reads' HO_3.out).2.1); rintro e w11 ⟨rfl, hb⟩; refine ⟨_, rfl, ?_⟩; have n0_ := Aside0.mk (Kd.R_below (by (with_reducible repeat (first | apply Kd.R_alloc | apply Kd.R_drewN | apply Kd.R_drew)); exact HO_3.out) hb); have n1_ := Aside0.mk (below_step (by repeat (first | (with_reducible first | exact HB.out | apply below_alloc | apply pw_below_drewN | apply below_drew1) | exact HB.out)) hb); clear HO_3; clear HB; have HO_3 := n0_; have HB := n1_; clear n0_ n1_; (try clear hb); (try clear hb2); (try clear hk); (try clear hi)))
        go_ret
        exact ⟨by first | rfl | (simp [errW_none, errW_some] <;> rfl) | (simp [*, errW_none, errW_some] <;> rfl), by repeat (first | (with_reducible first | exact HB.out | apply below_alloc | apply pw_below_drewN | apply below_drew1) | exact HB.out)⟩

end Go.Proofs.Ytjfklfmfeghjnac.PQ
