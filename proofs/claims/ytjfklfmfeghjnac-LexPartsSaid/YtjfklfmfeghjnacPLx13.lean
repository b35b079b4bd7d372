-- Contracts of Go functions, each with its plain Lean function: written by wip/tools/myprint.py of this work (the kit's print, with contracts proved by hand spliced in).
import Derived.Test.YtjfklfmfeghjnacPLx0
import Derived.Test.YtjfklfmfeghjnacPLx12
namespace Go.Proofs.Ytjfklfmfeghjnac.PL
open Go.RowKit Go.Proofs.YtjfklfmfeghjnacW.PrintWords Go.Proofs.YtjfklfmfeghjnacW.PrintLast Go.Proofs.YtjfklfmfeghjnacW.PrintMore
attribute [local go_sem] max2_int min2_int max_two min_two max_three min_three max_four min_four   -- for this text's walks alone
set_option linter.unusedVariables false
set_option linter.unusedSimpArgs false

/-! ### tachographref20_next: function 33 -/
def tachographref20_next.j0 : Nat → ByteArray → Bool → Option (Int × Int × Int)
 | 0, _, _ => none
 | k + 1, x0, x26 => if x26 = true then (if 1 < (x0.size : Int) then (some (bt x0 1, 2, 0)) else (none)) else (if 1 < (x0.size : Int) then (if (bt x0 1) = 110 then (some (10, 2, 0)) else (if (bt x0 1) = 120 then (if (x0.size : Int) = 2 then (some (0, 0, 2)) else (if 2 < (x0.size : Int) then ((tachographref20_digit.f k (bt x0 2)).bind fun t224 => (if t224 < 0 then (some (0, 0, 4)) else (if (x0.size : Int) = 3 then (some (0, 0, 2)) else (if 3 < (x0.size : Int) then ((tachographref20_digit.f k (bt x0 3)).bind fun t225 => (if t225 < 0 then (some (0, 0, 4)) else (some ((wrap64 ((wrap64 (16 * t224)) + t225)) % 256, 4, 0)))) else (none))))) else (none))) else (some (0, 0, 4)))) else (none))
def tachographref20_next.f (k : Nat) (a0 : ByteArray) : Option (Int × Int × Int) := if 0 < (a0.size : Int) then (if (bt a0 0) < 32 then (some (0, 0, 4)) else (if (bt a0 0) = 92 then (if (a0.size : Int) = 1 then (some (0, 0, 2)) else (if 1 < (a0.size : Int) then (if (bt a0 1) = 34 then (tachographref20_next.j0 k a0 true) else (tachographref20_next.j0 k a0 ((bt a0 1) == 92))) else (none))) else (some (bt a0 0, 1, 0)))) else (none)
theorem tachographref20_next.mono_l : ∀ k, (∀ y0 y1, LeO (tachographref20_next.j0 k y0 y1) (tachographref20_next.j0 (k + 1) y0 y1))
 | 0 => fun _ _ r h => by simp [tachographref20_next.j0] at h
 | k + 1 => by
  have ih0 := tachographref20_next.mono_l k
  ·intro y0 y1
   unfold tachographref20_next.j0
   repeat' first
   | (with_reducible exact ih0 _ _)
   | (with_reducible exact tachographref20_digit.mono _ _)
   | (with_reducible exact LeO.refl _)
   | (with_reducible exact LeO.none _)
   | (with_reducible refine LeO.ite ?_ ?_)
   | (with_reducible refine LeO.bind ?_ (fun _ => ?_))
   | exact ih0 _ _
   | exact tachographref20_digit.mono _ _
   | exact LeO.none _
   | refine LeO.ite ?_ ?_
   | refine LeO.bind ?_ (fun _ => ?_)
theorem tachographref20_next.mono : ∀ a0 k, LeO (tachographref20_next.f k a0) (tachographref20_next.f (k + 1) a0) := by
 intro a0 k
 have ih0 := tachographref20_next.mono_l k
 unfold tachographref20_next.f
 repeat' first
   | (with_reducible exact ih0 _ _)
   | (with_reducible exact tachographref20_digit.mono _ _)
   | (with_reducible exact LeO.refl _)
   | (with_reducible exact LeO.none _)
   | (with_reducible refine LeO.ite ?_ ?_)
   | (with_reducible refine LeO.bind ?_ (fun _ => ?_))
   | exact ih0 _ _
   | exact tachographref20_digit.mono _ _
   | exact LeO.none _
   | refine LeO.ite ?_ ?_
   | refine LeO.bind ?_ (fun _ => ?_)
set_option maxHeartbeats 8000000 in
set_option maxRecDepth 100000 in
theorem tachographref20_next.calls (k : Nat) (a0 : ByteArray) (r1 : Int) (r2 : Int) (r3 : Int) (w : World) (h : tachographref20_next.f k a0 = some (r1,r2,r3)) :
  Calls Try.prog 33 #[.string a0] w fun e w' => e = .returned (.agg #[.int .u8 r1,.int .i64 r2,.int .i64 r3]) ∧ Below w.heap.size w w':=by
 have hu71:=Try.underlying71
 have HB:=Aside0.mk (Below.refl w.heap.size w)
 have H : (if 0 < (a0.size : Int) then (if (bt a0 0) < 32 then (some (0,0,4)) else (if (bt a0 0) = 92 then (if (a0.size : Int) = 1 then (some (0,0,2)) else (if 1 < (a0.size : Int) then (if (bt a0 1) = 34 then (tachographref20_next.j0 k a0 true) else (tachographref20_next.j0 k a0 ((bt a0 1) == 92))) else (none))) else (some (bt a0 0,1,0)))) else (none)) = some (r1,r2,r3):=h
 clear h
 by_cases c2 : 0 < (a0.size : Int)
 ·rw [if_pos c2] at H
  have c2b0 : decide (0 < (a0.size : Int)) = true:=decide_eq_true c2
  have c2b1 : decide (0 < a0.size) = true:=decide_eq_true (by omega)
  clear c2
  by_cases c4 : (bt a0 0) < 32
  ·rw [if_pos c4] at H
   have c4b0 : decide ((bt a0 0) < 32) = true:=decide_eq_true c4
   clear c4
   simp only [Option.some.injEq,Prod.mk.injEq] at H
   obtain ⟨rfl,rfl,rfl⟩:=H
   go_enter Try.func33,Try.ntmps33
   go_wp2_with (first | ((with_reducible refine gate_dst (N:=2) rfl ?_);refine box_event ?hg (N:=2) ?hd (cs:=#[.int .u8 0,.int .i64 0,.int .i64 0]) (t:=71) ?hr ?_;(case hd => rfl);(case hg => rfl);(case hr => first | (go_simp;done) | (go_simp;rfl));intro gb223 hg w5 hbox hb;have n0_:=Aside0.mk (below_step (by repeat (first | (with_reducible first | exact HB.out | apply below_alloc | apply pw_below_drewN | apply below_drew1) | exact HB.out)) hb);have n1_:=Aside0.mk (hbox);have n2_:=Aside0.mk ((by rw [hg];exact (below_size (by repeat (first | (with_reducible first | exact HB.out | apply below_alloc | apply pw_below_drewN | apply below_drew1) | exact HB.out))) : w.heap.size ≤ gb223));have n3_:=Aside0.mk ((by rw [hg];exact (below_size (by repeat (first | (with_reducible first | exact HB.out | apply below_alloc | apply pw_below_drewN | apply below_drew1) | exact HB.out))) : w.heap.size ≤ gb223));clear HB;have HB:=n0_;have BK223:=n1_;have GW223:=n2_;have GE223:=n3_;clear n0_ n1_ n2_ n3_;clear hb hbox hg;have p3 : 0 ≤ (0 : Int):=(by omega);have q3 : 0 < a0.size:=(by have : (0 : Int) < (a0.size : Int):=of_decide_eq_true (by first | (with_reducible assumption) | assumption);omega);have hx3 : ∀ h : 0 < a0.size,((a0[0]'h).toNat : Int) = bt a0 0:=bt_at a0 0;clear p3;have qi3 : (0 < (a0.size : Int)) = True:=eq_true (of_decide_eq_true (by first | (with_reducible assumption) | assumption));replace q3:=eq_true q3;have hcz6_0 : w5.cell? ⟨gb223,0,none⟩ = some (.int .u8 0):=(blk_cell BK223.out 0).trans rfl;have hcz6_1 : w5.cell? ⟨gb223,1,none⟩ = some (.int .i64 0):=(blk_cell BK223.out 1).trans rfl;have hcz6_2 : w5.cell? ⟨gb223,2,none⟩ = some (.int .i64 0):=(blk_cell BK223.out 2).trans rfl;have hfz6_0:=blk_frozen BK223.out 0;have hfz6_1:=blk_frozen BK223.out 1;have hfz6_2:=blk_frozen BK223.out 2))
   refine bodyPost_ret (results_cell_row rfl _ _ gb223 71 #[.int .u8 0,.int .i64 0,.int .i64 4] (0,0) _ rfl (by (with_reducible repeat (first | refine blk_drewN ?_ _ | refine blk_drew ?_ | refine blk_alloc ?_ _));refine blk_put (cs:=#[.int .u8 0,.int .i64 0,.int .i64 0]) ?_ 2 _ rfl;(with_reducible repeat (first | refine blk_drewN ?_ _ | refine blk_drew ?_ | refine blk_alloc ?_ _));refine blk_put (cs:=#[.int .u8 0,.int .i64 0,.int .i64 0]) ?_ 1 _ rfl;(with_reducible repeat (first | refine blk_drewN ?_ _ | refine blk_drew ?_ | refine blk_alloc ?_ _));refine blk_put (cs:=#[.int .u8 0,.int .i64 0,.int .i64 0]) ?_ 0 _ rfl;(with_reducible repeat (first | refine blk_drewN ?_ _ | refine blk_drew ?_ | refine blk_alloc ?_ _));exact BK223.out) Try.underlying71 rfl (by kernel_rfl)) rfl ?_
   exact ⟨by first | rfl | (simp [errW_none,errW_some] <;> rfl) | (simp [*,errW_none,errW_some] <;> rfl),by repeat (first | (with_reducible first | exact HB.out | apply below_alloc | apply pw_below_drewN | apply below_drew1 | refine below_set ?_ GE223.out) | exact HB.out)⟩
  ·rw [if_neg c4] at H
   have c4b0 : decide ((bt a0 0) < 32) = false:=decide_eq_false c4
   clear c4
   by_cases c8 : (bt a0 0) = 92
   ·rw [if_pos c8] at H
    have c8b0 : ((bt a0 0) == 92) = true:=beq_iff_eq.mpr c8
    have c8b1 : ((bt a0 0) != 92) = false:=bne_eq_false_iff_eq.mpr c8
    clear c8
    by_cases c9 : (a0.size : Int) = 1
    ·rw [if_pos c9] at H
     have c9b0 : ((a0.size : Int) == 1) = true:=beq_iff_eq.mpr c9
     have c9b1 : ((a0.size : Int) != 1) = false:=bne_eq_false_iff_eq.mpr c9
     clear c9
     simp only [Option.some.injEq,Prod.mk.injEq] at H
     obtain ⟨rfl,rfl,rfl⟩:=H
     go_enter Try.func33,Try.ntmps33
     go_wp2_with (first | ((with_reducible refine gate_dst (N:=2) rfl ?_);refine box_event ?hg (N:=2) ?hd (cs:=#[.int .u8 0,.int .i64 0,.int .i64 0]) (t:=71) ?hr ?_;(case hd => rfl);(case hg => rfl);(case hr => first | (go_simp;done) | (go_simp;rfl));intro gb223 hg w10 hbox hb;have n0_:=Aside0.mk (below_step (by repeat (first | (with_reducible first | exact HB.out | apply below_alloc | apply pw_below_drewN | apply below_drew1) | exact HB.out)) hb);have n1_:=Aside0.mk (hbox);have n2_:=Aside0.mk ((by rw [hg];exact (below_size (by repeat (first | (with_reducible first | exact HB.out | apply below_alloc | apply pw_below_drewN | apply below_drew1) | exact HB.out))) : w.heap.size ≤ gb223));have n3_:=Aside0.mk ((by rw [hg];exact (below_size (by repeat (first | (with_reducible first | exact HB.out | apply below_alloc | apply pw_below_drewN | apply below_drew1) | exact HB.out))) : w.heap.size ≤ gb223));clear HB;have HB:=n0_;have BK223:=n1_;have GW223:=n2_;have GE223:=n3_;clear n0_ n1_ n2_ n3_;clear hb hbox hg;have p3 : 0 ≤ (0 : Int):=(by omega);have q3 : 0 < a0.size:=(by have : (0 : Int) < (a0.size : Int):=of_decide_eq_true (by first | (with_reducible assumption) | assumption);omega);have hx3 : ∀ h : 0 < a0.size,((a0[0]'h).toNat : Int) = bt a0 0:=bt_at a0 0;clear p3;have qi3 : (0 < (a0.size : Int)) = True:=eq_true (of_decide_eq_true (by first | (with_reducible assumption) | assumption));replace q3:=eq_true q3;have p7 : 0 ≤ (0 : Int):=(by omega);have q7 : 0 < a0.size:=(by have : (0 : Int) < (a0.size : Int):=of_decide_eq_true (by first | (with_reducible assumption) | assumption);omega);have hx7 : ∀ h : 0 < a0.size,((a0[0]'h).toNat : Int) = bt a0 0:=bt_at a0 0;clear p7;have qi7 : (0 < (a0.size : Int)) = True:=eq_true (of_decide_eq_true (by first | (with_reducible assumption) | assumption));replace q7:=eq_true q7;have hcz11_0 : w10.cell? ⟨gb223,0,none⟩ = some (.int .u8 0):=(blk_cell BK223.out 0).trans rfl;have hcz11_1 : w10.cell? ⟨gb223,1,none⟩ = some (.int .i64 0):=(blk_cell BK223.out 1).trans rfl;have hcz11_2 : w10.cell? ⟨gb223,2,none⟩ = some (.int .i64 0):=(blk_cell BK223.out 2).trans rfl;have hfz11_0:=blk_frozen BK223.out 0;have hfz11_1:=blk_frozen BK223.out 1;have hfz11_2:=blk_frozen BK223.out 2))
     refine bodyPost_ret (results_cell_row rfl _ _ gb223 71 #[.int .u8 0,.int .i64 0,.int .i64 2] (0,0) _ rfl (by (with_reducible repeat (first | refine blk_drewN ?_ _ | refine blk_drew ?_ | refine blk_alloc ?_ _));refine blk_put (cs:=#[.int .u8 0,.int .i64 0,.int .i64 0]) ?_ 2 _ rfl;(with_reducible repeat (first | refine blk_drewN ?_ _ | refine blk_drew ?_ | refine blk_alloc ?_ _));refine blk_put (cs:=#[.int .u8 0,.int .i64 0,.int .i64 0]) ?_ 1 _ rfl;(with_reducible repeat (first | refine blk_drewN ?_ _ | refine blk_drew ?_ | refine blk_alloc ?_ _));refine blk_put (cs:=#[.int .u8 0,.int .i64 0,.int .i64 0]) ?_ 0 _ rfl;(with_reducible repeat (first | refine blk_drewN ?_ _ | refine blk_drew ?_ | refine blk_alloc ?_ _));exact BK223.out) Try.underlying71 rfl (by kernel_rfl)) rfl ?_
     exact ⟨by first | rfl | (simp [errW_none,errW_some] <;> rfl) | (simp [*,errW_none,errW_some] <;> rfl),by repeat (first | (with_reducible first | exact HB.out | apply below_alloc | apply pw_below_drewN | apply below_drew1 | refine below_set ?_ GE223.out) | exact HB.out)⟩
    ·rw [if_neg c9] at H
     have c9b0 : ((a0.size : Int) == 1) = false:=beq_eq_false_iff_ne.mpr c9
     have c9b1 : ((a0.size : Int) != 1) = true:=bne_iff_ne.mpr c9
     have HC12:=Aside0.mk H
     clear H
     go_enter Try.func33,Try.ntmps33
     go_upto_region 7 with (first | ((with_reducible refine gate_dst (N:=2) rfl ?_);refine box_event ?hg (N:=2) ?hd (cs:=#[.int .u8 0,.int .i64 0,.int .i64 0]) (t:=71) ?hr ?_;(case hd => rfl);(case hg => rfl);(case hr => first | (go_simp;done) | (go_simp;rfl));intro gb223 hg w13 hbox hb;have n0_:=Aside0.mk (below_step (by repeat (first | (with_reducible first | exact HB.out | apply below_alloc | apply pw_below_drewN | apply below_drew1) | exact HB.out)) hb);have n1_:=Aside0.mk (hbox);have n2_:=Aside0.mk ((by rw [hg];exact (below_size (by repeat (first | (with_reducible first | exact HB.out | apply below_alloc | apply pw_below_drewN | apply below_drew1) | exact HB.out))) : w.heap.size ≤ gb223));have n3_:=Aside0.mk ((by rw [hg];exact (below_size (by repeat (first | (with_reducible first | exact HB.out | apply below_alloc | apply pw_below_drewN | apply below_drew1) | exact HB.out))) : w.heap.size ≤ gb223));clear HB;have HB:=n0_;have BK223:=n1_;have GW223:=n2_;have GE223:=n3_;clear n0_ n1_ n2_ n3_;clear hb hbox hg;have p3 : 0 ≤ (0 : Int):=(by omega);have q3 : 0 < a0.size:=(by have : (0 : Int) < (a0.size : Int):=of_decide_eq_true (by first | (with_reducible assumption) | assumption);omega);have hx3 : ∀ h : 0 < a0.size,((a0[0]'h).toNat : Int) = bt a0 0:=bt_at a0 0;clear p3;have qi3 : (0 < (a0.size : Int)) = True:=eq_true (of_decide_eq_true (by first | (with_reducible assumption) | assumption));replace q3:=eq_true q3;have p7 : 0 ≤ (0 : Int):=(by omega);have q7 : 0 < a0.size:=(by have : (0 : Int) < (a0.size : Int):=of_decide_eq_true (by first | (with_reducible assumption) | assumption);omega);have hx7 : ∀ h : 0 < a0.size,((a0[0]'h).toNat : Int) = bt a0 0:=bt_at a0 0;clear p7;have qi7 : (0 < (a0.size : Int)) = True:=eq_true (of_decide_eq_true (by first | (with_reducible assumption) | assumption));replace q7:=eq_true q7))
     (try simp only [Act.put,List.setIfInBounds_toArray,List.set_cons_zero,List.set_cons_succ])
     go_cut [26] (fun v26 wc => ∃ (kq : Nat) (x26_11 : Bool),v26 = .bool x26_11 ∧ Aside0 (tachographref20_next.j0 kq a0 x26_11 = some (r1,r2,r3)) ∧ Aside0 (kq ≤ k) ∧ Aside0 (wc.heap[gb223]? = some (.cells #[.int .u8 0,.int .i64 0,.int .i64 0] 71 (0,0))) ∧ Aside0 (Below w.heap.size w wc))
     case first =>
      have H:=HC12.out
      clear HC12
      by_cases c14 : 1 < (a0.size : Int)
      ·rw [if_pos c14] at H
       have c14b0 : decide (1 < (a0.size : Int)) = true:=decide_eq_true c14
       have c14b1 : decide (1 < a0.size) = true:=decide_eq_true (by omega)
       clear c14
       (first | rw [c14b0] | (simp only [i64_w,i32_w];rw [c14b0]) | skip)
       by_cases c16 : (bt a0 1) = 34
       ·rw [if_pos c16] at H
        have c16b0 : ((bt a0 1) == 34) = true:=beq_iff_eq.mpr c16
        have c16b1 : ((bt a0 1) != 34) = false:=bne_eq_false_iff_eq.mpr c16
        clear c16
        have H':=Aside0.mk H
        clear H
        have p15 : 0 ≤ (1 : Int):=(by omega)
        have q15 : 1 < a0.size:=(by have : (1 : Int) < (a0.size : Int):=of_decide_eq_true (by first | (with_reducible assumption) | assumption);omega)
        have hx15 : ∀ h : 1 < a0.size,((a0[1]'h).toNat : Int) = bt a0 1:=bt_at a0 1
        clear p15
        have qi15 : (1 < (a0.size : Int)) = True:=eq_true (of_decide_eq_true (by first | (with_reducible assumption) | assumption))
        replace q15:=eq_true q15
        go_wp2
        go_meet
        case rel => exact ⟨_,(true),(by first | rfl | (simp;done) | (simp [*];done)),H',⟨by first | omega | exact Nat.le_refl _⟩,⟨by (with_reducible repeat (first | refine blk_drewN ?_ _ | refine blk_drew ?_ | refine blk_alloc ?_ _));exact BK223.out⟩,⟨by repeat (first | (with_reducible first | exact HB.out | apply below_alloc | apply pw_below_drewN | apply below_drew1 | refine below_set ?_ GE223.out) | exact HB.out)⟩⟩
       ·rw [if_neg c16] at H
        have c16b0 : ((bt a0 1) == 34) = false:=beq_eq_false_iff_ne.mpr c16
        have c16b1 : ((bt a0 1) != 34) = true:=bne_iff_ne.mpr c16
        have H':=Aside0.mk H
        clear H
        have p15 : 0 ≤ (1 : Int):=(by omega)
        have q15 : 1 < a0.size:=(by have : (1 : Int) < (a0.size : Int):=of_decide_eq_true (by first | (with_reducible assumption) | assumption);omega)
        have hx15 : ∀ h : 1 < a0.size,((a0[1]'h).toNat : Int) = bt a0 1:=bt_at a0 1
        clear p15
        have qi15 : (1 < (a0.size : Int)) = True:=eq_true (of_decide_eq_true (by first | (with_reducible assumption) | assumption))
        replace q15:=eq_true q15
        have p17 : 0 ≤ (1 : Int):=(by omega)
        have q17 : 1 < a0.size:=(by have : (1 : Int) < (a0.size : Int):=of_decide_eq_true (by first | (with_reducible assumption) | assumption);omega)
        have hx17 : ∀ h : 1 < a0.size,((a0[1]'h).toNat : Int) = bt a0 1:=bt_at a0 1
        clear p17
        have qi17 : (1 < (a0.size : Int)) = True:=eq_true (of_decide_eq_true (by first | (with_reducible assumption) | assumption))
        replace q17:=eq_true q17
        go_wp2
        go_meet
        case rel => exact ⟨_,(((bt a0 1) == 92)),(by first | rfl | (simp;done) | (simp [*];done)),H',⟨by first | omega | exact Nat.le_refl _⟩,⟨by (with_reducible repeat (first | refine blk_drewN ?_ _ | refine blk_drew ?_ | refine blk_alloc ?_ _));exact BK223.out⟩,⟨by repeat (first | (with_reducible first | exact HB.out | apply below_alloc | apply pw_below_drewN | apply below_drew1 | refine below_set ?_ GE223.out) | exact HB.out)⟩⟩
      ·rw [if_neg c14] at H
       exact absurd H (by simp)
     case rest =>
      clear HC12
      try clear c1
      try clear p1
      try clear q1
      try clear hx1
      try clear qi1
      try clear c2
      try clear c2b0
      try clear c2b1
      try clear p2
      try clear c3
      try clear p3
      try clear q3
      try clear hx3
      try clear qi3
      try clear c4
      try clear c4b0
      try clear p7
      try clear q7
      try clear hx7
      try clear qi7
      try clear c8
      try clear c8b0
      try clear c8b1
      try clear c9
      try clear c9b0
      try clear c9b1
      try clear c14
      try clear c14b0
      try clear c14b1
      try clear p15
      try clear q15
      try clear hx15
      try clear qi15
      try clear c16
      try clear c16b0
      try clear c16b1
      try clear p17
      try clear q17
      try clear hx17
      try clear qi17
      try clear hcz11_0
      try clear hcz11_1
      try clear hcz11_2
      try clear hcz6_0
      try clear hcz6_1
      try clear hcz6_2
      try clear hfz11_0
      try clear hfz11_1
      try clear hfz11_2
      try clear hfz6_0
      try clear hfz6_1
      try clear hfz6_2
      try clear p15
      try clear p17
      try clear p3
      try clear p7
      try clear q15
      try clear q17
      try clear q3
      try clear q7
      obtain ⟨kq,x26_11,rfl,HA,HJ11,BK223,HB⟩:=hcut
      cases kq with
      | zero => exact absurd HA.out (by simp [tachographref20_next.j0])
      | succ kj11 =>
       have H:=HA.out
       clear HA
       simp only [tachographref20_next.j0] at H
       by_cases c18 : x26_11 = true
       ·subst c18
        have H1 : (if 1 < (a0.size : Int) then (some (bt a0 1,2,0)) else (none)) = some (r1,r2,r3):=by rw [if_pos rfl] at H;exact H
        clear H
        have H:=H1
        clear H1
        by_cases c19 : 1 < (a0.size : Int)
        ·rw [if_pos c19] at H
         have c19b0 : decide (1 < (a0.size : Int)) = true:=decide_eq_true c19
         have c19b1 : decide (1 < a0.size) = true:=decide_eq_true (by omega)
         clear c19
         simp only [Option.some.injEq,Prod.mk.injEq] at H
         obtain ⟨rfl,rfl,rfl⟩:=H
         have p20 : 0 ≤ (1 : Int):=(by omega)
         have q20 : 1 < a0.size:=(by have : (1 : Int) < (a0.size : Int):=of_decide_eq_true (by first | (with_reducible assumption) | assumption);omega)
         have hx20 : ∀ h : 1 < a0.size,((a0[1]'h).toNat : Int) = bt a0 1:=bt_at a0 1
         clear p20
         have qi20 : (1 < (a0.size : Int)) = True:=eq_true (of_decide_eq_true (by first | (with_reducible assumption) | assumption))
         replace q20:=eq_true q20
         have hcz21_0 : wc.cell? ⟨gb223,0,none⟩ = some (.int .u8 0):=(blk_cell BK223.out 0).trans rfl
         have hcz21_1 : wc.cell? ⟨gb223,1,none⟩ = some (.int .i64 0):=(blk_cell BK223.out 1).trans rfl
         have hcz21_2 : wc.cell? ⟨gb223,2,none⟩ = some (.int .i64 0):=(blk_cell BK223.out 2).trans rfl
         have hfz21_0:=blk_frozen BK223.out 0
         have hfz21_1:=blk_frozen BK223.out 1
         have hfz21_2:=blk_frozen BK223.out 2
         go_wp2
         refine bodyPost_ret (results_cell_row rfl _ _ gb223 71 #[.int .u8 (bt a0 1),.int .i64 2,.int .i64 0] (0,0) _ rfl (by (with_reducible repeat (first | refine blk_drewN ?_ _ | refine blk_drew ?_ | refine blk_alloc ?_ _));refine blk_put (cs:=#[.int .u8 (bt a0 1),.int .i64 2,.int .i64 0]) ?_ 2 _ rfl;(with_reducible repeat (first | refine blk_drewN ?_ _ | refine blk_drew ?_ | refine blk_alloc ?_ _));refine blk_put (cs:=#[.int .u8 (bt a0 1),.int .i64 0,.int .i64 0]) ?_ 1 _ rfl;(with_reducible repeat (first | refine blk_drewN ?_ _ | refine blk_drew ?_ | refine blk_alloc ?_ _));refine blk_put (cs:=#[.int .u8 0,.int .i64 0,.int .i64 0]) ?_ 0 _ rfl;(with_reducible repeat (first | refine blk_drewN ?_ _ | refine blk_drew ?_ | refine blk_alloc ?_ _));exact BK223.out) Try.underlying71 rfl (by kernel_rfl)) rfl ?_
         exact ⟨by first | rfl | (simp [errW_none,errW_some] <;> rfl) | (simp [*,errW_none,errW_some] <;> rfl),by repeat (first | (with_reducible first | exact HB.out | apply below_alloc | apply pw_below_drewN | apply below_drew1 | refine below_set ?_ GE223.out) | exact HB.out)⟩
        ·rw [if_neg c19] at H
         exact absurd H (by simp)
       ·replace c18:=Bool.eq_false_iff.mpr c18
        subst c18
        have H1 : (if 1 < (a0.size : Int) then (if (bt a0 1) = 110 then (some (10,2,0)) else (if (bt a0 1) = 120 then (if (a0.size : Int) = 2 then (some (0,0,2)) else (if 2 < (a0.size : Int) then ((tachographref20_digit.f kj11 (bt a0 2)).bind fun t224 => (if t224 < 0 then (some (0,0,4)) else (if (a0.size : Int) = 3 then (some (0,0,2)) else (if 3 < (a0.size : Int) then ((tachographref20_digit.f kj11 (bt a0 3)).bind fun t225 => (if t225 < 0 then (some (0,0,4)) else (some ((wrap64 ((wrap64 (16 * t224)) + t225)) % 256,4,0)))) else (none))))) else (none))) else (some (0,0,4)))) else (none)) = some (r1,r2,r3):=by rw [if_neg (show ¬ (false = true) by decide)] at H;exact H
        clear H
        have H:=H1
        clear H1
        by_cases c22 : 1 < (a0.size : Int)
        ·rw [if_pos c22] at H
         have c22b0 : decide (1 < (a0.size : Int)) = true:=decide_eq_true c22
         have c22b1 : decide (1 < a0.size) = true:=decide_eq_true (by omega)
         clear c22
         by_cases c24 : (bt a0 1) = 110
         ·rw [if_pos c24] at H
          have c24b0 : ((bt a0 1) == 110) = true:=beq_iff_eq.mpr c24
          have c24b1 : ((bt a0 1) != 110) = false:=bne_eq_false_iff_eq.mpr c24
          clear c24
          simp only [Option.some.injEq,Prod.mk.injEq] at H
          obtain ⟨rfl,rfl,rfl⟩:=H
          have p23 : 0 ≤ (1 : Int):=(by omega)
          have q23 : 1 < a0.size:=(by have : (1 : Int) < (a0.size : Int):=of_decide_eq_true (by first | (with_reducible assumption) | assumption);omega)
          have hx23 : ∀ h : 1 < a0.size,((a0[1]'h).toNat : Int) = bt a0 1:=bt_at a0 1
          clear p23
          have qi23 : (1 < (a0.size : Int)) = True:=eq_true (of_decide_eq_true (by first | (with_reducible assumption) | assumption))
          replace q23:=eq_true q23
          have hcz25_0 : wc.cell? ⟨gb223,0,none⟩ = some (.int .u8 0):=(blk_cell BK223.out 0).trans rfl
          have hcz25_1 : wc.cell? ⟨gb223,1,none⟩ = some (.int .i64 0):=(blk_cell BK223.out 1).trans rfl
          have hcz25_2 : wc.cell? ⟨gb223,2,none⟩ = some (.int .i64 0):=(blk_cell BK223.out 2).trans rfl
          have hfz25_0:=blk_frozen BK223.out 0
          have hfz25_1:=blk_frozen BK223.out 1
          have hfz25_2:=blk_frozen BK223.out 2
          go_wp2
          refine bodyPost_ret (results_cell_row rfl _ _ gb223 71 #[.int .u8 10,.int .i64 2,.int .i64 0] (0,0) _ rfl (by (with_reducible repeat (first | refine blk_drewN ?_ _ | refine blk_drew ?_ | refine blk_alloc ?_ _));refine blk_put (cs:=#[.int .u8 10,.int .i64 2,.int .i64 0]) ?_ 2 _ rfl;(with_reducible repeat (first | refine blk_drewN ?_ _ | refine blk_drew ?_ | refine blk_alloc ?_ _));refine blk_put (cs:=#[.int .u8 10,.int .i64 0,.int .i64 0]) ?_ 1 _ rfl;(with_reducible repeat (first | refine blk_drewN ?_ _ | refine blk_drew ?_ | refine blk_alloc ?_ _));refine blk_put (cs:=#[.int .u8 0,.int .i64 0,.int .i64 0]) ?_ 0 _ rfl;(with_reducible repeat (first | refine blk_drewN ?_ _ | refine blk_drew ?_ | refine blk_alloc ?_ _));exact BK223.out) Try.underlying71 rfl (by kernel_rfl)) rfl ?_
          exact ⟨by first | rfl | (simp [errW_none,errW_some] <;> rfl) | (simp [*,errW_none,errW_some] <;> rfl),by repeat (first | (with_reducible first | exact HB.out | apply below_alloc | apply pw_below_drewN | apply below_drew1 | refine below_set ?_ GE223.out) | exact HB.out)⟩
         ·rw [if_neg c24] at H
          have c24b0 : ((bt a0 1) == 110) = false:=beq_eq_false_iff_ne.mpr c24
          have c24b1 : ((bt a0 1) != 110) = true:=bne_iff_ne.mpr c24
          by_cases c27 : (bt a0 1) = 120
          ·rw [if_pos c27] at H
           have c27b0 : ((bt a0 1) == 120) = true:=beq_iff_eq.mpr c27
           have c27b1 : ((bt a0 1) != 120) = false:=bne_eq_false_iff_eq.mpr c27
           clear c27
           by_cases c28 : (a0.size : Int) = 2
           ·rw [if_pos c28] at H
            have c28b0 : ((a0.size : Int) == 2) = true:=beq_iff_eq.mpr c28
            have c28b1 : ((a0.size : Int) != 2) = false:=bne_eq_false_iff_eq.mpr c28
            clear c28
            simp only [Option.some.injEq,Prod.mk.injEq] at H
            obtain ⟨rfl,rfl,rfl⟩:=H
            have p23 : 0 ≤ (1 : Int):=(by omega)
            have q23 : 1 < a0.size:=(by have : (1 : Int) < (a0.size : Int):=of_decide_eq_true (by first | (with_reducible assumption) | assumption);omega)
            have hx23 : ∀ h : 1 < a0.size,((a0[1]'h).toNat : Int) = bt a0 1:=bt_at a0 1
            clear p23
            have qi23 : (1 < (a0.size : Int)) = True:=eq_true (of_decide_eq_true (by first | (with_reducible assumption) | assumption))
            replace q23:=eq_true q23
            have p26 : 0 ≤ (1 : Int):=(by omega)
            have q26 : 1 < a0.size:=(by have : (1 : Int) < (a0.size : Int):=of_decide_eq_true (by first | (with_reducible assumption) | assumption);omega)
            have hx26 : ∀ h : 1 < a0.size,((a0[1]'h).toNat : Int) = bt a0 1:=bt_at a0 1
            clear p26
            have qi26 : (1 < (a0.size : Int)) = True:=eq_true (of_decide_eq_true (by first | (with_reducible assumption) | assumption))
            replace q26:=eq_true q26
            have hcz29_0 : wc.cell? ⟨gb223,0,none⟩ = some (.int .u8 0):=(blk_cell BK223.out 0).trans rfl
            have hcz29_1 : wc.cell? ⟨gb223,1,none⟩ = some (.int .i64 0):=(blk_cell BK223.out 1).trans rfl
            have hcz29_2 : wc.cell? ⟨gb223,2,none⟩ = some (.int .i64 0):=(blk_cell BK223.out 2).trans rfl
            have hfz29_0:=blk_frozen BK223.out 0
            have hfz29_1:=blk_frozen BK223.out 1
            have hfz29_2:=blk_frozen BK223.out 2
            go_wp2
            refine bodyPost_ret (results_cell_row rfl _ _ gb223 71 #[.int .u8 0,.int .i64 0,.int .i64 2] (0,0) _ rfl (by (with_reducible repeat (first | refine blk_drewN ?_ _ | refine blk_drew ?_ | refine blk_alloc ?_ _));refine blk_put (cs:=#[.int .u8 0,.int .i64 0,.int .i64 0]) ?_ 2 _ rfl;(with_reducible repeat (first | refine blk_drewN ?_ _ | refine blk_drew ?_ | refine blk_alloc ?_ _));refine blk_put (cs:=#[.int .u8 0,.int .i64 0,.int .i64 0]) ?_ 1 _ rfl;(with_reducible repeat (first | refine blk_drewN ?_ _ | refine blk_drew ?_ | refine blk_alloc ?_ _));refine blk_put (cs:=#[.int .u8 0,.int .i64 0,.int .i64 0]) ?_ 0 _ rfl;(with_reducible repeat (first | refine blk_drewN ?_ _ | refine blk_drew ?_ | refine blk_alloc ?_ _));exact BK223.out) Try.underlying71 rfl (by kernel_rfl)) rfl ?_
            exact ⟨by first | rfl | (simp [errW_none,errW_some] <;> rfl) | (simp [*,errW_none,errW_some] <;> rfl),by repeat (first | (with_reducible first | exact HB.out | apply below_alloc | apply pw_below_drewN | apply below_drew1 | refine below_set ?_ GE223.out) | exact HB.out)⟩
           ·rw [if_neg c28] at H
            have c28b0 : ((a0.size : Int) == 2) = false:=beq_eq_false_iff_ne.mpr c28
            have c28b1 : ((a0.size : Int) != 2) = true:=bne_iff_ne.mpr c28
            by_cases c30 : 2 < (a0.size : Int)
            ·rw [if_pos c30] at H
             have c30b0 : decide (2 < (a0.size : Int)) = true:=decide_eq_true c30
             have c30b1 : decide (2 < a0.size) = true:=decide_eq_true (by omega)
             clear c30
             replace H:=Option.bind_eq_some_iff.mp H
             obtain ⟨t224,A320,H⟩:=H
             replace H : (if t224 < 0 then (some (0,0,4)) else (if (a0.size : Int) = 3 then (some (0,0,2)) else (if 3 < (a0.size : Int) then ((tachographref20_digit.f kj11 (bt a0 3)).bind fun t225 => (if t225 < 0 then (some (0,0,4)) else (some ((wrap64 ((wrap64 (16 * t224)) + t225)) % 256,4,0)))) else (none)))) = some (r1,r2,r3):=H
             have A32:=Aside0.mk A320
             clear A320
             by_cases c33 : t224 < 0
             ·rw [if_pos c33] at H
              have c33b0 : decide (t224 < 0) = true:=decide_eq_true c33
              clear c33
              simp only [Option.some.injEq,Prod.mk.injEq] at H
              obtain ⟨rfl,rfl,rfl⟩:=H
              have p23 : 0 ≤ (1 : Int):=(by omega)
              have q23 : 1 < a0.size:=(by have : (1 : Int) < (a0.size : Int):=of_decide_eq_true (by first | (with_reducible assumption) | assumption);omega)
              have hx23 : ∀ h : 1 < a0.size,((a0[1]'h).toNat : Int) = bt a0 1:=bt_at a0 1
              clear p23
              have qi23 : (1 < (a0.size : Int)) = True:=eq_true (of_decide_eq_true (by first | (with_reducible assumption) | assumption))
              replace q23:=eq_true q23
              have p26 : 0 ≤ (1 : Int):=(by omega)
              have q26 : 1 < a0.size:=(by have : (1 : Int) < (a0.size : Int):=of_decide_eq_true (by first | (with_reducible assumption) | assumption);omega)
              have hx26 : ∀ h : 1 < a0.size,((a0[1]'h).toNat : Int) = bt a0 1:=bt_at a0 1
              clear p26
              have qi26 : (1 < (a0.size : Int)) = True:=eq_true (of_decide_eq_true (by first | (with_reducible assumption) | assumption))
              replace q26:=eq_true q26
              have p31 : 0 ≤ (2 : Int):=(by omega)
              have q31 : 2 < a0.size:=(by have : (2 : Int) < (a0.size : Int):=of_decide_eq_true (by first | (with_reducible assumption) | assumption);omega)
              have hx31 : ∀ h : 2 < a0.size,((a0[2]'h).toNat : Int) = bt a0 2:=bt_at a0 2
              clear p31
              have qi31 : (2 < (a0.size : Int)) = True:=eq_true (of_decide_eq_true (by first | (with_reducible assumption) | assumption))
              replace q31:=eq_true q31
              go_wp2_with (first | ((with_reducible refine gate_callee (f:=43) rfl ?_);refine goesL_ (some 44) rfl rfl Try.func43 (by kernel_rfl) rfl #[.int .u8 (bt a0 2)] rfl (by (try simp only [List.map_toArray,List.map_cons,List.map_nil]);first | done | rfl | (simp only [List.length_drop,List.length_take];rfl)) ?_;(with_reducible refine (tachographref20_digit.calls kj11 (bt a0 2) t224 _ A32.out).mono ?_);rintro e w' ⟨rfl,⟨nd,rfl⟩⟩;refine ⟨_,rfl,?_⟩;(try (rw [drewN_self wc];generalize hq_ : World.drewN wc _ = wc;have n0_ : Aside0 (wc.heap[gb223]? = some (.cells #[.int .u8 0,.int .i64 0,.int .i64 0] 71 (0,0))):=⟨by rw [← hq_];exact (by (with_reducible repeat (first | refine blk_drewN ?_ _ | refine blk_drew ?_ | refine blk_alloc ?_ _));exact BK223.out)⟩;have n1_ : Aside0 (Below w.heap.size w wc):=⟨by rw [← hq_];exact (by repeat (first | (with_reducible first | exact HB.out | apply below_alloc | apply pw_below_drewN | apply below_drew1 | refine below_set ?_ GE223.out) | exact HB.out))⟩;clear BK223 HB hq_;have BK223:=n0_;have HB:=n1_;clear n0_ n1_));(try (have hczU223_0 : wc.cell? ⟨gb223,0,none⟩ = some (.int .u8 0):=(blk_cell BK223.out 0).trans rfl));(try (have hczU223_1 : wc.cell? ⟨gb223,1,none⟩ = some (.int .i64 0):=(blk_cell BK223.out 1).trans rfl));(try (have hczU223_2 : wc.cell? ⟨gb223,2,none⟩ = some (.int .i64 0):=(blk_cell BK223.out 2).trans rfl));have hcz34_0 : wc.cell? ⟨gb223,0,none⟩ = some (.int .u8 0):=(blk_cell BK223.out 0).trans rfl;have hcz34_1 : wc.cell? ⟨gb223,1,none⟩ = some (.int .i64 0):=(blk_cell BK223.out 1).trans rfl;have hcz34_2 : wc.cell? ⟨gb223,2,none⟩ = some (.int .i64 0):=(blk_cell BK223.out 2).trans rfl;have hfz34_0:=blk_frozen BK223.out 0;have hfz34_1:=blk_frozen BK223.out 1;have hfz34_2:=blk_frozen BK223.out 2))
              refine bodyPost_ret (results_cell_row rfl _ _ gb223 71 #[.int .u8 0,.int .i64 0,.int .i64 4] (0,0) _ rfl (by (with_reducible repeat (first | refine blk_drewN ?_ _ | refine blk_drew ?_ | refine blk_alloc ?_ _));refine blk_put (cs:=#[.int .u8 0,.int .i64 0,.int .i64 0]) ?_ 2 _ rfl;(with_reducible repeat (first | refine blk_drewN ?_ _ | refine blk_drew ?_ | refine blk_alloc ?_ _));refine blk_put (cs:=#[.int .u8 0,.int .i64 0,.int .i64 0]) ?_ 1 _ rfl;(with_reducible repeat (first | refine blk_drewN ?_ _ | refine blk_drew ?_ | refine blk_alloc ?_ _));refine blk_put (cs:=#[.int .u8 0,.int .i64 0,.int .i64 0]) ?_ 0 _ rfl;(with_reducible repeat (first | refine blk_drewN ?_ _ | refine blk_drew ?_ | refine blk_alloc ?_ _));exact BK223.out) Try.underlying71 rfl (by kernel_rfl)) rfl ?_
              exact ⟨by first | rfl | (simp [errW_none,errW_some] <;> rfl) | (simp [*,errW_none,errW_some] <;> rfl),by repeat (first | (with_reducible first | exact HB.out | apply below_alloc | apply pw_below_drewN | apply below_drew1 | refine below_set ?_ GE223.out) | exact HB.out)⟩
             ·rw [if_neg c33] at H
              have c33b0 : decide (t224 < 0) = false:=decide_eq_false c33
              clear c33
              by_cases c35 : (a0.size : Int) = 3
              ·rw [if_pos c35] at H
               have c35b0 : ((a0.size : Int) == 3) = true:=beq_iff_eq.mpr c35
               have c35b1 : ((a0.size : Int) != 3) = false:=bne_eq_false_iff_eq.mpr c35
               clear c35
               simp only [Option.some.injEq,Prod.mk.injEq] at H
               obtain ⟨rfl,rfl,rfl⟩:=H
               have p23 : 0 ≤ (1 : Int):=(by omega)
               have q23 : 1 < a0.size:=(by have : (1 : Int) < (a0.size : Int):=of_decide_eq_true (by first | (with_reducible assumption) | assumption);omega)
               have hx23 : ∀ h : 1 < a0.size,((a0[1]'h).toNat : Int) = bt a0 1:=bt_at a0 1
               clear p23
               have qi23 : (1 < (a0.size : Int)) = True:=eq_true (of_decide_eq_true (by first | (with_reducible assumption) | assumption))
               replace q23:=eq_true q23
               have p26 : 0 ≤ (1 : Int):=(by omega)
               have q26 : 1 < a0.size:=(by have : (1 : Int) < (a0.size : Int):=of_decide_eq_true (by first | (with_reducible assumption) | assumption);omega)
               have hx26 : ∀ h : 1 < a0.size,((a0[1]'h).toNat : Int) = bt a0 1:=bt_at a0 1
               clear p26
               have qi26 : (1 < (a0.size : Int)) = True:=eq_true (of_decide_eq_true (by first | (with_reducible assumption) | assumption))
               replace q26:=eq_true q26
               have p31 : 0 ≤ (2 : Int):=(by omega)
               have q31 : 2 < a0.size:=(by have : (2 : Int) < (a0.size : Int):=of_decide_eq_true (by first | (with_reducible assumption) | assumption);omega)
               have hx31 : ∀ h : 2 < a0.size,((a0[2]'h).toNat : Int) = bt a0 2:=bt_at a0 2
               clear p31
               have qi31 : (2 < (a0.size : Int)) = True:=eq_true (of_decide_eq_true (by first | (with_reducible assumption) | assumption))
               replace q31:=eq_true q31
               go_wp2_with (first | ((with_reducible refine gate_callee (f:=43) rfl ?_);refine goesL_ (some 44) rfl rfl Try.func43 (by kernel_rfl) rfl #[.int .u8 (bt a0 2)] rfl (by (try simp only [List.map_toArray,List.map_cons,List.map_nil]);first | done | rfl | (simp only [List.length_drop,List.length_take];rfl)) ?_;(with_reducible refine (tachographref20_digit.calls kj11 (bt a0 2) t224 _ A32.out).mono ?_);rintro e w' ⟨rfl,⟨nd,rfl⟩⟩;refine ⟨_,rfl,?_⟩;(try (rw [drewN_self wc];generalize hq_ : World.drewN wc _ = wc;have n0_ : Aside0 (wc.heap[gb223]? = some (.cells #[.int .u8 0,.int .i64 0,.int .i64 0] 71 (0,0))):=⟨by rw [← hq_];exact (by (with_reducible repeat (first | refine blk_drewN ?_ _ | refine blk_drew ?_ | refine blk_alloc ?_ _));exact BK223.out)⟩;have n1_ : Aside0 (Below w.heap.size w wc):=⟨by rw [← hq_];exact (by repeat (first | (with_reducible first | exact HB.out | apply below_alloc | apply pw_below_drewN | apply below_drew1 | refine below_set ?_ GE223.out) | exact HB.out))⟩;clear BK223 HB hq_;have BK223:=n0_;have HB:=n1_;clear n0_ n1_));(try (have hczU223_0 : wc.cell? ⟨gb223,0,none⟩ = some (.int .u8 0):=(blk_cell BK223.out 0).trans rfl));(try (have hczU223_1 : wc.cell? ⟨gb223,1,none⟩ = some (.int .i64 0):=(blk_cell BK223.out 1).trans rfl));(try (have hczU223_2 : wc.cell? ⟨gb223,2,none⟩ = some (.int .i64 0):=(blk_cell BK223.out 2).trans rfl));have hcz36_0 : wc.cell? ⟨gb223,0,none⟩ = some (.int .u8 0):=(blk_cell BK223.out 0).trans rfl;have hcz36_1 : wc.cell? ⟨gb223,1,none⟩ = some (.int .i64 0):=(blk_cell BK223.out 1).trans rfl;have hcz36_2 : wc.cell? ⟨gb223,2,none⟩ = some (.int .i64 0):=(blk_cell BK223.out 2).trans rfl;have hfz36_0:=blk_frozen BK223.out 0;have hfz36_1:=blk_frozen BK223.out 1;have hfz36_2:=blk_frozen BK223.out 2))
               refine bodyPost_ret (results_cell_row rfl _ _ gb223 71 #[.int .u8 0,.int .i64 0,.int .i64 2] (0,0) _ rfl (by (with_reducible repeat (first | refine blk_drewN ?_ _ | refine blk_drew ?_ | refine blk_alloc ?_ _));refine blk_put (cs:=#[.int .u8 0,.int .i64 0,.int .i64 0]) ?_ 2 _ rfl;(with_reducible repeat (first | refine blk_drewN ?_ _ | refine blk_drew ?_ | refine blk_alloc ?_ _));refine blk_put (cs:=#[.int .u8 0,.int .i64 0,.int .i64 0]) ?_ 1 _ rfl;(with_reducible repeat (first | refine blk_drewN ?_ _ | refine blk_drew ?_ | refine blk_alloc ?_ _));refine blk_put (cs:=#[.int .u8 0,.int .i64 0,.int .i64 0]) ?_ 0 _ rfl;(with_reducible repeat (first | refine blk_drewN ?_ _ | refine blk_drew ?_ | refine blk_alloc ?_ _));exact BK223.out) Try.underlying71 rfl (by kernel_rfl)) rfl ?_
               exact ⟨by first | rfl | (simp [errW_none,errW_some] <;> rfl) | (simp [*,errW_none,errW_some] <;> rfl),by repeat (first | (with_reducible first | exact HB.out | apply below_alloc | apply pw_below_drewN | apply below_drew1 | refine below_set ?_ GE223.out) | exact HB.out)⟩
              ·rw [if_neg c35] at H
               have c35b0 : ((a0.size : Int) == 3) = false:=beq_eq_false_iff_ne.mpr c35
               have c35b1 : ((a0.size : Int) != 3) = true:=bne_iff_ne.mpr c35
               by_cases c37 : 3 < (a0.size : Int)
               ·rw [if_pos c37] at H
                have c37b0 : decide (3 < (a0.size : Int)) = true:=decide_eq_true c37
                have c37b1 : decide (3 < a0.size) = true:=decide_eq_true (by omega)
                clear c37
                replace H:=Option.bind_eq_some_iff.mp H
                obtain ⟨t225,A390,H⟩:=H
                replace H : (if t225 < 0 then (some (0,0,4)) else (some ((wrap64 ((wrap64 (16 * t224)) + t225)) % 256,4,0))) = some (r1,r2,r3):=H
                have A39:=Aside0.mk A390
                clear A390
                by_cases c40 : t225 < 0
                ·rw [if_pos c40] at H
                 have c40b0 : decide (t225 < 0) = true:=decide_eq_true c40
                 clear c40
                 simp only [Option.some.injEq,Prod.mk.injEq] at H
                 obtain ⟨rfl,rfl,rfl⟩:=H
                 have p23 : 0 ≤ (1 : Int):=(by omega)
                 have q23 : 1 < a0.size:=(by have : (1 : Int) < (a0.size : Int):=of_decide_eq_true (by first | (with_reducible assumption) | assumption);omega)
                 have hx23 : ∀ h : 1 < a0.size,((a0[1]'h).toNat : Int) = bt a0 1:=bt_at a0 1
                 clear p23
                 have qi23 : (1 < (a0.size : Int)) = True:=eq_true (of_decide_eq_true (by first | (with_reducible assumption) | assumption))
                 replace q23:=eq_true q23
                 have p26 : 0 ≤ (1 : Int):=(by omega)
                 have q26 : 1 < a0.size:=(by have : (1 : Int) < (a0.size : Int):=of_decide_eq_true (by first | (with_reducible assumption) | assumption);omega)
                 have hx26 : ∀ h : 1 < a0.size,((a0[1]'h).toNat : Int) = bt a0 1:=bt_at a0 1
                 clear p26
                 have qi26 : (1 < (a0.size : Int)) = True:=eq_true (of_decide_eq_true (by first | (with_reducible assumption) | assumption))
                 replace q26:=eq_true q26
                 have p31 : 0 ≤ (2 : Int):=(by omega)
                 have q31 : 2 < a0.size:=(by have : (2 : Int) < (a0.size : Int):=of_decide_eq_true (by first | (with_reducible assumption) | assumption);omega)
                 have hx31 : ∀ h : 2 < a0.size,((a0[2]'h).toNat : Int) = bt a0 2:=bt_at a0 2
                 clear p31
                 have qi31 : (2 < (a0.size : Int)) = True:=eq_true (of_decide_eq_true (by first | (with_reducible assumption) | assumption))
                 replace q31:=eq_true q31
                 go_wp2_with (first | ((with_reducible refine gate_callee (f:=43) rfl ?_);refine goesL_ (some 44) rfl rfl Try.func43 (by kernel_rfl) rfl #[.int .u8 (bt a0 2)] rfl (by (try simp only [List.map_toArray,List.map_cons,List.map_nil]);first | done | rfl | (simp only [List.length_drop,List.length_take];rfl)) ?_;(with_reducible refine (tachographref20_digit.calls kj11 (bt a0 2) t224 _ A32.out).mono ?_);rintro e w' ⟨rfl,⟨nd,rfl⟩⟩;refine ⟨_,rfl,?_⟩;(try (rw [drewN_self wc];generalize hq_ : World.drewN wc _ = wc;have n0_ : Aside0 (wc.heap[gb223]? = some (.cells #[.int .u8 0,.int .i64 0,.int .i64 0] 71 (0,0))):=⟨by rw [← hq_];exact (by (with_reducible repeat (first | refine blk_drewN ?_ _ | refine blk_drew ?_ | refine blk_alloc ?_ _));exact BK223.out)⟩;have n1_ : Aside0 (Below w.heap.size w wc):=⟨by rw [← hq_];exact (by repeat (first | (with_reducible first | exact HB.out | apply below_alloc | apply pw_below_drewN | apply below_drew1 | refine below_set ?_ GE223.out) | exact HB.out))⟩;clear BK223 HB hq_;have BK223:=n0_;have HB:=n1_;clear n0_ n1_));(try (have hczU223_0 : wc.cell? ⟨gb223,0,none⟩ = some (.int .u8 0):=(blk_cell BK223.out 0).trans rfl));(try (have hczU223_1 : wc.cell? ⟨gb223,1,none⟩ = some (.int .i64 0):=(blk_cell BK223.out 1).trans rfl));(try (have hczU223_2 : wc.cell? ⟨gb223,2,none⟩ = some (.int .i64 0):=(blk_cell BK223.out 2).trans rfl));have p38 : 0 ≤ (3 : Int):=(by omega);have q38 : 3 < a0.size:=(by have : (3 : Int) < (a0.size : Int):=of_decide_eq_true (by first | (with_reducible assumption) | assumption);omega);have hx38 : ∀ h : 3 < a0.size,((a0[3]'h).toNat : Int) = bt a0 3:=bt_at a0 3;clear p38;have qi38 : (3 < (a0.size : Int)) = True:=eq_true (of_decide_eq_true (by first | (with_reducible assumption) | assumption));replace q38:=eq_true q38) | ((with_reducible refine gate_callee (f:=43) rfl ?_);refine goesL_ (some 54) rfl rfl Try.func43 (by kernel_rfl) rfl #[.int .u8 (bt a0 3)] rfl (by (try simp only [List.map_toArray,List.map_cons,List.map_nil]);first | done | rfl | (simp only [List.length_drop,List.length_take];rfl)) ?_;(with_reducible refine (tachographref20_digit.calls kj11 (bt a0 3) t225 _ A39.out).mono ?_);rintro e w' ⟨rfl,⟨nd,rfl⟩⟩;refine ⟨_,rfl,?_⟩;(try (rw [drewN_self wc];generalize hq_ : World.drewN wc _ = wc;have n0_ : Aside0 (wc.heap[gb223]? = some (.cells #[.int .u8 0,.int .i64 0,.int .i64 0] 71 (0,0))):=⟨by rw [← hq_];exact (by (with_reducible repeat (first | refine blk_drewN ?_ _ | refine blk_drew ?_ | refine blk_alloc ?_ _));exact BK223.out)⟩;have n1_ : Aside0 (Below w.heap.size w wc):=⟨by rw [← hq_];exact (by repeat (first | (with_reducible first | exact HB.out | apply below_alloc | apply pw_below_drewN | apply below_drew1 | refine below_set ?_ GE223.out) | exact HB.out))⟩;clear BK223 HB hq_;have BK223:=n0_;have HB:=n1_;clear n0_ n1_));(try (have hczU223_0 : wc.cell? ⟨gb223,0,none⟩ = some (.int .u8 0):=(blk_cell BK223.out 0).trans rfl));(try (have hczU223_1 : wc.cell? ⟨gb223,1,none⟩ = some (.int .i64 0):=(blk_cell BK223.out 1).trans rfl));(try (have hczU223_2 : wc.cell? ⟨gb223,2,none⟩ = some (.int .i64 0):=(blk_cell BK223.out 2).trans rfl));have hcz41_0 : wc.cell? ⟨gb223,0,none⟩ = some (.int .u8 0):=(blk_cell BK223.out 0).trans rfl;have hcz41_1 : wc.cell? ⟨gb223,1,none⟩ = some (.int .i64 0):=(blk_cell BK223.out 1).trans rfl;have hcz41_2 : wc.cell? ⟨gb223,2,none⟩ = some (.int .i64 0):=(blk_cell BK223.out 2).trans rfl;have hfz41_0:=blk_frozen BK223.out 0;have hfz41_1:=blk_frozen BK223.out 1;have hfz41_2:=blk_frozen BK223.out 2))
                 refine bodyPost_ret (results_cell_row rfl _ _ gb223 71 #[.int .u8 0,.int .i64 0,.int .i64 4] (0,0) _ rfl (by (with_reducible repeat (first | refine blk_drewN ?_ _ | refine blk_drew ?_ | refine blk_alloc ?_ _));refine blk_put (cs:=#[.int .u8 0,.int .i64 0,.int .i64 0]) ?_ 2 _ rfl;(with_reducible repeat (first | refine blk_drewN ?_ _ | refine blk_drew ?_ | refine blk_alloc ?_ _));refine blk_put (cs:=#[.int .u8 0,.int .i64 0,.int .i64 0]) ?_ 1 _ rfl;(with_reducible repeat (first | refine blk_drewN ?_ _ | refine blk_drew ?_ | refine blk_alloc ?_ _));refine blk_put (cs:=#[.int .u8 0,.int .i64 0,.int .i64 0]) ?_ 0 _ rfl;(with_reducible repeat (first | refine blk_drewN ?_ _ | refine blk_drew ?_ | refine blk_alloc ?_ _));exact BK223.out) Try.underlying71 rfl (by kernel_rfl)) rfl ?_
                 exact ⟨by first | rfl | (simp [errW_none,errW_some] <;> rfl) | (simp [*,errW_none,errW_some] <;> rfl),by repeat (first | (with_reducible first | exact HB.out | apply below_alloc | apply pw_below_drewN | apply below_drew1 | refine below_set ?_ GE223.out) | exact HB.out)⟩
                ·rw [if_neg c40] at H
                 have c40b0 : decide (t225 < 0) = false:=decide_eq_false c40
                 clear c40
                 simp only [Option.some.injEq,Prod.mk.injEq] at H
                 obtain ⟨rfl,rfl,rfl⟩:=H
                 have p23 : 0 ≤ (1 : Int):=(by omega)
                 have q23 : 1 < a0.size:=(by have : (1 : Int) < (a0.size : Int):=of_decide_eq_true (by first | (with_reducible assumption) | assumption);omega)
                 have hx23 : ∀ h : 1 < a0.size,((a0[1]'h).toNat : Int) = bt a0 1:=bt_at a0 1
                 clear p23
                 have qi23 : (1 < (a0.size : Int)) = True:=eq_true (of_decide_eq_true (by first | (with_reducible assumption) | assumption))
                 replace q23:=eq_true q23
                 have p26 : 0 ≤ (1 : Int):=(by omega)
                 have q26 : 1 < a0.size:=(by have : (1 : Int) < (a0.size : Int):=of_decide_eq_true (by first | (with_reducible assumption) | assumption);omega)
                 have hx26 : ∀ h : 1 < a0.size,((a0[1]'h).toNat : Int) = bt a0 1:=bt_at a0 1
                 clear p26
                 have qi26 : (1 < (a0.size : Int)) = True:=eq_true (of_decide_eq_true (by first | (with_reducible assumption) | assumption))
                 replace q26:=eq_true q26
                 have p31 : 0 ≤ (2 : Int):=(by omega)
                 have q31 : 2 < a0.size:=(by have : (2 : Int) < (a0.size : Int):=of_decide_eq_true (by first | (with_reducible assumption) | assumption);omega)
                 have hx31 : ∀ h : 2 < a0.size,((a0[2]'h).toNat : Int) = bt a0 2:=bt_at a0 2
                 clear p31
                 have qi31 : (2 < (a0.size : Int)) = True:=eq_true (of_decide_eq_true (by first | (with_reducible assumption) | assumption))
                 replace q31:=eq_true q31
                 go_wp2_with (first | ((with_reducible refine gate_callee (f:=43) rfl ?_);refine goesL_ (some 44) rfl rfl Try.func43 (by kernel_rfl) rfl #[.int .u8 (bt a0 2)] rfl (by (try simp only [List.map_toArray,List.map_cons,List.map_nil]);first | done | rfl | (simp only [List.length_drop,List.length_take];rfl)) ?_;(with_reducible refine (tachographref20_digit.calls kj11 (bt a0 2) t224 _ A32.out).mono ?_);rintro e w' ⟨rfl,⟨nd,rfl⟩⟩;refine ⟨_,rfl,?_⟩;(try (rw [drewN_self wc];generalize hq_ : World.drewN wc _ = wc;have n0_ : Aside0 (wc.heap[gb223]? = some (.cells #[.int .u8 0,.int .i64 0,.int .i64 0] 71 (0,0))):=⟨by rw [← hq_];exact (by (with_reducible repeat (first | refine blk_drewN ?_ _ | refine blk_drew ?_ | refine blk_alloc ?_ _));exact BK223.out)⟩;have n1_ : Aside0 (Below w.heap.size w wc):=⟨by rw [← hq_];exact (by repeat (first | (with_reducible first | exact HB.out | apply below_alloc | apply pw_below_drewN | apply below_drew1 | refine below_set ?_ GE223.out) | exact HB.out))⟩;clear BK223 HB hq_;have BK223:=n0_;have HB:=n1_;clear n0_ n1_));(try (have hczU223_0 : wc.cell? ⟨gb223,0,none⟩ = some (.int .u8 0):=(blk_cell BK223.out 0).trans rfl));(try (have hczU223_1 : wc.cell? ⟨gb223,1,none⟩ = some (.int .i64 0):=(blk_cell BK223.out 1).trans rfl));(try (have hczU223_2 : wc.cell? ⟨gb223,2,none⟩ = some (.int .i64 0):=(blk_cell BK223.out 2).trans rfl));have p38 : 0 ≤ (3 : Int):=(by omega);have q38 : 3 < a0.size:=(by have : (3 : Int) < (a0.size : Int):=of_decide_eq_true (by first | (with_reducible assumption) | assumption);omega);have hx38 : ∀ h : 3 < a0.size,((a0[3]'h).toNat : Int) = bt a0 3:=bt_at a0 3;clear p38;have qi38 : (3 < (a0.size : Int)) = True:=eq_true (of_decide_eq_true (by first | (with_reducible assumption) | assumption));replace q38:=eq_true q38) | ((with_reducible refine gate_callee (f:=43) rfl ?_);refine goesL_ (some 54) rfl rfl Try.func43 (by kernel_rfl) rfl #[.int .u8 (bt a0 3)] rfl (by (try simp only [List.map_toArray,List.map_cons,List.map_nil]);first | done | rfl | (simp only [List.length_drop,List.length_take];rfl)) ?_;(with_reducible refine (tachographref20_digit.calls kj11 (bt a0 3) t225 _ A39.out).mono ?_);rintro e w' ⟨rfl,⟨nd,rfl⟩⟩;refine ⟨_,rfl,?_⟩;(try (rw [drewN_self wc];generalize hq_ : World.drewN wc _ = wc;have n0_ : Aside0 (wc.heap[gb223]? = some (.cells #[.int .u8 0,.int .i64 0,.int .i64 0] 71 (0,0))):=⟨by rw [← hq_];exact (by (with_reducible repeat (first | refine blk_drewN ?_ _ | refine blk_drew ?_ | refine blk_alloc ?_ _));exact BK223.out)⟩;have n1_ : Aside0 (Below w.heap.size w wc):=⟨by rw [← hq_];exact (by repeat (first | (with_reducible first | exact HB.out | apply below_alloc | apply pw_below_drewN | apply below_drew1 | refine below_set ?_ GE223.out) | exact HB.out))⟩;clear BK223 HB hq_;have BK223:=n0_;have HB:=n1_;clear n0_ n1_));(try (have hczU223_0 : wc.cell? ⟨gb223,0,none⟩ = some (.int .u8 0):=(blk_cell BK223.out 0).trans rfl));(try (have hczU223_1 : wc.cell? ⟨gb223,1,none⟩ = some (.int .i64 0):=(blk_cell BK223.out 1).trans rfl));(try (have hczU223_2 : wc.cell? ⟨gb223,2,none⟩ = some (.int .i64 0):=(blk_cell BK223.out 2).trans rfl));have hcz42_0 : wc.cell? ⟨gb223,0,none⟩ = some (.int .u8 0):=(blk_cell BK223.out 0).trans rfl;have hcz42_1 : wc.cell? ⟨gb223,1,none⟩ = some (.int .i64 0):=(blk_cell BK223.out 1).trans rfl;have hcz42_2 : wc.cell? ⟨gb223,2,none⟩ = some (.int .i64 0):=(blk_cell BK223.out 2).trans rfl;have hfz42_0:=blk_frozen BK223.out 0;have hfz42_1:=blk_frozen BK223.out 1;have hfz42_2:=blk_frozen BK223.out 2))
                 refine bodyPost_ret (results_cell_row rfl _ _ gb223 71 #[.int .u8 ((wrap64 ((wrap64 (16 * t224)) + t225)) % 256),.int .i64 4,.int .i64 0] (0,0) _ rfl (by (with_reducible repeat (first | refine blk_drewN ?_ _ | refine blk_drew ?_ | refine blk_alloc ?_ _));refine blk_put (cs:=#[.int .u8 ((wrap64 ((wrap64 (16 * t224)) + t225)) % 256),.int .i64 4,.int .i64 0]) ?_ 2 _ rfl;(with_reducible repeat (first | refine blk_drewN ?_ _ | refine blk_drew ?_ | refine blk_alloc ?_ _));refine blk_put (cs:=#[.int .u8 ((wrap64 ((wrap64 (16 * t224)) + t225)) % 256),.int .i64 0,.int .i64 0]) ?_ 1 _ rfl;(with_reducible repeat (first | refine blk_drewN ?_ _ | refine blk_drew ?_ | refine blk_alloc ?_ _));refine blk_put (cs:=#[.int .u8 0,.int .i64 0,.int .i64 0]) ?_ 0 _ rfl;(with_reducible repeat (first | refine blk_drewN ?_ _ | refine blk_drew ?_ | refine blk_alloc ?_ _));exact BK223.out) Try.underlying71 rfl (by kernel_rfl)) rfl ?_
                 exact ⟨by first | rfl | (simp [errW_none,errW_some] <;> rfl) | (simp [*,errW_none,errW_some] <;> rfl),by repeat (first | (with_reducible first | exact HB.out | apply below_alloc | apply pw_below_drewN | apply below_drew1 | refine below_set ?_ GE223.out) | exact HB.out)⟩
               ·rw [if_neg c37] at H
                exact absurd H (by simp)
            ·rw [if_neg c30] at H
             exact absurd H (by simp)
          ·rw [if_neg c27] at H
           have c27b0 : ((bt a0 1) == 120) = false:=beq_eq_false_iff_ne.mpr c27
           have c27b1 : ((bt a0 1) != 120) = true:=bne_iff_ne.mpr c27
           simp only [Option.some.injEq,Prod.mk.injEq] at H
           obtain ⟨rfl,rfl,rfl⟩:=H
           have p23 : 0 ≤ (1 : Int):=(by omega)
           have q23 : 1 < a0.size:=(by have : (1 : Int) < (a0.size : Int):=of_decide_eq_true (by first | (with_reducible assumption) | assumption);omega)
           have hx23 : ∀ h : 1 < a0.size,((a0[1]'h).toNat : Int) = bt a0 1:=bt_at a0 1
           clear p23
           have qi23 : (1 < (a0.size : Int)) = True:=eq_true (of_decide_eq_true (by first | (with_reducible assumption) | assumption))
           replace q23:=eq_true q23
           have p26 : 0 ≤ (1 : Int):=(by omega)
           have q26 : 1 < a0.size:=(by have : (1 : Int) < (a0.size : Int):=of_decide_eq_true (by first | (with_reducible assumption) | assumption);omega)
           have hx26 : ∀ h : 1 < a0.size,((a0[1]'h).toNat : Int) = bt a0 1:=bt_at a0 1
           clear p26
           have qi26 : (1 < (a0.size : Int)) = True:=eq_true (of_decide_eq_true (by first | (with_reducible assumption) | assumption))
           replace q26:=eq_true q26
           have hcz43_0 : wc.cell? ⟨gb223,0,none⟩ = some (.int .u8 0):=(blk_cell BK223.out 0).trans rfl
           have hcz43_1 : wc.cell? ⟨gb223,1,none⟩ = some (.int .i64 0):=(blk_cell BK223.out 1).trans rfl
           have hcz43_2 : wc.cell? ⟨gb223,2,none⟩ = some (.int .i64 0):=(blk_cell BK223.out 2).trans rfl
           have hfz43_0:=blk_frozen BK223.out 0
           have hfz43_1:=blk_frozen BK223.out 1
           have hfz43_2:=blk_frozen BK223.out 2
           go_wp2
           refine bodyPost_ret (results_cell_row rfl _ _ gb223 71 #[.int .u8 0,.int .i64 0,.int .i64 4] (0,0) _ rfl (by (with_reducible repeat (first | refine blk_drewN ?_ _ | refine blk_drew ?_ | refine blk_alloc ?_ _));refine blk_put (cs:=#[.int .u8 0,.int .i64 0,.int .i64 0]) ?_ 2 _ rfl;(with_reducible repeat (first | refine blk_drewN ?_ _ | refine blk_drew ?_ | refine blk_alloc ?_ _));refine blk_put (cs:=#[.int .u8 0,.int .i64 0,.int .i64 0]) ?_ 1 _ rfl;(with_reducible repeat (first | refine blk_drewN ?_ _ | refine blk_drew ?_ | refine blk_alloc ?_ _));refine blk_put (cs:=#[.int .u8 0,.int .i64 0,.int .i64 0]) ?_ 0 _ rfl;(with_reducible repeat (first | refine blk_drewN ?_ _ | refine blk_drew ?_ | refine blk_alloc ?_ _));exact BK223.out) Try.underlying71 rfl (by kernel_rfl)) rfl ?_
           exact ⟨by first | rfl | (simp [errW_none,errW_some] <;> rfl) | (simp [*,errW_none,errW_some] <;> rfl),by repeat (first | (with_reducible first | exact HB.out | apply below_alloc | apply pw_below_drewN | apply below_drew1 | refine below_set ?_ GE223.out) | exact HB.out)⟩
        ·rw [if_neg c22] at H
         exact absurd H (by simp)
   ·rw [if_neg c8] at H
    have c8b0 : ((bt a0 0) == 92) = false:=beq_eq_false_iff_ne.mpr c8
    have c8b1 : ((bt a0 0) != 92) = true:=bne_iff_ne.mpr c8
    simp only [Option.some.injEq,Prod.mk.injEq] at H
    obtain ⟨rfl,rfl,rfl⟩:=H
    go_enter Try.func33,Try.ntmps33
    go_wp2_with (first | ((with_reducible refine gate_dst (N:=2) rfl ?_);refine box_event ?hg (N:=2) ?hd (cs:=#[.int .u8 0,.int .i64 0,.int .i64 0]) (t:=71) ?hr ?_;(case hd => rfl);(case hg => rfl);(case hr => first | (go_simp;done) | (go_simp;rfl));intro gb223 hg w45 hbox hb;have n0_:=Aside0.mk (below_step (by repeat (first | (with_reducible first | exact HB.out | apply below_alloc | apply pw_below_drewN | apply below_drew1) | exact HB.out)) hb);have n1_:=Aside0.mk (hbox);have n2_:=Aside0.mk ((by rw [hg];exact (below_size (by repeat (first | (with_reducible first | exact HB.out | apply below_alloc | apply pw_below_drewN | apply below_drew1) | exact HB.out))) : w.heap.size ≤ gb223));have n3_:=Aside0.mk ((by rw [hg];exact (below_size (by repeat (first | (with_reducible first | exact HB.out | apply below_alloc | apply pw_below_drewN | apply below_drew1) | exact HB.out))) : w.heap.size ≤ gb223));clear HB;have HB:=n0_;have BK223:=n1_;have GW223:=n2_;have GE223:=n3_;clear n0_ n1_ n2_ n3_;clear hb hbox hg;have p3 : 0 ≤ (0 : Int):=(by omega);have q3 : 0 < a0.size:=(by have : (0 : Int) < (a0.size : Int):=of_decide_eq_true (by first | (with_reducible assumption) | assumption);omega);have hx3 : ∀ h : 0 < a0.size,((a0[0]'h).toNat : Int) = bt a0 0:=bt_at a0 0;clear p3;have qi3 : (0 < (a0.size : Int)) = True:=eq_true (of_decide_eq_true (by first | (with_reducible assumption) | assumption));replace q3:=eq_true q3;have p7 : 0 ≤ (0 : Int):=(by omega);have q7 : 0 < a0.size:=(by have : (0 : Int) < (a0.size : Int):=of_decide_eq_true (by first | (with_reducible assumption) | assumption);omega);have hx7 : ∀ h : 0 < a0.size,((a0[0]'h).toNat : Int) = bt a0 0:=bt_at a0 0;clear p7;have qi7 : (0 < (a0.size : Int)) = True:=eq_true (of_decide_eq_true (by first | (with_reducible assumption) | assumption));replace q7:=eq_true q7;have p44 : 0 ≤ (0 : Int):=(by omega);have q44 : 0 < a0.size:=(by have : (0 : Int) < (a0.size : Int):=of_decide_eq_true (by first | (with_reducible assumption) | assumption);omega);have hx44 : ∀ h : 0 < a0.size,((a0[0]'h).toNat : Int) = bt a0 0:=bt_at a0 0;clear p44;have qi44 : (0 < (a0.size : Int)) = True:=eq_true (of_decide_eq_true (by first | (with_reducible assumption) | assumption));replace q44:=eq_true q44;have hcz46_0 : w45.cell? ⟨gb223,0,none⟩ = some (.int .u8 0):=(blk_cell BK223.out 0).trans rfl;have hcz46_1 : w45.cell? ⟨gb223,1,none⟩ = some (.int .i64 0):=(blk_cell BK223.out 1).trans rfl;have hcz46_2 : w45.cell? ⟨gb223,2,none⟩ = some (.int .i64 0):=(blk_cell BK223.out 2).trans rfl;have hfz46_0:=blk_frozen BK223.out 0;have hfz46_1:=blk_frozen BK223.out 1;have hfz46_2:=blk_frozen BK223.out 2))
    refine bodyPost_ret (results_cell_row rfl _ _ gb223 71 #[.int .u8 (bt a0 0),.int .i64 1,.int .i64 0] (0,0) _ rfl (by (with_reducible repeat (first | refine blk_drewN ?_ _ | refine blk_drew ?_ | refine blk_alloc ?_ _));refine blk_put (cs:=#[.int .u8 (bt a0 0),.int .i64 1,.int .i64 0]) ?_ 2 _ rfl;(with_reducible repeat (first | refine blk_drewN ?_ _ | refine blk_drew ?_ | refine blk_alloc ?_ _));refine blk_put (cs:=#[.int .u8 (bt a0 0),.int .i64 0,.int .i64 0]) ?_ 1 _ rfl;(with_reducible repeat (first | refine blk_drewN ?_ _ | refine blk_drew ?_ | refine blk_alloc ?_ _));refine blk_put (cs:=#[.int .u8 0,.int .i64 0,.int .i64 0]) ?_ 0 _ rfl;(with_reducible repeat (first | refine blk_drewN ?_ _ | refine blk_drew ?_ | refine blk_alloc ?_ _));exact BK223.out) Try.underlying71 rfl (by kernel_rfl)) rfl ?_
    exact ⟨by first | rfl | (simp [errW_none,errW_some] <;> rfl) | (simp [*,errW_none,errW_some] <;> rfl),by repeat (first | (with_reducible first | exact HB.out | apply below_alloc | apply pw_below_drewN | apply below_drew1 | refine below_set ?_ GE223.out) | exact HB.out)⟩
 ·rw [if_neg c2] at H
  exact absurd H (by simp)

end Go.Proofs.Ytjfklfmfeghjnac.PL
