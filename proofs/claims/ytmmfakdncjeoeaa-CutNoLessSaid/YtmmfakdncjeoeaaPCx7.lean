-- Contracts of Go functions, each with its plain Lean function: written by wip/tools/myprint.py of this work (the kit's print, with contracts proved by hand spliced in).
import Derived.Test.YtmmfakdncjeoeaaPCx0
import Derived.Test.YtmmfakdncjeoeaaPCx6
namespace Go.Proofs.Ytmmfakdncjeoeaa.PC
open Go.RowKit Go.Proofs.YtmmfakdncjeoeaaW.PrintWords Go.Proofs.YtmmfakdncjeoeaaW.PrintLast Go.Proofs.YtmmfakdncjeoeaaW.PrintMore
attribute [local go_sem] max2_int min2_int max_two min_two max_three min_three max_four min_four   -- for this text's walks alone
set_option linter.unusedVariables false
set_option linter.unusedSimpArgs false

/-! ### trace_Clone: function 38 -/
mutual
def trace_Clone.l0 : Nat → List (S56) → List (S56) → Int → Int → Option ((List (S56)))
 | 0, _, _, _, _ => none
 | k + 1, x3, x9, x10, x11 => if x11 < x10 then (if 0 ≤ x11 then (if x11 < (x9.length : Int) then (trace_Clone.l1 k x3 x9 x10 x11 ((rd_T56 x9 x11).f1) (((rd_T56 x9 x11).f1).length : Int) 0 ((rd_T56 x9 x11).f0) ([] : List (S59))) else (none)) else (none)) else (some x3)
def trace_Clone.l1 : Nat → List (S56) → List (S56) → Int → Int → List (S59) → Int → Int → Int → List (S59) → Option ((List (S56)))
 | 0, _, _, _, _, _, _, _, _, _ => none
 | k + 1, x3, x9, x10, x11, x19, x20, x21, x205000, x205001 => if x21 < x20 then (if 0 ≤ x21 then (if x21 < (x19.length : Int) then ((api_Arg.f ((rd_T59 x19 x21).f1)).bind fun t207 => (if x205001.length < 4398046511104 then (trace_Clone.l1 k x3 x9 x10 x11 x19 x20 (wrap64 (x21 + 1)) x205000 (x205001 ++ [(⟨(rd_T59 x19 x21).f0, t207⟩ : S59)])) else (none))) else (none)) else (none)) else (if x3.length < 4398046511104 then (trace_Clone.l0 k (x3 ++ [(⟨x205000, x205001⟩ : S56)]) x9 x10 (wrap64 (x11 + 1))) else (none))
end
def trace_Clone.f (k : Nat) (l0 : List (S56)) : Option ((List (S56))) := trace_Clone.l0 k ([] : List (S56)) l0 (l0.length : Int) 0
theorem trace_Clone.mono_l : ∀ k, (∀ y0 y1 y2 y3, LeO (trace_Clone.l0 k y0 y1 y2 y3) (trace_Clone.l0 (k + 1) y0 y1 y2 y3)) ∧ (∀ y0 y1 y2 y3 y4 y5 y6 y7 y8, LeO (trace_Clone.l1 k y0 y1 y2 y3 y4 y5 y6 y7 y8) (trace_Clone.l1 (k + 1) y0 y1 y2 y3 y4 y5 y6 y7 y8))
 | 0 => ⟨fun _ _ _ _ r h => by simp [trace_Clone.l0] at h, fun _ _ _ _ _ _ _ _ _ r h => by simp [trace_Clone.l1] at h⟩
 | k + 1 => by
  obtain ⟨ih0, ih1⟩ := trace_Clone.mono_l k
  refine ⟨?_, ?_⟩
  ·intro y0 y1 y2 y3
   unfold trace_Clone.l0
   repeat' first
   | (with_reducible exact ih0 _ _ _ _)
   | (with_reducible exact ih1 _ _ _ _ _ _ _ _ _)
   | (with_reducible exact LeO.refl _)
   | (with_reducible exact LeO.none _)
   | (with_reducible refine LeO.ite ?_ ?_)
   | (with_reducible refine LeO.bind ?_ (fun _ => ?_))
   | exact ih0 _ _ _ _
   | exact ih1 _ _ _ _ _ _ _ _ _
   | exact LeO.none _
   | refine LeO.ite ?_ ?_
   | refine LeO.bind ?_ (fun _ => ?_)
  ·intro y0 y1 y2 y3 y4 y5 y6 y7 y8
   unfold trace_Clone.l1
   repeat' first
   | (with_reducible exact ih0 _ _ _ _)
   | (with_reducible exact ih1 _ _ _ _ _ _ _ _ _)
   | (with_reducible exact LeO.refl _)
   | (with_reducible exact LeO.none _)
   | (with_reducible refine LeO.ite ?_ ?_)
   | (with_reducible refine LeO.bind ?_ (fun _ => ?_))
   | exact ih0 _ _ _ _
   | exact ih1 _ _ _ _ _ _ _ _ _
   | exact LeO.none _
   | refine LeO.ite ?_ ?_
   | refine LeO.bind ?_ (fun _ => ?_)
theorem trace_Clone.mono : ∀ a0 k, LeO (trace_Clone.f k a0) (trace_Clone.f (k + 1) a0) := by
 intro a0 k
 obtain ⟨ih0, ih1⟩ := trace_Clone.mono_l k
 unfold trace_Clone.f
 repeat' first
   | (with_reducible exact ih0 _ _ _ _)
   | (with_reducible exact ih1 _ _ _ _ _ _ _ _ _)
   | (with_reducible exact LeO.refl _)
   | (with_reducible exact LeO.none _)
   | (with_reducible refine LeO.ite ?_ ?_)
   | (with_reducible refine LeO.bind ?_ (fun _ => ?_))
   | exact ih0 _ _ _ _
   | exact ih1 _ _ _ _ _ _ _ _ _
   | exact LeO.none _
   | refine LeO.ite ?_ ?_
   | refine LeO.bind ?_ (fun _ => ?_)
def trace_Clone.T9 : Bool × List (List Nat × List Nat) := (true, [([], []), ([0], [0]), ([], []), ([2], [2]), ([], []), ([4], [4]), ([5], [5]), ([3, 6], [3, 6]), ([7], [7]), ([1, 8, 6], [1, 8]), ([0, 1, 2, 3, 4, 5, 6, 7, 8, 9], []), ([10, 9, 9, 0, 1, 2, 3, 4, 5, 6, 7, 8, 9], [9, 10])])
def trace_Clone.B9 : List Nat := [0, 1, 0, 4, 0, 16, 48, 124, 252, 511, 1023, 2047]
theorem trace_Clone.tab9 : rtab .any (opsOf Try.f38 9) = trace_Clone.T9 := by kernel_rfl
theorem trace_Clone.bits9 : waitsOk trace_Clone.T9.2 trace_Clone.B9 = true := by kernel_rfl
set_option maxHeartbeats 8000000 in
set_option maxRecDepth 100000 in
theorem trace_Clone.calls (k : Nat) (A0 : Option Addr) (c0 : Nat) (l0 : List (S56)) (r : List (S56)) (w : World) (hr0 : Kd.C k56 w A0 l0.length l0) (hc0 : l0.length ≤ c0) (h : trace_Clone.f k l0 = some r) :
  Calls Try.prog 38 #[.slice A0 l0.length c0] w fun e w' => ∃ v0_ : Value,e = .returned (v0_) ∧ Kd.R k56 56 w' w.heap.size (fun _ => True) v0_ r ∧ Below w.heap.size w w':=by
 have hu56:=Try.underlying56
 have hu59:=Try.underlying59
 have HR0:=Aside0.mk hr0
 have HC0:=Aside0.mk hc0
 clear hr0 hc0
 have HB:=Aside0.mk (Below.refl w.heap.size w)
 have H : (trace_Clone.l0 k ([] : List (S56)) l0 (l0.length : Int) 0) = some r:=h
 clear h
 have H':=Aside0.mk H
 clear H
 go_enter Try.func38,Try.ntmps38
 go_wp2
 go_loopg [3,11] k (fun kq v3 v11 w' => ∃ (x3_1 : List (S56)) (x11_1 : Int),v11 = .int .i64 x11_1 ∧ Aside0 (trace_Clone.l0 kq x3_1 l0 (l0.length : Int) x11_1 = some r) ∧ Aside0 (kq ≤ k) ∧ Aside0 (Kd.R k56 56 w' w.heap.size (fun _ => True) v3 x3_1) ∧ Aside0 (Below w.heap.size w w'))
 case atStart => exact ⟨(([] : List (S56))),(0),(by first | rfl | (simp;done) | (simp [*];done)),H',⟨Nat.le_refl _⟩,⟨by first | exact Kd.R_nil _ _ _ _ _ | exact Kd.N_nil _ _ _ _ _ | exact Kd.V_nil _ _ _ _ _ | exact Kd.Q_nil _ _ _ _ _ | exact Kd.S_nil _ _ _ _ _⟩,⟨by repeat (first | (with_reducible first | exact HB.out | apply below_alloc | apply pw_below_drewN | apply below_drew1) | exact HB.out)⟩⟩
 case round =>
  clear H'
  obtain ⟨x3_1,x11_1,rfl,HA,HK1,HO_3,HB⟩:=hrel
  cases gk with
  | zero => exact absurd HA.out (by simp [trace_Clone.l0])
  | succ k1 =>
   have H:=HA.out
   clear HA
   simp only [trace_Clone.l0] at H
   by_cases c2 : x11_1 < (l0.length : Int)
   ·rw [if_pos c2] at H
    have c2b0 : decide (x11_1 < (l0.length : Int)) = true:=decide_eq_true c2
    clear c2
    by_cases c3 : 0 ≤ x11_1
    ·rw [if_pos c3] at H
     have c3b0 : decide (0 ≤ x11_1) = true:=decide_eq_true c3
     clear c3
     by_cases c4 : x11_1 < (l0.length : Int)
     ·rw [if_pos c4] at H
      have c4b0 : decide (x11_1 < (l0.length : Int)) = true:=decide_eq_true c4
      clear c4
      have H':=Aside0.mk H
      clear H
      have p202 : 0 ≤ (x11_1 : Int):=of_decide_eq_true (by first | (with_reducible assumption) | assumption)
      have q202 : x11_1 < (l0.length : Int):=of_decide_eq_true (by first | (with_reducible assumption) | assumption)
      obtain ⟨ad202,A202_1,c202_1,e202,hx202_0,hx202_1,hl202_1,hi202_1⟩:=at_T56 HR0.out x11_1 p202 q202
      cases e202
      replace hx202_0:=(HB.out.cell (World.block_lt_of_cell? w _ hx202_0)).trans hx202_0
      replace hx202_1:=(HB.out.cell (World.block_lt_of_cell? w _ hx202_1)).trans hx202_1
      have HR202_1:=Aside0.mk hi202_1
      have HC202_1:=Aside0.mk hl202_1
      clear hi202_1 hl202_1
      replace p202:=eq_true p202
      replace q202:=eq_true q202
      go_wp2_with (first | ((with_reducible refine gate_dst (N:=5) rfl ?_);refine box_event ?hg (N:=5) ?hd (cs:=#[.int .u64 0,.slice none 0 0]) (t:=56) ?hr ?_;(case hd => rfl);(case hg => rfl);(case hr => first | (go_simp;done) | (go_simp;rfl));intro gb203 hg w5 hbox hb;have n0_:=Aside0.mk (Kd.R_below (Kd.R_elderB (by (with_reducible repeat (first | apply Kd.R_alloc | apply Kd.R_drewN | apply Kd.R_drew));exact HO_3.out) gb203 (Nat.le_of_eq hg.symm)) hb);have n1_:=Aside0.mk (below_step (by repeat (first | (with_reducible first | exact HB.out | apply below_alloc | apply pw_below_drewN | apply below_drew1) | exact HB.out)) hb);have n2_:=Aside0.mk (hbox);have n3_:=Aside0.mk ((by rw [hg];exact (below_size (by repeat (first | (with_reducible first | exact HB.out | apply below_alloc | apply pw_below_drewN | apply below_drew1) | exact HB.out))) : w.heap.size ≤ gb203));have n4_:=Aside0.mk ((by rw [hg];exact (below_size (by repeat (first | (with_reducible first | exact HB.out | apply below_alloc | apply pw_below_drewN | apply below_drew1) | exact HB.out))) : w.heap.size ≤ gb203));clear HO_3;clear HB;have HO_3:=n0_;have HB:=n1_;have BK203:=n2_;have GW203:=n3_;have GE203:=n4_;clear n0_ n1_ n2_ n3_ n4_;clear hb hbox hg;have hcz6_0 : w5.cell? ⟨gb203,0,none⟩ = some (.int .u64 0):=(blk_cell BK203.out 0).trans rfl;have hcz6_1 : w5.cell? ⟨gb203,1,none⟩ = some (.slice none 0 0):=(blk_cell BK203.out 1).trans rfl;have hfz6_0:=blk_frozen BK203.out 0;have hfz6_1:=blk_frozen BK203.out 1) | ((with_reducible refine gate_dst (N:=6) rfl ?_);refine box_event ?hg (N:=6) ?hd (cs:=#[.int .u64 0,.slice none 0 0]) (t:=56) ?hr ?_;(case hd => rfl);(case hg => rfl);(case hr => first | (go_simp;done) | (go_simp;rfl));intro gb204 hg w7 hbox hb;have n0_:=Aside0.mk (Kd.R_below (Kd.R_elderB (by (with_reducible repeat (first | apply Kd.R_alloc | apply Kd.R_drewN | apply Kd.R_drew));exact (Kd.R_mono (Kd.R_far (p:=⟨gb203,1,none⟩) (Kd.R_far (p:=⟨gb203,0,none⟩) (Kd.R_mono HO_3.out (fun k_ hk => (⟨hk,hk.2⟩ : _ ∧ k_ ≠ gb203))) (fun _ hk => hk.2) (.int .u64 ((rd_T56 l0 x11_1).f0))) (fun _ hk => hk.2) (.slice A202_1 ((rd_T56 l0 x11_1).f1).length c202_1)) (fun _ h_ => h_.1))) gb204 (Nat.le_of_eq hg.symm)) hb);have n1_:=Aside0.mk (blk_below (g:=gb203) (o:=.cells #[.int .u64 ((rd_T56 l0 x11_1).f0),.slice A202_1 ((rd_T56 l0 x11_1).f1).length c202_1] 56 (0,0)) (by (with_reducible repeat (first | refine blk_drewN ?_ _ | refine blk_drew ?_ | refine blk_alloc ?_ _));refine blk_put (cs:=#[.int .u64 ((rd_T56 l0 x11_1).f0),.slice none 0 0]) ?_ 1 _ rfl;(with_reducible repeat (first | refine blk_drewN ?_ _ | refine blk_drew ?_ | refine blk_alloc ?_ _));refine blk_put (cs:=#[.int .u64 0,.slice none 0 0]) ?_ 0 _ rfl;(with_reducible repeat (first | refine blk_drewN ?_ _ | refine blk_drew ?_ | refine blk_alloc ?_ _));exact BK203.out) hb);have n2_:=Aside0.mk (below_step (by repeat (first | (with_reducible first | exact HB.out | apply below_alloc | apply pw_below_drewN | apply below_drew1 | refine below_set ?_ GE203.out) | exact HB.out)) hb);have n3_:=Aside0.mk (hbox);have n4_:=Aside0.mk ((by rw [hg];exact (below_size (by repeat (first | (with_reducible first | exact HB.out | apply below_alloc | apply pw_below_drewN | apply below_drew1 | refine below_set ?_ GE203.out) | exact HB.out))) : w.heap.size ≤ gb204));have n5_:=Aside0.mk ((by rw [hg];exact (below_size (by repeat (first | (with_reducible first | exact HB.out | apply below_alloc | apply pw_below_drewN | apply below_drew1 | refine below_set ?_ GE203.out) | exact HB.out))) : w.heap.size ≤ gb204));have n6_:=Aside0.mk ((by rw [hg];exact Nat.ne_of_lt (blk_lt (g:=gb203) (o:=.cells #[.int .u64 ((rd_T56 l0 x11_1).f0),.slice A202_1 ((rd_T56 l0 x11_1).f1).length c202_1] 56 (0,0)) (by (with_reducible repeat (first | refine blk_drewN ?_ _ | refine blk_drew ?_ | refine blk_alloc ?_ _));refine blk_put (cs:=#[.int .u64 ((rd_T56 l0 x11_1).f0),.slice none 0 0]) ?_ 1 _ rfl;(with_reducible repeat (first | refine blk_drewN ?_ _ | refine blk_drew ?_ | refine blk_alloc ?_ _));refine blk_put (cs:=#[.int .u64 0,.slice none 0 0]) ?_ 0 _ rfl;(with_reducible repeat (first | refine blk_drewN ?_ _ | refine blk_drew ?_ | refine blk_alloc ?_ _));exact BK203.out)) : gb203 ≠ gb204));have n7_:=Aside0.mk ((by rw [hg];exact Nat.ne_of_gt (blk_lt (g:=gb203) (o:=.cells #[.int .u64 ((rd_T56 l0 x11_1).f0),.slice A202_1 ((rd_T56 l0 x11_1).f1).length c202_1] 56 (0,0)) (by (with_reducible repeat (first | refine blk_drewN ?_ _ | refine blk_drew ?_ | refine blk_alloc ?_ _));refine blk_put (cs:=#[.int .u64 ((rd_T56 l0 x11_1).f0),.slice none 0 0]) ?_ 1 _ rfl;(with_reducible repeat (first | refine blk_drewN ?_ _ | refine blk_drew ?_ | refine blk_alloc ?_ _));refine blk_put (cs:=#[.int .u64 0,.slice none 0 0]) ?_ 0 _ rfl;(with_reducible repeat (first | refine blk_drewN ?_ _ | refine blk_drew ?_ | refine blk_alloc ?_ _));exact BK203.out)) : gb204 ≠ gb203));clear HO_3;clear BK203;clear HB;have HO_3:=n0_;have BK203:=n1_;have HB:=n2_;have BK204:=n3_;have GW204:=n4_;have GE204:=n5_;have NB203_204:=n6_;have NB204_203:=n7_;clear n0_ n1_ n2_ n3_ n4_ n5_ n6_ n7_;clear hb hbox hg;have hnb8:=NB204_203.out;have hnc8:=NB203_204.out;have hcz9_0 : w7.cell? ⟨gb204,0,none⟩ = some (.int .u64 0):=(blk_cell BK204.out 0).trans rfl;have hcz9_1 : w7.cell? ⟨gb204,1,none⟩ = some (.slice none 0 0):=(blk_cell BK204.out 1).trans rfl;have hfz9_0:=blk_frozen BK204.out 0;have hfz9_1:=blk_frozen BK204.out 1;have hcz10_0 : w7.cell? ⟨gb203,0,none⟩ = some (.int .u64 ((rd_T56 l0 x11_1).f0)):=(blk_cell BK203.out 0).trans rfl;have hcz10_1 : w7.cell? ⟨gb203,1,none⟩ = some (.slice A202_1 ((rd_T56 l0 x11_1).f1).length c202_1):=(blk_cell BK203.out 1).trans rfl;have hfz10_0:=blk_frozen BK203.out 0;have hfz10_1:=blk_frozen BK203.out 1))
      go_loopg [21] k1 (fun kq v21 w' => ∃ (x21_2 : Int) (x205001_2 : List (S59)) (u205001 : Value),v21 = .int .i64 x21_2 ∧ Aside0 (trace_Clone.l1 kq x3_1 l0 (l0.length : Int) x11_1 ((rd_T56 l0 x11_1).f1) (((rd_T56 l0 x11_1).f1).length : Int) x21_2 ((rd_T56 l0 x11_1).f0) x205001_2 = some r) ∧ Aside0 (kq ≤ k1) ∧ Aside0 (Kd.R k56 56 w' w.heap.size (fun k_ => some k_ ≠ (u205001 : Value).ownBlock ∧ k_ ≠ gb203 ∧ k_ ≠ gb204) u3 x3_1) ∧ Aside0 (Kd.S k59 59 w' w.heap.size (fun _ => True) u205001 x205001_2) ∧ Aside0 (w'.heap[gb203]? = some (.cells #[.int .u64 ((rd_T56 l0 x11_1).f0),(.slice A202_1 ((rd_T56 l0 x11_1).f1).length c202_1)] 56 (0,0))) ∧ Aside0 (w'.heap[gb204]? = some (.cells #[.int .u64 ((rd_T56 l0 x11_1).f0),u205001] 56 (0,0))) ∧ Aside0 (Below w.heap.size w w'))
      case atStart => exact ⟨(0),(([] : List (S59))),(.slice none 0 0),(by first | rfl | (simp;done) | (simp [*];done)),H',⟨Nat.le_refl _⟩,⟨by (with_reducible repeat (first | apply Kd.R_alloc | apply Kd.R_drewN | apply Kd.R_drew));exact Kd.R_mono (Kd.R_far (p:=⟨gb204,1,none⟩) (Kd.R_far (p:=⟨gb204,0,none⟩) (Kd.R_mono HO_3.out (fun k_ hk => (⟨hk,hk.2⟩ : _ ∧ k_ ≠ gb204))) (fun _ hk => hk.2) (.int .u64 ((rd_T56 l0 x11_1).f0))) (fun _ hk => hk.2) (.slice none 0 0)) (fun _ hk => ⟨(by simp [Value.ownBlock]),⟨hk.1.1.2,hk.1.2⟩⟩)⟩,⟨by first | exact Kd.S_nil _ _ _ _ _ | exact Kd.N_nil _ _ _ _ _ | exact Kd.V_nil _ _ _ _ _ | exact Kd.Q_nil _ _ _ _ _ | exact Kd.R_nil _ _ _ _ _⟩,⟨by (with_reducible repeat (first | refine blk_drewN ?_ _ | refine blk_drew ?_ | refine blk_alloc ?_ _));refine blk_far ?_ NB203_204.out _;(with_reducible repeat (first | refine blk_drewN ?_ _ | refine blk_drew ?_ | refine blk_alloc ?_ _));refine blk_far ?_ NB203_204.out _;(with_reducible repeat (first | refine blk_drewN ?_ _ | refine blk_drew ?_ | refine blk_alloc ?_ _));exact BK203.out⟩,⟨by (with_reducible repeat (first | refine blk_drewN ?_ _ | refine blk_drew ?_ | refine blk_alloc ?_ _));refine blk_put (cs:=#[.int .u64 ((rd_T56 l0 x11_1).f0),.slice none 0 0]) ?_ 1 _ rfl;(with_reducible repeat (first | refine blk_drewN ?_ _ | refine blk_drew ?_ | refine blk_alloc ?_ _));refine blk_put (cs:=#[.int .u64 0,.slice none 0 0]) ?_ 0 _ rfl;(with_reducible repeat (first | refine blk_drewN ?_ _ | refine blk_drew ?_ | refine blk_alloc ?_ _));exact BK204.out⟩,⟨by repeat (first | (with_reducible first | exact HB.out | apply below_alloc | apply pw_below_drewN | apply below_drew1 | refine below_set ?_ GE203.out | refine below_set ?_ GE204.out) | exact HB.out)⟩⟩
      case round =>
       clear H'
       try clear c2
       try clear c2b0
       try clear p2
       try clear q2
       try clear hx2
       try clear c3
       try clear c3b0
       try clear c4
       try clear c4b0
       try clear c8
       try clear hcz10_0
       try clear hcz10_1
       try clear hcz6_0
       try clear hcz6_1
       try clear hcz9_0
       try clear hcz9_1
       try clear hfz10_0
       try clear hfz10_1
       try clear hfz6_0
       try clear hfz6_1
       try clear hfz9_0
       try clear hfz9_1
       try clear hx202_0
       try clear hx202_1
       try clear p202
       try clear q202
       obtain ⟨x21_2,x205001_2,u205001,rfl,HA,HK2,HO_3,HO_205001,BK203,BK204,HB⟩:=hrel
       cases gk with
       | zero => exact absurd HA.out (by simp [trace_Clone.l1])
       | succ k2 =>
        have H:=HA.out
        clear HA
        simp only [trace_Clone.l1] at H
        by_cases c11 : x21_2 < (((rd_T56 l0 x11_1).f1).length : Int)
        ·rw [if_pos c11] at H
         have c11b0 : decide (x21_2 < (((rd_T56 l0 x11_1).f1).length : Int)) = true:=decide_eq_true c11
         clear c11
         by_cases c12 : 0 ≤ x21_2
         ·rw [if_pos c12] at H
          have c12b0 : decide (0 ≤ x21_2) = true:=decide_eq_true c12
          clear c12
          by_cases c13 : x21_2 < (((rd_T56 l0 x11_1).f1).length : Int)
          ·rw [if_pos c13] at H
           have c13b0 : decide (x21_2 < (((rd_T56 l0 x11_1).f1).length : Int)) = true:=decide_eq_true c13
           clear c13
           replace H:=Option.bind_eq_some_iff.mp H
           obtain ⟨t207,A140,H⟩:=H
           replace H : (if x205001_2.length < 4398046511104 then (trace_Clone.l1 k2 x3_1 l0 (l0.length : Int) x11_1 ((rd_T56 l0 x11_1).f1) (((rd_T56 l0 x11_1).f1).length : Int) (wrap64 (x21_2 + 1)) ((rd_T56 l0 x11_1).f0) (x205001_2 ++ [(⟨(rd_T59 ((rd_T56 l0 x11_1).f1) x21_2).f0,t207⟩ : S59)])) else (none)) = some r:=H
           have A14:=Aside0.mk A140
           clear A140
           by_cases c15 : x205001_2.length < 4398046511104
           ·rw [if_pos c15] at H
            have LMc15:=Aside0.mk c15
            clear c15
            obtain ⟨y210,hy210⟩ : ∃ y_ : List (S59),y_ = (x205001_2 ++ [(⟨(rd_T59 ((rd_T56 l0 x11_1).f1) x21_2).f0,t207⟩ : S59)]):=⟨_,rfl⟩
            replace H : (trace_Clone.l1 k2 x3_1 l0 (l0.length : Int) x11_1 ((rd_T56 l0 x11_1).f1) (((rd_T56 l0 x11_1).f1).length : Int) (wrap64 (x21_2 + 1)) ((rd_T56 l0 x11_1).f0) y210) = some r:=by first | (rw [hy210];with_reducible exact H) | (have H2_:=(Option.bind_some _ _).symm.trans H;rw [hy210];with_reducible exact H2_) | (have H2_:=(Option.bind_some _ _).symm.trans H;with_reducible exact H2_) | with_reducible exact H | (rw [hy210];exact H) | exact H
            have Ny210:=Aside0.mk hy210
            clear hy210
            have H':=Aside0.mk H
            clear H
            have p205 : 0 ≤ (x21_2 : Int):=of_decide_eq_true (by first | (with_reducible assumption) | assumption)
            have q205 : x21_2 < (((rd_T56 l0 x11_1).f1).length : Int):=of_decide_eq_true (by first | (with_reducible assumption) | assumption)
            obtain ⟨ad205,A205_1,c205_1,e205,hx205_0,hx205_1,hl205_1,hi205_1⟩:=at_T59 HR202_1.out x21_2 p205 q205
            cases e205
            replace hx205_0:=(HB.out.cell (World.block_lt_of_cell? w _ hx205_0)).trans hx205_0
            replace hx205_1:=(HB.out.cell (World.block_lt_of_cell? w _ hx205_1)).trans hx205_1
            have HR205_1:=Aside0.mk hi205_1
            have HC205_1:=Aside0.mk hl205_1
            clear hi205_1 hl205_1
            replace p205:=eq_true p205
            replace q205:=eq_true q205
            try go_wp2_with (first | ((with_reducible refine gate_dst (N:=8) rfl ?_);refine box_event ?hg (N:=8) ?hd (cs:=#[.int .i64 0,.slice none 0 0]) (t:=59) ?hr ?_;(case hd => rfl);(case hg => rfl);(case hr => first | (go_simp;done) | (go_simp;rfl));intro gb206 hg w16 hbox hb;have n0_:=Aside0.mk (Kd.R_below (Kd.R_elderB (by (with_reducible repeat (first | apply Kd.R_alloc | apply Kd.R_drewN | apply Kd.R_drew));exact HO_3.out) gb206 (Nat.le_of_eq hg.symm)) hb);have n1_:=Aside0.mk (Kd.S_below (Kd.S_elderB (by (with_reducible repeat (first | apply Kd.S_alloc | apply Kd.S_drewN | apply Kd.S_drew));exact HO_205001.out) gb206 (Nat.le_of_eq hg.symm)) hb);have n2_:=Aside0.mk (blk_below (g:=gb203) (o:=.cells #[.int .u64 ((rd_T56 l0 x11_1).f0),.slice (some ad205) ((rd_T56 l0 x11_1).f1).length c202_1] 56 (0,0)) (by (with_reducible repeat (first | refine blk_drewN ?_ _ | refine blk_drew ?_ | refine blk_alloc ?_ _));exact BK203.out) hb);have n3_:=Aside0.mk (blk_below (g:=gb204) (o:=.cells #[.int .u64 ((rd_T56 l0 x11_1).f0),u205001] 56 (0,0)) (by (with_reducible repeat (first | refine blk_drewN ?_ _ | refine blk_drew ?_ | refine blk_alloc ?_ _));exact BK204.out) hb);have n4_:=Aside0.mk (below_step (by repeat (first | (with_reducible first | exact HB.out | apply below_alloc | apply pw_below_drewN | apply below_drew1 | refine below_set ?_ GE203.out | refine below_set ?_ GE204.out) | exact HB.out)) hb);have n5_:=Aside0.mk (hbox);have n6_:=Aside0.mk ((by rw [hg];exact (below_size (by repeat (first | (with_reducible first | exact HB.out | apply below_alloc | apply pw_below_drewN | apply below_drew1 | refine below_set ?_ GE203.out | refine below_set ?_ GE204.out) | exact HB.out))) : w.heap.size ≤ gb206));have n7_:=Aside0.mk ((by rw [hg];exact (below_size (by repeat (first | (with_reducible first | exact HB.out | apply below_alloc | apply pw_below_drewN | apply below_drew1 | refine below_set ?_ GE203.out | refine below_set ?_ GE204.out) | exact HB.out))) : w.heap.size ≤ gb206));have n8_:=Aside0.mk ((by rw [hg];exact Nat.ne_of_lt (blk_lt (g:=gb203) (o:=.cells #[.int .u64 ((rd_T56 l0 x11_1).f0),.slice (some ad205) ((rd_T56 l0 x11_1).f1).length c202_1] 56 (0,0)) (by (with_reducible repeat (first | refine blk_drewN ?_ _ | refine blk_drew ?_ | refine blk_alloc ?_ _));exact BK203.out)) : gb203 ≠ gb206));have n9_:=Aside0.mk ((by rw [hg];exact Nat.ne_of_gt (blk_lt (g:=gb203) (o:=.cells #[.int .u64 ((rd_T56 l0 x11_1).f0),.slice (some ad205) ((rd_T56 l0 x11_1).f1).length c202_1] 56 (0,0)) (by (with_reducible repeat (first | refine blk_drewN ?_ _ | refine blk_drew ?_ | refine blk_alloc ?_ _));exact BK203.out)) : gb206 ≠ gb203));have n10_:=Aside0.mk ((by rw [hg];exact Nat.ne_of_lt (blk_lt (g:=gb204) (o:=.cells #[.int .u64 ((rd_T56 l0 x11_1).f0),u205001] 56 (0,0)) (by (with_reducible repeat (first | refine blk_drewN ?_ _ | refine blk_drew ?_ | refine blk_alloc ?_ _));exact BK204.out)) : gb204 ≠ gb206));have n11_:=Aside0.mk ((by rw [hg];exact Nat.ne_of_gt (blk_lt (g:=gb204) (o:=.cells #[.int .u64 ((rd_T56 l0 x11_1).f0),u205001] 56 (0,0)) (by (with_reducible repeat (first | refine blk_drewN ?_ _ | refine blk_drew ?_ | refine blk_alloc ?_ _));exact BK204.out)) : gb206 ≠ gb204));clear HO_3;clear HO_205001;clear BK203;clear BK204;clear HB;have HO_3:=n0_;have HO_205001:=n1_;have BK203:=n2_;have BK204:=n3_;have HB:=n4_;have BK206:=n5_;have GW206:=n6_;have GE206:=n7_;have NB203_206:=n8_;have NB206_203:=n9_;have NB204_206:=n10_;have NB206_204:=n11_;clear n0_ n1_ n2_ n3_ n4_ n5_ n6_ n7_ n8_ n9_ n10_ n11_;clear hb hbox hg;have hnb17:=NB206_203.out;have hnc17:=NB203_206.out;have hnb18:=NB206_204.out;have hnc18:=NB204_206.out;have hcz19_0 : w16.cell? ⟨gb206,0,none⟩ = some (.int .i64 0):=(blk_cell BK206.out 0).trans rfl;have hcz19_1 : w16.cell? ⟨gb206,1,none⟩ = some (.slice none 0 0):=(blk_cell BK206.out 1).trans rfl;have hfz19_0:=blk_frozen BK206.out 0;have hfz19_1:=blk_frozen BK206.out 1))
            have n0_ : Aside0 (Kd.R k56 56 ((w16.setCell ⟨gb206,0,none⟩ (.int .i64 ((rd_T59 ((rd_T56 l0 x11_1).f1) x21_2).f0))).setCell ⟨gb206,1,none⟩ (.slice A205_1 ((rd_T59 ((rd_T56 l0 x11_1).f1) x21_2).f1).length c205_1)) w.heap.size (fun k_ => some k_ ≠ (u205001 : Value).ownBlock ∧ k_ ≠ gb203 ∧ k_ ≠ gb204 ∧ k_ ≠ gb206) u3 x3_1):=⟨by (with_reducible repeat (first | apply Kd.R_alloc | apply Kd.R_drewN | apply Kd.R_drew));exact Kd.R_mono (Kd.R_far (p:=⟨gb206,1,none⟩) (Kd.R_far (p:=⟨gb206,0,none⟩) (Kd.R_mono HO_3.out (fun k_ hk => (⟨hk,hk.2⟩ : _ ∧ k_ ≠ gb206))) (fun _ hk => hk.2) (.int .i64 ((rd_T59 ((rd_T56 l0 x11_1).f1) x21_2).f0))) (fun _ hk => hk.2) (.slice A205_1 ((rd_T59 ((rd_T56 l0 x11_1).f1) x21_2).f1).length c205_1)) (fun _ hk => ⟨hk.1.1.1,⟨hk.1.1.2.1,⟨hk.1.1.2.2,hk.1.2⟩⟩⟩)⟩
            have n1_ : Aside0 (Kd.S k59 59 ((w16.setCell ⟨gb206,0,none⟩ (.int .i64 ((rd_T59 ((rd_T56 l0 x11_1).f1) x21_2).f0))).setCell ⟨gb206,1,none⟩ (.slice A205_1 ((rd_T59 ((rd_T56 l0 x11_1).f1) x21_2).f1).length c205_1)) w.heap.size (fun k_ => k_ ≠ gb206) u205001 x205001_2):=⟨by (with_reducible repeat (first | apply Kd.S_alloc | apply Kd.S_drewN | apply Kd.S_drew));exact Kd.S_mono (Kd.S_far (p:=⟨gb206,1,none⟩) (Kd.S_far (p:=⟨gb206,0,none⟩) (Kd.S_mono HO_205001.out (fun k_ hk => (⟨hk,hk.2⟩ : _ ∧ k_ ≠ gb206))) (fun _ hk => hk.2) (.int .i64 ((rd_T59 ((rd_T56 l0 x11_1).f1) x21_2).f0))) (fun _ hk => hk.2) (.slice A205_1 ((rd_T59 ((rd_T56 l0 x11_1).f1) x21_2).f1).length c205_1)) (fun _ hk => hk.1.2)⟩
            have n2_ : Aside0 (((w16.setCell ⟨gb206,0,none⟩ (.int .i64 ((rd_T59 ((rd_T56 l0 x11_1).f1) x21_2).f0))).setCell ⟨gb206,1,none⟩ (.slice A205_1 ((rd_T59 ((rd_T56 l0 x11_1).f1) x21_2).f1).length c205_1)).heap[gb203]? = some (.cells #[.int .u64 ((rd_T56 l0 x11_1).f0),.slice (some ad205) ((rd_T56 l0 x11_1).f1).length c202_1] 56 (0,0))):=⟨by (with_reducible repeat (first | refine blk_drewN ?_ _ | refine blk_drew ?_ | refine blk_alloc ?_ _));refine blk_far ?_ NB203_206.out _;(with_reducible repeat (first | refine blk_drewN ?_ _ | refine blk_drew ?_ | refine blk_alloc ?_ _));refine blk_far ?_ NB203_206.out _;(with_reducible repeat (first | refine blk_drewN ?_ _ | refine blk_drew ?_ | refine blk_alloc ?_ _));exact BK203.out⟩
            have n3_ : Aside0 (((w16.setCell ⟨gb206,0,none⟩ (.int .i64 ((rd_T59 ((rd_T56 l0 x11_1).f1) x21_2).f0))).setCell ⟨gb206,1,none⟩ (.slice A205_1 ((rd_T59 ((rd_T56 l0 x11_1).f1) x21_2).f1).length c205_1)).heap[gb204]? = some (.cells #[.int .u64 ((rd_T56 l0 x11_1).f0),u205001] 56 (0,0))):=⟨by (with_reducible repeat (first | refine blk_drewN ?_ _ | refine blk_drew ?_ | refine blk_alloc ?_ _));refine blk_far ?_ NB204_206.out _;(with_reducible repeat (first | refine blk_drewN ?_ _ | refine blk_drew ?_ | refine blk_alloc ?_ _));refine blk_far ?_ NB204_206.out _;(with_reducible repeat (first | refine blk_drewN ?_ _ | refine blk_drew ?_ | refine blk_alloc ?_ _));exact BK204.out⟩
            have n4_ : Aside0 (((w16.setCell ⟨gb206,0,none⟩ (.int .i64 ((rd_T59 ((rd_T56 l0 x11_1).f1) x21_2).f0))).setCell ⟨gb206,1,none⟩ (.slice A205_1 ((rd_T59 ((rd_T56 l0 x11_1).f1) x21_2).f1).length c205_1)).heap[gb206]? = some (.cells #[.int .i64 ((rd_T59 ((rd_T56 l0 x11_1).f1) x21_2).f0),.slice A205_1 ((rd_T59 ((rd_T56 l0 x11_1).f1) x21_2).f1).length c205_1] 59 (0,0))):=⟨by (with_reducible repeat (first | refine blk_drewN ?_ _ | refine blk_drew ?_ | refine blk_alloc ?_ _));refine blk_put (cs:=#[.int .i64 ((rd_T59 ((rd_T56 l0 x11_1).f1) x21_2).f0),.slice none 0 0]) ?_ 1 _ rfl;(with_reducible repeat (first | refine blk_drewN ?_ _ | refine blk_drew ?_ | refine blk_alloc ?_ _));refine blk_put (cs:=#[.int .i64 0,.slice none 0 0]) ?_ 0 _ rfl;(with_reducible repeat (first | refine blk_drewN ?_ _ | refine blk_drew ?_ | refine blk_alloc ?_ _));exact BK206.out⟩
            have n5_ : Aside0 (Below w.heap.size w ((w16.setCell ⟨gb206,0,none⟩ (.int .i64 ((rd_T59 ((rd_T56 l0 x11_1).f1) x21_2).f0))).setCell ⟨gb206,1,none⟩ (.slice A205_1 ((rd_T59 ((rd_T56 l0 x11_1).f1) x21_2).f1).length c205_1))):=⟨by repeat (first | (with_reducible first | exact HB.out | apply below_alloc | apply pw_below_drewN | apply below_drew1 | refine below_set ?_ GE203.out | refine below_set ?_ GE204.out | refine below_set ?_ GE206.out) | exact HB.out)⟩
            (try clear HO_3)
            (try clear HO_205001)
            (try clear BK203)
            (try clear BK204)
            (try clear BK206)
            (try clear HB)
            generalize ((w16.setCell ⟨gb206,0,none⟩ (.int .i64 ((rd_T59 ((rd_T56 l0 x11_1).f1) x21_2).f0))).setCell ⟨gb206,1,none⟩ (.slice A205_1 ((rd_T59 ((rd_T56 l0 x11_1).f1) x21_2).f1).length c205_1)) = w20 at n0_ n1_ n2_ n3_ n4_ n5_ ⊢
            have HO_3:=n0_
            have HO_205001:=n1_
            have BK203:=n2_
            have BK204:=n3_
            have BK206:=n4_
            have HB:=n5_
            clear n0_ n1_ n2_ n3_ n4_ n5_
            have n0_:=Aside0.mk (Kd.R_drew HO_3.out)
            have n1_:=Aside0.mk (Kd.S_drew HO_205001.out)
            have n2_:=Aside0.mk (blk_drew BK203.out)
            have n3_:=Aside0.mk (blk_drew BK204.out)
            have n4_:=Aside0.mk (blk_drew BK206.out)
            have n5_:=Aside0.mk (below_drew1 HB.out)
            clear HO_3
            clear HO_205001
            clear BK203
            clear BK204
            clear BK206
            clear HB
            have HO_3:=n0_
            have HO_205001:=n1_
            have BK203:=n2_
            have BK204:=n3_
            have BK206:=n4_
            have HB:=n5_
            clear n0_ n1_ n2_ n3_ n4_ n5_
            refine start_ (n:=12) (S:=fun w' => w'.cell? ⟨gb204,0,none⟩ = some (.int .u64 ((rd_T56 l0 x11_1).f0)) ∧ w'.cell? ⟨gb204,1,none⟩ = some (u205001) ∧ w'.cell? ⟨gb206,0,none⟩ = some (.int .i64 ((rd_T59 ((rd_T56 l0 x11_1).f1) x21_2).f0)) ∧ w'.cell? ⟨gb206,1,none⟩ = some (.slice A205_1 ((rd_T59 ((rd_T56 l0 x11_1).f1) x21_2).f1).length c205_1)) (ds:=[11]) #[n_,n_,n_,n_,n_,n_,n_,n_,n_,n_,n_,n_] (by kernel_rfl) rfl rfl ⟨(blk_cell BK204.out 0).trans rfl,(blk_cell BK204.out 1).trans rfl,(blk_cell BK206.out 0).trans rfl,(blk_cell BK206.out 1).trans rfl⟩ (fun hHeld => ?_);refine with_tabW trace_Clone.tab9 trace_Clone.bits9 (fun HT_ HW_ => ?_)
            generalize w20.drew = w21 at HO_3 HO_205001 BK203 BK204 BK206 HB hHeld ⊢
            refine pure_ (i:=0) (N:=some 25) (v:=?_) (a':=?_) #[y_,n_,n_,n_,n_,n_,n_,n_,n_,n_,n_,n_] rfl rfl (any_of HT_.out (by kernel_rfl)) (fun _ _ _ h => h) (Or.inl ⟨by rfl,?_⟩) ?_ ?_
            rotate_left
            ·intro w'
             go_simp
             with_reducible rfl
            rotate_left
            ·simp only [Act.put,sA_,sB_,sC_,i64_w,i32_w]
             rfl
            refine pure_ (i:=2) (N:=some 27) (v:=?_) (a':=?_) #[y_,n_,y_,n_,n_,n_,n_,n_,n_,n_,n_,n_] rfl rfl (any_of HT_.out (by kernel_rfl)) (fun _ _ _ h => h) (Or.inl ⟨by rfl,?_⟩) ?_ ?_
            rotate_left
            ·intro w'
             go_simp
             with_reducible rfl
            rotate_left
            ·simp only [Act.put,sA_,sB_,sC_,i64_w,i32_w]
             rfl
            refine pure_ (i:=4) (N:=some 29) (v:=?_) (a':=?_) #[y_,n_,y_,n_,y_,n_,n_,n_,n_,n_,n_,n_] rfl rfl (any_of HT_.out (by kernel_rfl)) (fun _ _ _ h => h) (Or.inl ⟨by rfl,?_⟩) ?_ ?_
            rotate_left
            ·intro w'
             go_simp
             with_reducible rfl
            rotate_left
            ·simp only [Act.put,sA_,sB_,sC_,i64_w,i32_w]
             rfl
            refine take_ (i:=1) (N:=some 26) (v:=?_) (a':=?_) #[y_,y_,y_,n_,y_,n_,n_,n_,n_,n_,n_,n_] rfl rfl (take_ofW HT_.out HW_.out (by kernel_rfl)) (fun _ _ _ h => h) (Or.inl ⟨by rfl,?_⟩) hHeld ?_ ?_
            rotate_left
            ·rintro w' ⟨s0,s1,s2,s3⟩
             go_simp
             with_reducible rfl
            rotate_left
            ·simp only [Act.put,sA_,sB_,sC_,i64_w,i32_w]
             rfl
            refine take_ (i:=3) (N:=some 28) (v:=?_) (a':=?_) #[y_,y_,y_,y_,y_,n_,n_,n_,n_,n_,n_,n_] rfl rfl (take_ofW HT_.out HW_.out (by kernel_rfl)) (fun _ _ _ h => h) (Or.inl ⟨by rfl,?_⟩) hHeld ?_ ?_
            rotate_left
            ·rintro w' ⟨s0,s1,s2,s3⟩
             go_simp
             with_reducible rfl
            rotate_left
            ·simp only [Act.put,sA_,sB_,sC_,i64_w,i32_w]
             rfl
            refine take_ (i:=5) (N:=some 30) (v:=?_) (a':=?_) #[y_,y_,y_,y_,y_,y_,n_,n_,n_,n_,n_,n_] rfl rfl (take_ofW HT_.out HW_.out (by kernel_rfl)) (fun _ _ _ h => h) (Or.inl ⟨by rfl,?_⟩) hHeld ?_ ?_
            rotate_left
            ·rintro w' ⟨s0,s1,s2,s3⟩
             go_simp
             with_reducible rfl
            rotate_left
            ·simp only [Act.put,sA_,sB_,sC_,i64_w,i32_w]
             rfl
            refine one_ (i:=6) (N:=some 31) #[y_,y_,y_,y_,y_,y_,y_,n_,n_,n_,n_,n_] rfl rfl (one_of HT_.out (by kernel_rfl)) (by decide) (fun K hK => ?_)
            refine goes_ Try.func56 (by kernel_rfl) rfl #[.slice A205_1 ((rd_T59 ((rd_T56 l0 x11_1).f1) x21_2).f1).length c205_1] (by rfl) rfl rfl (by (try simp only [List.map_toArray,List.map_cons,List.map_nil]);first | done | rfl | (simp only [List.length_drop,List.length_take];rfl)) ?_
            with_reducible refine (api_Arg.calls _ _ ((rd_T59 ((rd_T56 l0 x11_1).f1) x21_2).f1) t207 _ ?side1 ?side2 A14.out).mono ?_
            (case side1 => repeat (first | exact (Kd.C_below HR205_1.out HB.out) | (with_reducible refine Kd.C_alloc ?_ _) | (with_reducible refine Kd.C_drewN ?_ _) | (with_reducible refine Kd.C_drew ?_)))
            (case side2 => exact HC205_1.out)
            rintro e w22 ⟨v208,rfl,ho0,hb⟩
            refine ⟨_,rfl,?_⟩
            have n0_:=Aside0.mk (Kd.R_elder' (by (with_reducible repeat (first | apply Kd.R_alloc | apply Kd.R_drewN | apply Kd.R_drew));exact HO_3.out) (Kd.R_base ho0) hb)
            have n1_:=Aside0.mk (Kd.S_elder' (by (with_reducible repeat (first | apply Kd.S_alloc | apply Kd.S_drewN | apply Kd.S_drew));exact HO_205001.out) (Kd.R_base ho0) hb)
            have n2_:=Aside0.mk (Kd.R_lower ho0 (below_size (by repeat (first | (with_reducible first | exact HB.out | apply below_alloc | apply pw_below_drewN | apply below_drew1 | refine below_set ?_ GE203.out | refine below_set ?_ GE204.out | refine below_set ?_ GE206.out) | exact HB.out))))
            have n3_:=Aside0.mk (blk_below (g:=gb203) (o:=.cells #[.int .u64 ((rd_T56 l0 x11_1).f0),.slice (some ad205) ((rd_T56 l0 x11_1).f1).length c202_1] 56 (0,0)) (by (with_reducible repeat (first | refine blk_drewN ?_ _ | refine blk_drew ?_ | refine blk_alloc ?_ _));exact BK203.out) hb)
            have n4_:=Aside0.mk (blk_below (g:=gb204) (o:=.cells #[.int .u64 ((rd_T56 l0 x11_1).f0),u205001] 56 (0,0)) (by (with_reducible repeat (first | refine blk_drewN ?_ _ | refine blk_drew ?_ | refine blk_alloc ?_ _));exact BK204.out) hb)
            have n5_:=Aside0.mk (blk_below (g:=gb206) (o:=.cells #[.int .i64 ((rd_T59 ((rd_T56 l0 x11_1).f1) x21_2).f0),.slice A205_1 ((rd_T59 ((rd_T56 l0 x11_1).f1) x21_2).f1).length c205_1] 59 (0,0)) (by (with_reducible repeat (first | refine blk_drewN ?_ _ | refine blk_drew ?_ | refine blk_alloc ?_ _));exact BK206.out) hb)
            have n6_:=Aside0.mk (below_step (by repeat (first | (with_reducible first | exact HB.out | apply below_alloc | apply pw_below_drewN | apply below_drew1 | refine below_set ?_ GE203.out | refine below_set ?_ GE204.out | refine below_set ?_ GE206.out) | exact HB.out)) hb)
            clear HO_3
            clear HO_205001
            clear BK203
            clear BK204
            clear BK206
            clear HB
            have HO_3:=n0_
            have HO_205001:=n1_
            have HO209:=n2_
            have BK203:=n3_
            have BK204:=n4_
            have BK206:=n5_
            have HB:=n6_
            clear n0_ n1_ n2_ n3_ n4_ n5_ n6_
            (try clear hb)
            (try clear hb2)
            (try clear hk)
            (try clear hi)
            (try clear ho0)
            obtain ⟨Ao23,co23,eo23⟩:=Kd.R_slice HO209.out
            (first | subst eo23 | (injection eo23 with f1_ f2_ f3_;have f4_:=f1_.symm;have f5_:=f3_.symm;clear f1_ f2_ f3_;subst f4_;subst f5_))
            refine hK.out _ _ ⟨(blk_cell BK204.out 0).trans rfl,(blk_cell BK204.out 1).trans rfl,(blk_cell BK206.out 0).trans rfl,(blk_cell BK206.out 1).trans rfl⟩ (fun hHeld => ?_)
            clear hK K
            refine norm_ (a':=?_) ?_ ?_
            rotate_left
            ·show Act.put _ (some 31) _ = _
             simp only [Act.put,sA_,sB_,sC_,i64_w,i32_w]
             rfl
            refine pure_ (i:=7) (N:=some 32) (v:=?_) (a':=?_) #[y_,y_,y_,y_,y_,y_,y_,y_,n_,n_,n_,n_] rfl rfl (any_of HT_.out (by kernel_rfl)) (fun _ _ _ h => h) (Or.inl ⟨by rfl,?_⟩) ?_ ?_
            rotate_left
            ·intro w'
             go_simp
             with_reducible rfl
            rotate_left
            ·simp only [Act.put,sA_,sB_,sC_,i64_w,i32_w]
             rfl
            refine one_ (i:=8) (N:=some 33) #[y_,y_,y_,y_,y_,y_,y_,y_,y_,n_,n_,n_] rfl rfl (one_of HT_.out (by kernel_rfl)) (by decide) (fun K hK => ?_)
            refine value_ (w1:=?_) (v:=?_) (by rfl) rfl ?_ ?_
            rotate_left 2
            ·go_simp
             constructor
             ·rfl
             ·rfl
            refine hK.out _ _ ⟨(blk_cell (blk_alloc BK204.out _) 0).trans rfl,(blk_cell (blk_alloc BK204.out _) 1).trans rfl,(blk_cell (blk_alloc BK206.out _) 0).trans rfl,(blk_cell (blk_alloc BK206.out _) 1).trans rfl⟩ (fun hHeld => ?_)
            clear hK K
            refine norm_ (a':=?_) ?_ ?_
            rotate_left
            ·show Act.put _ (some 33) _ = _
             simp only [Act.put,sA_,sB_,sC_,i64_w,i32_w]
             rfl
            refine one_ (i:=9) (N:=some 34) #[y_,y_,y_,y_,y_,y_,y_,y_,y_,y_,n_,n_] rfl rfl (one_of HT_.out (by kernel_rfl)) (by decide) (fun K hK => ?_)
            refine Kd.S_append_step k59 (w0:=w) w.heap.size (by rfl) (.tmp 26) (.tmp 33) 54 59 (.agg #[(.int .i64 0),(.slice none 0 0)]) 32 rfl Try.underlying54 info59 rfl (by decide) (by omega) u205001 x205001_2 (⟨(rd_T59 ((rd_T56 l0 x11_1).f1) x21_2).f0,t207⟩ : S59) [.int .i64 ((rd_T59 ((rd_T56 l0 x11_1).f1) x21_2).f0),.slice Ao23 t207.length co23] (fun k_ => k_ ≠ gb206) (fun k_ => some k_ = (.slice Ao23 t207.length co23 : Value).ownBlock) rfl rfl ?aP (fun k_ hk_ => ((Kd.R_mono (ok':=fun k_ => ((fun k_ => k_ ≠ gb206)) k_ ∧ some k_ ≠ (u205001 : Value).ownBlock) (Kd.R_types (Kd.R_apart' (HO209.out) (Kd.S_typed HO_205001.out) (by decide)) BK206.out (by decide)) (fun k_ hk => ⟨hk.2,hk.1.2⟩))).1 k_ hk_.symm) ?aF ?aO ?aB ?aS ?aL ?_
            (case aP => exact k59_mkM _ _ _ (⟨(rd_T59 ((rd_T56 l0 x11_1).f1) x21_2).f0,t207⟩ : S59) (Kd.R_mono (Kd.R_tight rfl (Kd.R_mono (ok':=fun k_ => ((fun k_ => k_ ≠ gb206)) k_ ∧ some k_ ≠ (u205001 : Value).ownBlock) (Kd.R_types (Kd.R_apart' (HO209.out) (Kd.S_typed HO_205001.out) (by decide)) BK206.out (by decide)) (fun k_ hk => ⟨hk.2,hk.1.2⟩))) (fun _ h_ => h_)))
            (case aB => exact (by repeat (first | (with_reducible first | exact HB.out | apply below_alloc | apply pw_below_drewN | apply below_drew1 | refine below_set ?_ GE203.out | refine below_set ?_ GE204.out | refine below_set ?_ GE206.out) | exact HB.out)))
            (case aF => exact (fun k_ hk => Kd.freshB (g:=gb206) (o:=.cells #[.int .i64 ((rd_T59 ((rd_T56 l0 x11_1).f1) x21_2).f0),.slice A205_1 ((rd_T59 ((rd_T56 l0 x11_1).f1) x21_2).f1).length c205_1] 59 (0,0)) (by (with_reducible repeat (first | refine blk_drewN ?_ _ | refine blk_drew ?_ | refine blk_alloc ?_ _));exact BK206.out) k_ hk))
            (case aO => exact (by (with_reducible repeat (first | apply Kd.S_alloc | apply Kd.S_drewN | apply Kd.S_drew));exact Kd.S_mono HO_205001.out (fun k_ hk => ⟨hk.1,fun e_ => hk.2 e_⟩)))
            (case aS => exact (below_size (by repeat (first | (with_reducible first | exact HB.out | apply below_alloc | apply pw_below_drewN | apply below_drew1 | refine below_set ?_ GE203.out | refine below_set ?_ GE204.out | refine below_set ?_ GE206.out) | exact HB.out))))
            (case aL => have:=LMc15.out;omega)
            intro v211 w24 ho hb hg hat
            rw [← Ny210.out] at ho
            have n0_:=Aside0.mk (Kd.R_after (ok:=(fun k_ => some k_ ≠ (.slice Ao23 t207.length co23 : Value).ownBlock ∧ k_ ≠ gb203 ∧ k_ ≠ gb204 ∧ k_ ≠ gb206)) (by (with_reducible repeat (first | apply Kd.R_alloc | apply Kd.R_drewN | apply Kd.R_drew));exact Kd.R_mono HO_3.out (fun _ hk => ⟨⟨hk.2,⟨hk.1.2.1,⟨hk.1.2.2.1,hk.1.2.2.2⟩⟩⟩,hk.1.1⟩)) hg hat)
            have n1_:=Aside0.mk (blk_grown (g:=gb203) (o:=.cells #[.int .u64 ((rd_T56 l0 x11_1).f0),.slice (some ad205) ((rd_T56 l0 x11_1).f1).length c202_1] 56 (0,0)) (by (with_reducible repeat (first | refine blk_drewN ?_ _ | refine blk_drew ?_ | refine blk_alloc ?_ _));exact BK203.out) hg (Kd.S_ne HO_205001.out BK203.out (by decide)))
            have n2_:=Aside0.mk (blk_grown (g:=gb204) (o:=.cells #[.int .u64 ((rd_T56 l0 x11_1).f0),u205001] 56 (0,0)) (by (with_reducible repeat (first | refine blk_drewN ?_ _ | refine blk_drew ?_ | refine blk_alloc ?_ _));exact BK204.out) hg (Kd.S_ne HO_205001.out BK204.out (by decide)))
            have n3_:=Aside0.mk (blk_grown (g:=gb206) (o:=.cells #[.int .i64 ((rd_T59 ((rd_T56 l0 x11_1).f1) x21_2).f0),.slice A205_1 ((rd_T59 ((rd_T56 l0 x11_1).f1) x21_2).f1).length c205_1] 59 (0,0)) (by (with_reducible repeat (first | refine blk_drewN ?_ _ | refine blk_drew ?_ | refine blk_alloc ?_ _));exact BK206.out) hg (Kd.S_away HO_205001.out (fun _ hk => hk.1)))
            have n4_:=Aside0.mk (hb)
            have n5_:=Aside0.mk (ho)
            clear HO_3
            clear BK203
            clear BK204
            clear BK206
            clear HB
            clear HO_205001
            clear HO209
            have HO_3:=n0_
            have BK203:=n1_
            have BK204:=n2_
            have BK206:=n3_
            have HB:=n4_
            have HO212:=n5_
            clear n0_ n1_ n2_ n3_ n4_ n5_
            clear ho hb hg hat
            obtain ⟨Ao25,co25,eo25⟩:=Kd.S_slice HO212.out
            (first | subst eo25 | (injection eo25 with f1_ f2_ f3_;have f4_:=f1_.symm;have f5_:=f3_.symm;clear f1_ f2_ f3_;subst f4_;subst f5_))
            refine hK.out _ _ ⟨(blk_cell BK204.out 0).trans rfl,(blk_cell BK204.out 1).trans rfl,(blk_cell BK206.out 0).trans rfl,(blk_cell BK206.out 1).trans rfl⟩ (fun hHeld => ?_)
            clear hK K
            refine norm_ (a':=?_) ?_ ?_
            rotate_left
            ·show Act.put _ (some 34) _ = _
             simp only [Act.put,sA_,sB_,sC_,i64_w,i32_w]
             rfl
            refine pure_ (i:=10) (N:=some 35) (v:=?_) (a':=?_) #[y_,y_,y_,y_,y_,y_,y_,y_,y_,y_,y_,n_] rfl rfl (any_of HT_.out (by kernel_rfl)) (fun _ _ _ h => h) (Or.inl ⟨by rfl,?_⟩) ?_ ?_
            rotate_left
            ·intro w'
             go_simp
             with_reducible rfl
            rotate_left
            ·simp only [Act.put,sA_,sB_,sC_,i64_w,i32_w]
             rfl
            refine last_ (i:=11) (N:=none) #[y_,y_,y_,y_,y_,y_,y_,y_,y_,y_,y_,y_] rfl rfl (one_of HT_.out (by kernel_rfl)) (by decide) (fun K hK => ?_)
            have hs26 : w24.cell? ⟨gb204,1,none⟩ = some (u205001):=(blk_cell BK204.out 1).trans rfl
            have hfs26:=blk_frozen BK204.out 1
            have hns26_0:=NB203_204.out
            have hns26_2:=NB206_204.out
            have hms26_0:=NB204_203.out
            have hms26_2:=NB204_206.out
            refine skip_ (w1:=?_) (by rfl) rfl ?_ ?_
            rotate_left
            ·go_simp
             rfl
            refine hK.out _ _ ?_
            clear hK K
            refine done_ (done_of HT_.out (by kernel_rfl)) ?_
            try go_wp2
            go_roundg k2
            case measure => have:=HK1.out;have:=HK2.out;omega
            case rel => exact ⟨(wrap64 (x21_2 + 1)),(y210),(.slice Ao25 y210.length co25),(by first | rfl | (simp;done) | (simp [*];done)),H',⟨by have:=HK1.out;have:=HK2.out;omega⟩,⟨by (with_reducible repeat (first | apply Kd.R_alloc | apply Kd.R_drewN | apply Kd.R_drew));exact Kd.R_mono (Kd.R_far (p:=⟨gb204,1,none⟩) (Kd.R_mono HO_3.out (fun k_ hk => (⟨hk,hk.1.2.2.1⟩ : _ ∧ k_ ≠ gb204))) (fun _ hk => hk.2) (.slice Ao25 y210.length co25)) (fun _ hk => ⟨hk.1.2,⟨hk.1.1.2.1,hk.1.1.2.2.1⟩⟩)⟩,⟨by (with_reducible repeat (first | apply Kd.S_alloc | apply Kd.S_drewN | apply Kd.S_drew));exact Kd.S_mono (Kd.S_far (p:=⟨gb204,1,none⟩) (Kd.S_types HO212.out BK204.out (by decide)) (fun _ hk => hk.2) (.slice Ao25 y210.length co25)) (fun _ hk => trivial)⟩,⟨by (with_reducible repeat (first | refine blk_drewN ?_ _ | refine blk_drew ?_ | refine blk_alloc ?_ _));refine blk_far ?_ NB203_204.out _;(with_reducible repeat (first | refine blk_drewN ?_ _ | refine blk_drew ?_ | refine blk_alloc ?_ _));exact BK203.out⟩,⟨by (with_reducible repeat (first | refine blk_drewN ?_ _ | refine blk_drew ?_ | refine blk_alloc ?_ _));refine blk_put (cs:=#[.int .u64 ((rd_T56 l0 x11_1).f0),u205001]) ?_ 1 _ rfl;(with_reducible repeat (first | refine blk_drewN ?_ _ | refine blk_drew ?_ | refine blk_alloc ?_ _));exact BK204.out⟩,⟨by repeat (first | (with_reducible first | exact HB.out | apply below_alloc | apply pw_below_drewN | apply below_drew1 | refine below_set ?_ GE203.out | refine below_set ?_ GE204.out | refine below_set ?_ GE206.out) | exact HB.out)⟩⟩
           ·rw [if_neg c15] at H
            exact absurd H (by simp)
          ·rw [if_neg c13] at H
           exact absurd H (by simp)
         ·rw [if_neg c12] at H
          exact absurd H (by simp)
        ·rw [if_neg c11] at H
         have c11b0 : decide (x21_2 < (((rd_T56 l0 x11_1).f1).length : Int)) = false:=decide_eq_false c11
         clear c11
         by_cases c27 : x3_1.length < 4398046511104
         ·rw [if_pos c27] at H
          have LMc27:=Aside0.mk c27
          clear c27
          obtain ⟨y213,hy213⟩ : ∃ y_ : List (S56),y_ = (x3_1 ++ [(⟨((rd_T56 l0 x11_1).f0),x205001_2⟩ : S56)]):=⟨_,rfl⟩
          replace H : (trace_Clone.l0 k2 y213 l0 (l0.length : Int) (wrap64 (x11_1 + 1))) = some r:=by first | (rw [hy213];with_reducible exact H) | (have H2_:=(Option.bind_some _ _).symm.trans H;rw [hy213];with_reducible exact H2_) | (have H2_:=(Option.bind_some _ _).symm.trans H;with_reducible exact H2_) | with_reducible exact H | (rw [hy213];exact H) | exact H
          have Ny213:=Aside0.mk hy213
          clear hy213
          have H':=Aside0.mk H
          clear H
          have hnb28:=NB204_203.out
          have hnc28:=NB203_204.out
          have hcz29_0 : wr.cell? ⟨gb204,0,none⟩ = some (.int .u64 ((rd_T56 l0 x11_1).f0)):=(blk_cell BK204.out 0).trans rfl
          have hcz29_1 : wr.cell? ⟨gb204,1,none⟩ = some (u205001):=(blk_cell BK204.out 1).trans rfl
          have hfz29_0:=blk_frozen BK204.out 0
          have hfz29_1:=blk_frozen BK204.out 1
          obtain ⟨Ao31,co31,eo31⟩:=Kd.S_slice HO_205001.out
          subst eo31
          go_wp2_with (first | ((with_reducible refine gate_builtin (b:=.append) (xs:=#[.tmp 37,.tmp 39]) rfl ?_);at_builtin;refine Kd.R_append k56 (w0:=w) w.heap.size rfl (.tmp 37) (.tmp 39) 23 56 (.agg #[(.int .u64 0),(.slice none 0 0)]) 32 rfl Try.underlying23 info56 rfl (by decide) (by omega) u3 x3_1 (⟨((rd_T56 l0 x11_1).f0),x205001_2⟩ : S56) [.int .u64 ((rd_T56 l0 x11_1).f0),.slice Ao31 x205001_2.length co31] (fun k_ => k_ ≠ gb203 ∧ k_ ≠ gb204) (fun k_ => ((fun k_ => k_ ≠ gb203 ∧ k_ ≠ gb204)) k_ ∧ some k_ ≠ (u3 : Value).ownBlock) rfl rfl ?aP (fun _ hk => hk) ?aF ?aO ?aB ?aS ?aL ?_;(case aP => exact k56_mkM _ _ _ (⟨((rd_T56 l0 x11_1).f0),x205001_2⟩ : S56) (Kd.R_mono (Kd.R_types (Kd.R_types (Kd.R_apart' ((Kd.S_R HO_205001.out)) (Kd.R_typed HO_3.out) (by decide)) BK203.out (by decide)) BK204.out (by decide)) (fun k_ hk => ⟨⟨hk.1.2,hk.2⟩,hk.1.1.2⟩)));(case aB => exact (by repeat (first | (with_reducible first | exact HB.out | apply below_alloc | apply pw_below_drewN | apply below_drew1 | refine below_set ?_ GE203.out | refine below_set ?_ GE204.out) | exact HB.out)));(case aF => exact (fun k_ hk => ⟨Kd.freshB (g:=gb203) (o:=.cells #[.int .u64 ((rd_T56 l0 x11_1).f0),.slice A202_1 ((rd_T56 l0 x11_1).f1).length c202_1] 56 (0,0)) (by (with_reducible repeat (first | refine blk_drewN ?_ _ | refine blk_drew ?_ | refine blk_alloc ?_ _));exact BK203.out) k_ hk,Kd.freshB (g:=gb204) (o:=.cells #[.int .u64 ((rd_T56 l0 x11_1).f0),.slice Ao31 x205001_2.length co31] 56 (0,0)) (by (with_reducible repeat (first | refine blk_drewN ?_ _ | refine blk_drew ?_ | refine blk_alloc ?_ _));exact BK204.out) k_ hk⟩));(case aO => exact (by (with_reducible repeat (first | apply Kd.R_alloc | apply Kd.R_drewN | apply Kd.R_drew));exact Kd.R_mono HO_3.out (fun _ hk => ⟨hk.2.1,hk.2.2⟩)));(case aS => exact (below_size (by repeat (first | (with_reducible first | exact HB.out | apply below_alloc | apply pw_below_drewN | apply below_drew1 | refine below_set ?_ GE203.out | refine below_set ?_ GE204.out) | exact HB.out))));(case aL => have:=LMc27.out;omega);intro v214 w30 ho hb hg hat;rw [← Ny213.out] at ho;have n0_:=Aside0.mk (blk_grown (g:=gb203) (o:=.cells #[.int .u64 ((rd_T56 l0 x11_1).f0),.slice A202_1 ((rd_T56 l0 x11_1).f1).length c202_1] 56 (0,0)) (by (with_reducible repeat (first | refine blk_drewN ?_ _ | refine blk_drew ?_ | refine blk_alloc ?_ _));exact BK203.out) hg (Kd.R_away HO_3.out (fun _ hk => hk.2.1)));have n1_:=Aside0.mk (blk_grown (g:=gb204) (o:=.cells #[.int .u64 ((rd_T56 l0 x11_1).f0),.slice Ao31 x205001_2.length co31] 56 (0,0)) (by (with_reducible repeat (first | refine blk_drewN ?_ _ | refine blk_drew ?_ | refine blk_alloc ?_ _));exact BK204.out) hg (Kd.R_away HO_3.out (fun _ hk => hk.2.2)));have n2_:=Aside0.mk (hb);have n3_:=Aside0.mk (ho);clear BK203;clear BK204;clear HB;clear HO_3;clear HO_205001;have BK203:=n0_;have BK204:=n1_;have HB:=n2_;have HO215:=n3_;clear n0_ n1_ n2_ n3_;clear ho hb hg hat))
          go_roundg k2
          case measure => have:=HK1.out;have:=HK2.out;omega
          case rel => exact ⟨(y213),(wrap64 (x11_1 + 1)),(by first | rfl | (simp;done) | (simp [*];done)),H',⟨by have:=HK1.out;have:=HK2.out;omega⟩,⟨by (with_reducible repeat (first | apply Kd.R_alloc | apply Kd.R_drewN | apply Kd.R_drew));exact Kd.R_mono HO215.out (fun _ hk => trivial)⟩,⟨by repeat (first | (with_reducible first | exact HB.out | apply below_alloc | apply pw_below_drewN | apply below_drew1 | refine below_set ?_ GE203.out | refine below_set ?_ GE204.out) | exact HB.out)⟩⟩
         ·rw [if_neg c27] at H
          exact absurd H (by simp)
     ·rw [if_neg c4] at H
      exact absurd H (by simp)
    ·rw [if_neg c3] at H
     exact absurd H (by simp)
   ·rw [if_neg c2] at H
    have c2b0 : decide (x11_1 < (l0.length : Int)) = false:=decide_eq_false c2
    clear c2
    obtain rfl:=Option.some.inj H
    go_wp2
    go_ret
    exact ⟨_,by first | rfl | (simp [errW_none,errW_some] <;> rfl) | (simp [*,errW_none,errW_some] <;> rfl),by (with_reducible repeat (first | apply Kd.R_alloc | apply Kd.R_drewN | apply Kd.R_drew));exact HO_3.out,by repeat (first | (with_reducible first | exact HB.out | apply below_alloc | apply pw_below_drewN | apply below_drew1) | exact HB.out)⟩

end Go.Proofs.Ytmmfakdncjeoeaa.PC
