-- Contracts of Go functions, each with its plain Lean function: written by wip/tools/myprint.py of this work (the kit's print, with contracts proved by hand spliced in).
import Derived.Test.YtmmfakdncjeoeaaPCx0
import Derived.Test.YtmmfakdncjeoeaaPCx2
namespace Go.Proofs.Ytmmfakdncjeoeaa.PC
open Go.RowKit Go.Proofs.YtmmfakdncjeoeaaW.PrintWords Go.Proofs.YtmmfakdncjeoeaaW.PrintLast Go.Proofs.YtmmfakdncjeoeaaW.PrintMore
attribute [local go_sem] max2_int min2_int max_two min_two max_three min_three max_four min_four   -- for this text's walks alone
set_option linter.unusedVariables false
set_option linter.unusedSimpArgs false

/-! ### trace_Event: function 52 -/
mutual
def trace_Event.j0 : Nat → List (S53) → Bool → Int → List (S61) → Option (Int)
 | 0, _, _, _, _ => none
 | k + 1, x0, x18, x112000, x112001 => if x18 = true then (some 9) else (if 0 ≤ x112000 then (if x112000 < (x0.length : Int) then (if (((rd_T53 x0 x112000).f1).length : Int) = (x112001.length : Int) then (trace_Event.l0 k ((rd_T53 x0 x112000).f1) (((rd_T53 x0 x112000).f1).length : Int) 0 x112000 x112001) else (some 1)) else (none)) else (none))
def trace_Event.l0 : Nat → List Int → Int → Int → Int → List (S61) → Option (Int)
 | 0, _, _, _, _, _ => none
 | k + 1, x31, x32, x33, x112000, x112001 => if x33 < x32 then (if 0 ≤ x33 then (if x33 < (x31.length : Int) then (if x33 < (x112001.length : Int) then ((trace_arg.f k (rd x31 x33) ((rd_T61 x112001 x33).f0) ((rd_T61 x112001 x33).f1) ((rd_T61 x112001 x33).f2)).bind fun t115 => (if t115 = 0 then (trace_Event.l0 k x31 x32 (wrap64 (x33 + 1)) x112000 x112001) else (some t115))) else (none)) else (none)) else (none)) else (some 0)
end
def trace_Event.f (k : Nat) (l0 : List (S53)) (a1_0 : Int) (l1_1 : List (S61)) : Option (Int) := if a1_0 < 0 then (trace_Event.j0 k l0 true a1_0 l1_1) else (trace_Event.j0 k l0 (decide (a1_0 ≥ (l0.length : Int))) a1_0 l1_1)
theorem trace_Event.mono_l : ∀ k, (∀ y0 y1 y2 y3, LeO (trace_Event.j0 k y0 y1 y2 y3) (trace_Event.j0 (k + 1) y0 y1 y2 y3)) ∧ (∀ y0 y1 y2 y3 y4, LeO (trace_Event.l0 k y0 y1 y2 y3 y4) (trace_Event.l0 (k + 1) y0 y1 y2 y3 y4))
 | 0 => ⟨fun _ _ _ _ r h => by simp [trace_Event.j0] at h, fun _ _ _ _ _ r h => by simp [trace_Event.l0] at h⟩
 | k + 1 => by
  obtain ⟨ih0, ih1⟩ := trace_Event.mono_l k
  refine ⟨?_, ?_⟩
  ·intro y0 y1 y2 y3
   unfold trace_Event.j0
   repeat' first
   | (with_reducible exact ih0 _ _ _ _)
   | (with_reducible exact ih1 _ _ _ _ _)
   | (with_reducible exact trace_arg.mono _ _ _ _ _)
   | (with_reducible exact LeO.refl _)
   | (with_reducible exact LeO.none _)
   | (with_reducible refine LeO.ite ?_ ?_)
   | (with_reducible refine LeO.bind ?_ (fun _ => ?_))
   | exact ih0 _ _ _ _
   | exact ih1 _ _ _ _ _
   | exact trace_arg.mono _ _ _ _ _
   | exact LeO.none _
   | refine LeO.ite ?_ ?_
   | refine LeO.bind ?_ (fun _ => ?_)
  ·intro y0 y1 y2 y3 y4
   unfold trace_Event.l0
   repeat' first
   | (with_reducible exact ih0 _ _ _ _)
   | (with_reducible exact ih1 _ _ _ _ _)
   | (with_reducible exact trace_arg.mono _ _ _ _ _)
   | (with_reducible exact LeO.refl _)
   | (with_reducible exact LeO.none _)
   | (with_reducible refine LeO.ite ?_ ?_)
   | (with_reducible refine LeO.bind ?_ (fun _ => ?_))
   | exact ih0 _ _ _ _
   | exact ih1 _ _ _ _ _
   | exact trace_arg.mono _ _ _ _ _
   | exact LeO.none _
   | refine LeO.ite ?_ ?_
   | refine LeO.bind ?_ (fun _ => ?_)
theorem trace_Event.mono : ∀ a0 a1 a2 k, LeO (trace_Event.f k a0 a1 a2) (trace_Event.f (k + 1) a0 a1 a2) := by
 intro a0 a1 a2 k
 obtain ⟨ih0, ih1⟩ := trace_Event.mono_l k
 unfold trace_Event.f
 repeat' first
   | (with_reducible exact ih0 _ _ _ _)
   | (with_reducible exact ih1 _ _ _ _ _)
   | (with_reducible exact trace_arg.mono _ _ _ _ _)
   | (with_reducible exact LeO.refl _)
   | (with_reducible exact LeO.none _)
   | (with_reducible refine LeO.ite ?_ ?_)
   | (with_reducible refine LeO.bind ?_ (fun _ => ?_))
   | exact ih0 _ _ _ _
   | exact ih1 _ _ _ _ _
   | exact trace_arg.mono _ _ _ _ _
   | exact LeO.none _
   | refine LeO.ite ?_ ?_
   | refine LeO.bind ?_ (fun _ => ?_)
set_option maxHeartbeats 8000000 in
set_option maxRecDepth 100000 in
theorem trace_Event.calls (k : Nat) (A0 : Option Addr) (c0 : Nat) (l0 : List (S53)) (a1_0 : Int) (A1_1 : Option Addr) (c1_1 : Nat) (l1_1 : List (S61)) (r : Int) (w : World) (hr0 : Kd.C k53 w A0 l0.length l0) (hc0 : l0.length ≤ c0) (hr1_1 : Kd.C k61 w A1_1 l1_1.length l1_1) (hc1_1 : l1_1.length ≤ c1_1) (h : trace_Event.f k l0 a1_0 l1_1 = some r) :
  Calls Try.prog 52 #[.slice A0 l0.length c0,.agg #[.int .i64 a1_0,.slice A1_1 l1_1.length c1_1]] w fun e w' => e = .returned (.int .i64 r) ∧ Below w.heap.size w w':=by
 have hu59:=Try.underlying59
 have hu61:=Try.underlying61
 have HR0:=Aside0.mk hr0
 have HC0:=Aside0.mk hc0
 clear hr0 hc0
 have HR1_1:=Aside0.mk hr1_1
 have HC1_1:=Aside0.mk hc1_1
 clear hr1_1 hc1_1
 have HB:=Aside0.mk (Below.refl w.heap.size w)
 have H : (if a1_0 < 0 then (trace_Event.j0 k l0 true a1_0 l1_1) else (trace_Event.j0 k l0 (decide (a1_0 ≥ (l0.length : Int))) a1_0 l1_1)) = some r:=h
 clear h
 have HC3:=Aside0.mk H
 clear H
 go_enter Try.func52,Try.ntmps52
 go_upto_region 1 with (first | ((with_reducible refine gate_dst (N:=3) rfl ?_);(try (refine gate_guard (by rfl) ?_;dsimp only));refine box_event ?hg (N:=3) ?hd (cs:=#[.int .i64 a1_0,.slice A1_1 l1_1.length c1_1]) (t:=59) ?hr ?_;(case hd => rfl);(case hg => rfl);(case hr => first | (go_simp;done) | (go_simp;rfl));intro gb111 hg w4 hbox hb;have n0_:=Aside0.mk (below_step (by repeat (first | (with_reducible first | exact HB.out | apply below_alloc | apply pw_below_drewN | apply below_drew1) | exact HB.out)) hb);have n1_:=Aside0.mk (hbox);have n2_:=Aside0.mk ((by rw [hg];exact (below_size (by repeat (first | (with_reducible first | exact HB.out | apply below_alloc | apply pw_below_drewN | apply below_drew1) | exact HB.out))) : w.heap.size ≤ gb111));have n3_:=Aside0.mk ((by rw [hg];exact (below_size (by repeat (first | (with_reducible first | exact HB.out | apply below_alloc | apply pw_below_drewN | apply below_drew1) | exact HB.out))) : w.heap.size ≤ gb111));clear HB;have HB:=n0_;have BK111:=n1_;have GW111:=n2_;have GE111:=n3_;clear n0_ n1_ n2_ n3_;clear hb hbox hg))
 (try simp only [Act.put,List.setIfInBounds_toArray,List.set_cons_zero,List.set_cons_succ])
 go_cut [18] (fun v18 wc => ∃ (kq : Nat) (x18_2 : Bool),v18 = .bool x18_2 ∧ Aside0 (trace_Event.j0 kq l0 x18_2 a1_0 l1_1 = some r) ∧ Aside0 (kq ≤ k) ∧ Aside0 (wc.heap[gb111]? = some (.cells #[.int .i64 a1_0,(.slice A1_1 l1_1.length c1_1)] 59 (0,0))) ∧ Aside0 (Below w.heap.size w wc))
 case first =>
  have H:=HC3.out
  clear HC3
  by_cases c5 : a1_0 < 0
  ·rw [if_pos c5] at H
   have c5b0 : decide (a1_0 < 0) = true:=decide_eq_true c5
   clear c5
   (first | rw [c5b0] | (simp only [i64_w,i32_w];rw [c5b0]) | skip)
   have H':=Aside0.mk H
   clear H
   have hcz6_0 : w4.cell? ⟨gb111,0,none⟩ = some (.int .i64 a1_0):=(blk_cell BK111.out 0).trans rfl
   have hcz6_1 : w4.cell? ⟨gb111,1,none⟩ = some (.slice A1_1 l1_1.length c1_1):=(blk_cell BK111.out 1).trans rfl
   have hfz6_0:=blk_frozen BK111.out 0
   have hfz6_1:=blk_frozen BK111.out 1
   go_wp2
   go_meet
   case rel => exact ⟨_,(true),(by first | rfl | (simp;done) | (simp [*];done)),H',⟨by first | omega | exact Nat.le_refl _⟩,⟨by (with_reducible repeat (first | refine blk_drewN ?_ _ | refine blk_drew ?_ | refine blk_alloc ?_ _));exact BK111.out⟩,⟨by repeat (first | (with_reducible first | exact HB.out | apply below_alloc | apply pw_below_drewN | apply below_drew1 | refine below_set ?_ GE111.out) | exact HB.out)⟩⟩
  ·rw [if_neg c5] at H
   have c5b0 : decide (a1_0 < 0) = false:=decide_eq_false c5
   clear c5
   (first | rw [c5b0] | (simp only [i64_w,i32_w];rw [c5b0]) | skip)
   have H':=Aside0.mk H
   clear H
   have hcz7_0 : w4.cell? ⟨gb111,0,none⟩ = some (.int .i64 a1_0):=(blk_cell BK111.out 0).trans rfl
   have hcz7_1 : w4.cell? ⟨gb111,1,none⟩ = some (.slice A1_1 l1_1.length c1_1):=(blk_cell BK111.out 1).trans rfl
   have hfz7_0:=blk_frozen BK111.out 0
   have hfz7_1:=blk_frozen BK111.out 1
   go_wp2
   go_meet
   case rel => exact ⟨_,(decide (a1_0 ≥ (l0.length : Int))),(by first | rfl | (simp;done) | (simp [*];done)),H',⟨by first | omega | exact Nat.le_refl _⟩,⟨by (with_reducible repeat (first | refine blk_drewN ?_ _ | refine blk_drew ?_ | refine blk_alloc ?_ _));exact BK111.out⟩,⟨by repeat (first | (with_reducible first | exact HB.out | apply below_alloc | apply pw_below_drewN | apply below_drew1 | refine below_set ?_ GE111.out) | exact HB.out)⟩⟩
 case rest =>
  clear HC3
  try clear c1
  try clear p2
  try clear c5
  try clear c5b0
  try clear hcz6_0
  try clear hcz6_1
  try clear hcz7_0
  try clear hcz7_1
  try clear hfz6_0
  try clear hfz6_1
  try clear hfz7_0
  try clear hfz7_1
  obtain ⟨kq,x18_2,rfl,HA,HJ2,BK111,HB⟩:=hcut
  cases kq with
  | zero => exact absurd HA.out (by simp [trace_Event.j0])
  | succ kj2 =>
   have H:=HA.out
   clear HA
   simp only [trace_Event.j0] at H
   by_cases c8 : x18_2 = true
   ·subst c8
    have H1 : (some 9) = some r:=by rw [if_pos rfl] at H;exact H
    clear H
    have H:=H1
    clear H1
    obtain rfl:=Option.some.inj H
    go_wp2
    go_ret
    exact ⟨by first | rfl | (simp [errW_none,errW_some] <;> rfl) | (simp [*,errW_none,errW_some] <;> rfl),by repeat (first | (with_reducible first | exact HB.out | apply below_alloc | apply pw_below_drewN | apply below_drew1 | refine below_set ?_ GE111.out) | exact HB.out)⟩
   ·replace c8:=Bool.eq_false_iff.mpr c8
    subst c8
    have H1 : (if 0 ≤ a1_0 then (if a1_0 < (l0.length : Int) then (if (((rd_T53 l0 a1_0).f1).length : Int) = (l1_1.length : Int) then (trace_Event.l0 kj2 ((rd_T53 l0 a1_0).f1) (((rd_T53 l0 a1_0).f1).length : Int) 0 a1_0 l1_1) else (some 1)) else (none)) else (none)) = some r:=by rw [if_neg (show ¬ (false = true) by decide)] at H;exact H
    clear H
    have H:=H1
    clear H1
    by_cases c9 : 0 ≤ a1_0
    ·rw [if_pos c9] at H
     have c9b0 : decide (0 ≤ a1_0) = true:=decide_eq_true c9
     clear c9
     by_cases c10 : a1_0 < (l0.length : Int)
     ·rw [if_pos c10] at H
      have c10b0 : decide (a1_0 < (l0.length : Int)) = true:=decide_eq_true c10
      clear c10
      by_cases c11 : (((rd_T53 l0 a1_0).f1).length : Int) = (l1_1.length : Int)
      ·rw [if_pos c11] at H
       have c11b0 : ((((rd_T53 l0 a1_0).f1).length : Int) == (l1_1.length : Int)) = true:=beq_iff_eq.mpr c11
       have c11b1 : ((((rd_T53 l0 a1_0).f1).length : Int) != (l1_1.length : Int)) = false:=bne_eq_false_iff_eq.mpr c11
       have c11b2 : (((rd_T53 l0 a1_0).f1).length == l1_1.length) = true:=by first | simpa using c11 | (simp at c11 ⊢;omega)
       clear c11
       have H':=Aside0.mk H
       clear H
       have hcz12_0 : wc.cell? ⟨gb111,0,none⟩ = some (.int .i64 a1_0):=(blk_cell BK111.out 0).trans rfl
       have hcz12_1 : wc.cell? ⟨gb111,1,none⟩ = some (.slice A1_1 l1_1.length c1_1):=(blk_cell BK111.out 1).trans rfl
       have hfz12_0:=blk_frozen BK111.out 0
       have hfz12_1:=blk_frozen BK111.out 1
       have p112 : 0 ≤ (a1_0 : Int):=of_decide_eq_true (by first | (with_reducible assumption) | assumption)
       have q112 : a1_0 < (l0.length : Int):=of_decide_eq_true (by first | (with_reducible assumption) | assumption)
       obtain ⟨ad112,A112_1,c112_1,e112,hx112_0,hx112_1,hl112_1,hi112_1⟩:=at_T53 HR0.out a1_0 p112 q112
       cases e112
       replace hx112_0:=(HB.out.cell (World.block_lt_of_cell? w _ hx112_0)).trans hx112_0
       replace hx112_1:=(HB.out.cell (World.block_lt_of_cell? w _ hx112_1)).trans hx112_1
       have HR112_1:=Aside0.mk hi112_1
       have HC112_1:=Aside0.mk hl112_1
       clear hi112_1 hl112_1
       replace p112:=eq_true p112
       replace q112:=eq_true q112
       go_wp2
       go_loopg [33] kj2 (fun kq v33 w' => ∃ (x33_2 : Int),v33 = .int .i64 x33_2 ∧ Aside0 (trace_Event.l0 kq ((rd_T53 l0 a1_0).f1) (((rd_T53 l0 a1_0).f1).length : Int) x33_2 a1_0 l1_1 = some r) ∧ Aside0 (kq ≤ kj2) ∧ Aside0 (w'.heap[gb111]? = some (.cells #[.int .i64 a1_0,(.slice A1_1 l1_1.length c1_1)] 59 (0,0))) ∧ Aside0 (Below w.heap.size w w'))
       case atStart => exact ⟨(0),(by first | rfl | (simp;done) | (simp [*];done)),H',⟨Nat.le_refl _⟩,⟨by (with_reducible repeat (first | refine blk_drewN ?_ _ | refine blk_drew ?_ | refine blk_alloc ?_ _));exact BK111.out⟩,⟨by repeat (first | (with_reducible first | exact HB.out | apply below_alloc | apply pw_below_drewN | apply below_drew1 | refine below_set ?_ GE111.out) | exact HB.out)⟩⟩
       case round =>
        clear H'
        try clear c1
        try clear p1
        try clear q1
        try clear hx1
        try clear p2
        try clear c5
        try clear c5b0
        try clear c8
        try clear c9
        try clear c9b0
        try clear c10
        try clear c10b0
        try clear c11
        try clear c11b0
        try clear c11b1
        try clear c11b2
        try clear p11
        try clear q11
        try clear hx11
        try clear hcz12_0
        try clear hcz12_1
        try clear hcz6_0
        try clear hcz6_1
        try clear hcz7_0
        try clear hcz7_1
        try clear hfz12_0
        try clear hfz12_1
        try clear hfz6_0
        try clear hfz6_1
        try clear hfz7_0
        try clear hfz7_1
        try clear hx112_0
        try clear hx112_1
        try clear p112
        try clear p2
        try clear q112
        obtain ⟨x33_2,rfl,HA,HK2,BK111,HB⟩:=hrel
        cases gk with
        | zero => exact absurd HA.out (by simp [trace_Event.l0])
        | succ k2 =>
         have H:=HA.out
         clear HA
         simp only [trace_Event.l0] at H
         by_cases c13 : x33_2 < (((rd_T53 l0 a1_0).f1).length : Int)
         ·rw [if_pos c13] at H
          have c13b0 : decide (x33_2 < (((rd_T53 l0 a1_0).f1).length : Int)) = true:=decide_eq_true c13
          clear c13
          by_cases c14 : 0 ≤ x33_2
          ·rw [if_pos c14] at H
           have c14b0 : decide (0 ≤ x33_2) = true:=decide_eq_true c14
           clear c14
           by_cases c15 : x33_2 < (((rd_T53 l0 a1_0).f1).length : Int)
           ·rw [if_pos c15] at H
            have c15b0 : decide (x33_2 < (((rd_T53 l0 a1_0).f1).length : Int)) = true:=decide_eq_true c15
            clear c15
            by_cases c16 : x33_2 < (l1_1.length : Int)
            ·rw [if_pos c16] at H
             have c16b0 : decide (x33_2 < (l1_1.length : Int)) = true:=decide_eq_true c16
             clear c16
             replace H:=Option.bind_eq_some_iff.mp H
             obtain ⟨t115,A170,H⟩:=H
             replace H : (if t115 = 0 then (trace_Event.l0 k2 ((rd_T53 l0 a1_0).f1) (((rd_T53 l0 a1_0).f1).length : Int) (wrap64 (x33_2 + 1)) a1_0 l1_1) else (some t115)) = some r:=H
             have A17:=Aside0.mk A170
             clear A170
             by_cases c18 : t115 = 0
             ·rw [if_pos c18] at H
              have c18b0 : (t115 == 0) = true:=beq_iff_eq.mpr c18
              have c18b1 : (t115 != 0) = false:=bne_eq_false_iff_eq.mpr c18
              clear c18
              have H':=Aside0.mk H
              clear H
              have p113 : 0 ≤ (x33_2 : Int):=of_decide_eq_true (by first | (with_reducible assumption) | assumption)
              have q113 : x33_2 < (((rd_T53 l0 a1_0).f1).length : Int):=of_decide_eq_true (by first | (with_reducible assumption) | assumption)
              obtain ⟨ad113,e113,hx113_0⟩:=Kd.at_int HR112_1.out x33_2 p113 q113
              cases e113
              replace hx113_0:=(HB.out.cell (World.block_lt_of_cell? w _ hx113_0)).trans hx113_0
              replace p113:=eq_true p113
              replace q113:=eq_true q113
              have hcz19_0 : wr.cell? ⟨gb111,0,none⟩ = some (.int .i64 a1_0):=(blk_cell BK111.out 0).trans rfl
              have hcz19_1 : wr.cell? ⟨gb111,1,none⟩ = some (.slice A1_1 l1_1.length c1_1):=(blk_cell BK111.out 1).trans rfl
              have hfz19_0:=blk_frozen BK111.out 0
              have hfz19_1:=blk_frozen BK111.out 1
              have p114 : 0 ≤ (x33_2 : Int):=of_decide_eq_true (by first | (with_reducible assumption) | assumption)
              have q114 : x33_2 < (l1_1.length : Int):=of_decide_eq_true (by first | (with_reducible assumption) | assumption)
              obtain ⟨ad114,e114,hx114_0,hx114_1,hx114_2⟩:=at_T61 HR1_1.out x33_2 p114 q114
              cases e114
              replace hx114_0:=(HB.out.cell (World.block_lt_of_cell? w _ hx114_0)).trans hx114_0
              replace hx114_1:=(HB.out.cell (World.block_lt_of_cell? w _ hx114_1)).trans hx114_1
              replace hx114_2:=(HB.out.cell (World.block_lt_of_cell? w _ hx114_2)).trans hx114_2
              replace p114:=eq_true p114
              replace q114:=eq_true q114
              go_wp2_with (first | ((with_reducible refine gate_callee (f:=72) rfl ?_);refine goesL_ (some 44) rfl rfl Try.func72 (by kernel_rfl) rfl #[.int .i64 (rd ((rd_T53 l0 a1_0).f1) x33_2),.agg #[.int .i64 ((rd_T61 l1_1 x33_2).f0),.int .i64 ((rd_T61 l1_1 x33_2).f1),.string ((rd_T61 l1_1 x33_2).f2)]] rfl (by (try simp only [List.map_toArray,List.map_cons,List.map_nil]);first | done | rfl | (simp only [List.length_drop,List.length_take];rfl)) ?_;(with_reducible refine (trace_arg.calls k2 (rd ((rd_T53 l0 a1_0).f1) x33_2) ((rd_T61 l1_1 x33_2).f0) ((rd_T61 l1_1 x33_2).f1) ((rd_T61 l1_1 x33_2).f2) t115 _ A17.out).mono ?_);rintro e w20 ⟨rfl,hb⟩;refine ⟨_,rfl,?_⟩;have n0_:=Aside0.mk (blk_below (g:=gb111) (o:=.cells #[.int .i64 a1_0,.slice (some ad114) l1_1.length c1_1] 59 (0,0)) (by (with_reducible repeat (first | refine blk_drewN ?_ _ | refine blk_drew ?_ | refine blk_alloc ?_ _));exact BK111.out) hb);have n1_:=Aside0.mk (below_step (by repeat (first | (with_reducible first | exact HB.out | apply below_alloc | apply pw_below_drewN | apply below_drew1 | refine below_set ?_ GE111.out) | exact HB.out)) hb);clear BK111;clear HB;have BK111:=n0_;have HB:=n1_;clear n0_ n1_;(try clear hb);(try clear hb2);(try clear hk);(try clear hi)))
              go_roundg k2
              case measure => have:=HJ2.out;have:=HK2.out;omega
              case rel => exact ⟨(wrap64 (x33_2 + 1)),(by first | rfl | (simp;done) | (simp [*];done)),H',⟨by have:=HJ2.out;have:=HK2.out;omega⟩,⟨by (with_reducible repeat (first | refine blk_drewN ?_ _ | refine blk_drew ?_ | refine blk_alloc ?_ _));exact BK111.out⟩,⟨by repeat (first | (with_reducible first | exact HB.out | apply below_alloc | apply pw_below_drewN | apply below_drew1 | refine below_set ?_ GE111.out) | exact HB.out)⟩⟩
             ·rw [if_neg c18] at H
              have c18b0 : (t115 == 0) = false:=beq_eq_false_iff_ne.mpr c18
              have c18b1 : (t115 != 0) = true:=bne_iff_ne.mpr c18
              obtain rfl:=Option.some.inj H
              have p113 : 0 ≤ (x33_2 : Int):=of_decide_eq_true (by first | (with_reducible assumption) | assumption)
              have q113 : x33_2 < (((rd_T53 l0 a1_0).f1).length : Int):=of_decide_eq_true (by first | (with_reducible assumption) | assumption)
              obtain ⟨ad113,e113,hx113_0⟩:=Kd.at_int HR112_1.out x33_2 p113 q113
              cases e113
              replace hx113_0:=(HB.out.cell (World.block_lt_of_cell? w _ hx113_0)).trans hx113_0
              replace p113:=eq_true p113
              replace q113:=eq_true q113
              have hcz21_0 : wr.cell? ⟨gb111,0,none⟩ = some (.int .i64 a1_0):=(blk_cell BK111.out 0).trans rfl
              have hcz21_1 : wr.cell? ⟨gb111,1,none⟩ = some (.slice A1_1 l1_1.length c1_1):=(blk_cell BK111.out 1).trans rfl
              have hfz21_0:=blk_frozen BK111.out 0
              have hfz21_1:=blk_frozen BK111.out 1
              have p114 : 0 ≤ (x33_2 : Int):=of_decide_eq_true (by first | (with_reducible assumption) | assumption)
              have q114 : x33_2 < (l1_1.length : Int):=of_decide_eq_true (by first | (with_reducible assumption) | assumption)
              obtain ⟨ad114,e114,hx114_0,hx114_1,hx114_2⟩:=at_T61 HR1_1.out x33_2 p114 q114
              cases e114
              replace hx114_0:=(HB.out.cell (World.block_lt_of_cell? w _ hx114_0)).trans hx114_0
              replace hx114_1:=(HB.out.cell (World.block_lt_of_cell? w _ hx114_1)).trans hx114_1
              replace hx114_2:=(HB.out.cell (World.block_lt_of_cell? w _ hx114_2)).trans hx114_2
              replace p114:=eq_true p114
              replace q114:=eq_true q114
              go_wp2_with (first | ((with_reducible refine gate_callee (f:=72) rfl ?_);refine goesL_ (some 44) rfl rfl Try.func72 (by kernel_rfl) rfl #[.int .i64 (rd ((rd_T53 l0 a1_0).f1) x33_2),.agg #[.int .i64 ((rd_T61 l1_1 x33_2).f0),.int .i64 ((rd_T61 l1_1 x33_2).f1),.string ((rd_T61 l1_1 x33_2).f2)]] rfl (by (try simp only [List.map_toArray,List.map_cons,List.map_nil]);first | done | rfl | (simp only [List.length_drop,List.length_take];rfl)) ?_;(with_reducible refine (trace_arg.calls k2 (rd ((rd_T53 l0 a1_0).f1) x33_2) ((rd_T61 l1_1 x33_2).f0) ((rd_T61 l1_1 x33_2).f1) ((rd_T61 l1_1 x33_2).f2) t115 _ A17.out).mono ?_);rintro e w22 ⟨rfl,hb⟩;refine ⟨_,rfl,?_⟩;have n0_:=Aside0.mk (blk_below (g:=gb111) (o:=.cells #[.int .i64 a1_0,.slice (some ad114) l1_1.length c1_1] 59 (0,0)) (by (with_reducible repeat (first | refine blk_drewN ?_ _ | refine blk_drew ?_ | refine blk_alloc ?_ _));exact BK111.out) hb);have n1_:=Aside0.mk (below_step (by repeat (first | (with_reducible first | exact HB.out | apply below_alloc | apply pw_below_drewN | apply below_drew1 | refine below_set ?_ GE111.out) | exact HB.out)) hb);clear BK111;clear HB;have BK111:=n0_;have HB:=n1_;clear n0_ n1_;(try clear hb);(try clear hb2);(try clear hk);(try clear hi)))
              go_ret
              exact ⟨by first | rfl | (simp [errW_none,errW_some] <;> rfl) | (simp [*,errW_none,errW_some] <;> rfl),by repeat (first | (with_reducible first | exact HB.out | apply below_alloc | apply pw_below_drewN | apply below_drew1 | refine below_set ?_ GE111.out) | exact HB.out)⟩
            ·rw [if_neg c16] at H
             exact absurd H (by simp)
           ·rw [if_neg c15] at H
            exact absurd H (by simp)
          ·rw [if_neg c14] at H
           exact absurd H (by simp)
         ·rw [if_neg c13] at H
          have c13b0 : decide (x33_2 < (((rd_T53 l0 a1_0).f1).length : Int)) = false:=decide_eq_false c13
          clear c13
          obtain rfl:=Option.some.inj H
          go_wp2
          go_ret
          exact ⟨by first | rfl | (simp [errW_none,errW_some] <;> rfl) | (simp [*,errW_none,errW_some] <;> rfl),by repeat (first | (with_reducible first | exact HB.out | apply below_alloc | apply pw_below_drewN | apply below_drew1 | refine below_set ?_ GE111.out) | exact HB.out)⟩
      ·rw [if_neg c11] at H
       have c11b0 : ((((rd_T53 l0 a1_0).f1).length : Int) == (l1_1.length : Int)) = false:=beq_eq_false_iff_ne.mpr c11
       have c11b1 : ((((rd_T53 l0 a1_0).f1).length : Int) != (l1_1.length : Int)) = true:=bne_iff_ne.mpr c11
       have c11b2 : (((rd_T53 l0 a1_0).f1).length == l1_1.length) = false:=by first | simpa using c11 | (simp at c11 ⊢;omega)
       obtain rfl:=Option.some.inj H
       have hcz23_0 : wc.cell? ⟨gb111,0,none⟩ = some (.int .i64 a1_0):=(blk_cell BK111.out 0).trans rfl
       have hcz23_1 : wc.cell? ⟨gb111,1,none⟩ = some (.slice A1_1 l1_1.length c1_1):=(blk_cell BK111.out 1).trans rfl
       have hfz23_0:=blk_frozen BK111.out 0
       have hfz23_1:=blk_frozen BK111.out 1
       have p112 : 0 ≤ (a1_0 : Int):=of_decide_eq_true (by first | (with_reducible assumption) | assumption)
       have q112 : a1_0 < (l0.length : Int):=of_decide_eq_true (by first | (with_reducible assumption) | assumption)
       obtain ⟨ad112,A112_1,c112_1,e112,hx112_0,hx112_1,hl112_1,hi112_1⟩:=at_T53 HR0.out a1_0 p112 q112
       cases e112
       replace hx112_0:=(HB.out.cell (World.block_lt_of_cell? w _ hx112_0)).trans hx112_0
       replace hx112_1:=(HB.out.cell (World.block_lt_of_cell? w _ hx112_1)).trans hx112_1
       have HR112_1:=Aside0.mk hi112_1
       have HC112_1:=Aside0.mk hl112_1
       clear hi112_1 hl112_1
       replace p112:=eq_true p112
       replace q112:=eq_true q112
       go_wp2
       go_ret
       exact ⟨by first | rfl | (simp [errW_none,errW_some] <;> rfl) | (simp [*,errW_none,errW_some] <;> rfl),by repeat (first | (with_reducible first | exact HB.out | apply below_alloc | apply pw_below_drewN | apply below_drew1 | refine below_set ?_ GE111.out) | exact HB.out)⟩
     ·rw [if_neg c10] at H
      exact absurd H (by simp)
    ·rw [if_neg c9] at H
     exact absurd H (by simp)

/-! ### trace_point: function 33 -/
def trace_point.l0 : Nat → List (S53) → List (S59) → Int → Int → Option (Int)
 | 0, _, _, _, _ => none
 | k + 1, x0, x21, x22, x23 => if x23 < x22 then (if 0 ≤ x23 then (if x23 < (x21.length : Int) then ((trace_Event.f k x0 ((rd_T59 x21 x23).f0) ((rd_T59 x21 x23).f1)).bind fun t119 => (if t119 = 0 then (trace_point.l0 k x0 x21 x22 (wrap64 (x23 + 1))) else (some t119))) else (none)) else (none)) else (some 0)
def trace_point.f (k : Nat) (l0 : List (S53)) (a1_0 : Int) (l1_1 : List (S59)) (a2 : Int) : Option (Int) := if a1_0 < a2 then (some 8) else (if (l1_1.length : Int) > 1024 then (some 6) else (trace_point.l0 k l0 l1_1 (l1_1.length : Int) 0))
theorem trace_point.mono_l : ∀ k, (∀ y0 y1 y2 y3, LeO (trace_point.l0 k y0 y1 y2 y3) (trace_point.l0 (k + 1) y0 y1 y2 y3))
 | 0 => fun _ _ _ _ r h => by simp [trace_point.l0] at h
 | k + 1 => by
  have ih0 := trace_point.mono_l k
  ·intro y0 y1 y2 y3
   unfold trace_point.l0
   repeat' first
   | (with_reducible exact ih0 _ _ _ _)
   | (with_reducible exact trace_Event.mono _ _ _ _)
   | (with_reducible exact LeO.refl _)
   | (with_reducible exact LeO.none _)
   | (with_reducible refine LeO.ite ?_ ?_)
   | (with_reducible refine LeO.bind ?_ (fun _ => ?_))
   | exact ih0 _ _ _ _
   | exact trace_Event.mono _ _ _ _
   | exact LeO.none _
   | refine LeO.ite ?_ ?_
   | refine LeO.bind ?_ (fun _ => ?_)
theorem trace_point.mono : ∀ a0 a1 a2 a3 k, LeO (trace_point.f k a0 a1 a2 a3) (trace_point.f (k + 1) a0 a1 a2 a3) := by
 intro a0 a1 a2 a3 k
 have ih0 := trace_point.mono_l k
 unfold trace_point.f
 repeat' first
   | (with_reducible exact ih0 _ _ _ _)
   | (with_reducible exact trace_Event.mono _ _ _ _)
   | (with_reducible exact LeO.refl _)
   | (with_reducible exact LeO.none _)
   | (with_reducible refine LeO.ite ?_ ?_)
   | (with_reducible refine LeO.bind ?_ (fun _ => ?_))
   | exact ih0 _ _ _ _
   | exact trace_Event.mono _ _ _ _
   | exact LeO.none _
   | refine LeO.ite ?_ ?_
   | refine LeO.bind ?_ (fun _ => ?_)
set_option maxHeartbeats 8000000 in
set_option maxRecDepth 100000 in
theorem trace_point.calls (k : Nat) (A0 : Option Addr) (c0 : Nat) (l0 : List (S53)) (a1_0 : Int) (A1_1 : Option Addr) (c1_1 : Nat) (l1_1 : List (S59)) (a2 : Int) (r : Int) (w : World) (hr0 : Kd.C k53 w A0 l0.length l0) (hc0 : l0.length ≤ c0) (hr1_1 : Kd.C k59 w A1_1 l1_1.length l1_1) (hc1_1 : l1_1.length ≤ c1_1) (h : trace_point.f k l0 a1_0 l1_1 a2 = some r) :
  Calls Try.prog 33 #[.slice A0 l0.length c0,.agg #[.int .u64 a1_0,.slice A1_1 l1_1.length c1_1],.int .u64 a2] w fun e w' => e = .returned (.int .i64 r) ∧ Below w.heap.size w w':=by
 have hu56:=Try.underlying56
 have hu59:=Try.underlying59
 have HR0:=Aside0.mk hr0
 have HC0:=Aside0.mk hc0
 clear hr0 hc0
 have HR1_1:=Aside0.mk hr1_1
 have HC1_1:=Aside0.mk hc1_1
 clear hr1_1 hc1_1
 have HB:=Aside0.mk (Below.refl w.heap.size w)
 have H : (if a1_0 < a2 then (some 8) else (if (l1_1.length : Int) > 1024 then (some 6) else (trace_point.l0 k l0 l1_1 (l1_1.length : Int) 0))) = some r:=h
 clear h
 by_cases c4 : a1_0 < a2
 ·rw [if_pos c4] at H
  have c4b0 : decide (a1_0 < a2) = true:=decide_eq_true c4
  clear c4
  obtain rfl:=Option.some.inj H
  go_enter Try.func33,Try.ntmps33
  go_wp2_with (first | ((with_reducible refine gate_dst (N:=4) rfl ?_);refine box_event ?hg (N:=4) ?hd (cs:=#[.int .u64 a1_0,.slice A1_1 l1_1.length c1_1]) (t:=56) ?hr ?_;(case hd => rfl);(case hg => rfl);(case hr => first | (go_simp;done) | (go_simp;rfl));intro gb116 hg w5 hbox hb;have n0_:=Aside0.mk (below_step (by repeat (first | (with_reducible first | exact HB.out | apply below_alloc | apply pw_below_drewN | apply below_drew1) | exact HB.out)) hb);have n1_:=Aside0.mk (hbox);have n2_:=Aside0.mk ((by rw [hg];exact (below_size (by repeat (first | (with_reducible first | exact HB.out | apply below_alloc | apply pw_below_drewN | apply below_drew1) | exact HB.out))) : w.heap.size ≤ gb116));have n3_:=Aside0.mk ((by rw [hg];exact (below_size (by repeat (first | (with_reducible first | exact HB.out | apply below_alloc | apply pw_below_drewN | apply below_drew1) | exact HB.out))) : w.heap.size ≤ gb116));clear HB;have HB:=n0_;have BK116:=n1_;have GW116:=n2_;have GE116:=n3_;clear n0_ n1_ n2_ n3_;clear hb hbox hg;have hcz6_0 : w5.cell? ⟨gb116,0,none⟩ = some (.int .u64 a1_0):=(blk_cell BK116.out 0).trans rfl;have hcz6_1 : w5.cell? ⟨gb116,1,none⟩ = some (.slice A1_1 l1_1.length c1_1):=(blk_cell BK116.out 1).trans rfl;have hfz6_0:=blk_frozen BK116.out 0;have hfz6_1:=blk_frozen BK116.out 1))
  go_ret
  exact ⟨by first | rfl | (simp [errW_none,errW_some] <;> rfl) | (simp [*,errW_none,errW_some] <;> rfl),by repeat (first | (with_reducible first | exact HB.out | apply below_alloc | apply pw_below_drewN | apply below_drew1 | refine below_set ?_ GE116.out) | exact HB.out)⟩
 ·rw [if_neg c4] at H
  have c4b0 : decide (a1_0 < a2) = false:=decide_eq_false c4
  clear c4
  by_cases c7 : (l1_1.length : Int) > 1024
  ·rw [if_pos c7] at H
   have c7b0 : decide (1024 < (l1_1.length : Int)) = true:=decide_eq_true c7
   have c7b1 : decide (1024 < l1_1.length) = true:=decide_eq_true (by omega)
   clear c7
   obtain rfl:=Option.some.inj H
   go_enter Try.func33,Try.ntmps33
   go_wp2_with (first | ((with_reducible refine gate_dst (N:=4) rfl ?_);refine box_event ?hg (N:=4) ?hd (cs:=#[.int .u64 a1_0,.slice A1_1 l1_1.length c1_1]) (t:=56) ?hr ?_;(case hd => rfl);(case hg => rfl);(case hr => first | (go_simp;done) | (go_simp;rfl));intro gb116 hg w8 hbox hb;have n0_:=Aside0.mk (below_step (by repeat (first | (with_reducible first | exact HB.out | apply below_alloc | apply pw_below_drewN | apply below_drew1) | exact HB.out)) hb);have n1_:=Aside0.mk (hbox);have n2_:=Aside0.mk ((by rw [hg];exact (below_size (by repeat (first | (with_reducible first | exact HB.out | apply below_alloc | apply pw_below_drewN | apply below_drew1) | exact HB.out))) : w.heap.size ≤ gb116));have n3_:=Aside0.mk ((by rw [hg];exact (below_size (by repeat (first | (with_reducible first | exact HB.out | apply below_alloc | apply pw_below_drewN | apply below_drew1) | exact HB.out))) : w.heap.size ≤ gb116));clear HB;have HB:=n0_;have BK116:=n1_;have GW116:=n2_;have GE116:=n3_;clear n0_ n1_ n2_ n3_;clear hb hbox hg;have hcz9_0 : w8.cell? ⟨gb116,0,none⟩ = some (.int .u64 a1_0):=(blk_cell BK116.out 0).trans rfl;have hcz9_1 : w8.cell? ⟨gb116,1,none⟩ = some (.slice A1_1 l1_1.length c1_1):=(blk_cell BK116.out 1).trans rfl;have hfz9_0:=blk_frozen BK116.out 0;have hfz9_1:=blk_frozen BK116.out 1))
   go_ret
   exact ⟨by first | rfl | (simp [errW_none,errW_some] <;> rfl) | (simp [*,errW_none,errW_some] <;> rfl),by repeat (first | (with_reducible first | exact HB.out | apply below_alloc | apply pw_below_drewN | apply below_drew1 | refine below_set ?_ GE116.out) | exact HB.out)⟩
  ·rw [if_neg c7] at H
   have c7b0 : decide (1024 < (l1_1.length : Int)) = false:=decide_eq_false c7
   have c7b1 : decide (1024 < l1_1.length) = false:=decide_eq_false (by omega)
   clear c7
   have H':=Aside0.mk H
   clear H
   go_enter Try.func33,Try.ntmps33
   go_wp2_with (first | ((with_reducible refine gate_dst (N:=4) rfl ?_);refine box_event ?hg (N:=4) ?hd (cs:=#[.int .u64 a1_0,.slice A1_1 l1_1.length c1_1]) (t:=56) ?hr ?_;(case hd => rfl);(case hg => rfl);(case hr => first | (go_simp;done) | (go_simp;rfl));intro gb116 hg w10 hbox hb;have n0_:=Aside0.mk (below_step (by repeat (first | (with_reducible first | exact HB.out | apply below_alloc | apply pw_below_drewN | apply below_drew1) | exact HB.out)) hb);have n1_:=Aside0.mk (hbox);have n2_:=Aside0.mk ((by rw [hg];exact (below_size (by repeat (first | (with_reducible first | exact HB.out | apply below_alloc | apply pw_below_drewN | apply below_drew1) | exact HB.out))) : w.heap.size ≤ gb116));have n3_:=Aside0.mk ((by rw [hg];exact (below_size (by repeat (first | (with_reducible first | exact HB.out | apply below_alloc | apply pw_below_drewN | apply below_drew1) | exact HB.out))) : w.heap.size ≤ gb116));clear HB;have HB:=n0_;have BK116:=n1_;have GW116:=n2_;have GE116:=n3_;clear n0_ n1_ n2_ n3_;clear hb hbox hg;have hcz11_0 : w10.cell? ⟨gb116,0,none⟩ = some (.int .u64 a1_0):=(blk_cell BK116.out 0).trans rfl;have hcz11_1 : w10.cell? ⟨gb116,1,none⟩ = some (.slice A1_1 l1_1.length c1_1):=(blk_cell BK116.out 1).trans rfl;have hfz11_0:=blk_frozen BK116.out 0;have hfz11_1:=blk_frozen BK116.out 1))
   go_loopg [23] k (fun kq v23 w' => ∃ (x23_1 : Int),v23 = .int .i64 x23_1 ∧ Aside0 (trace_point.l0 kq l0 l1_1 (l1_1.length : Int) x23_1 = some r) ∧ Aside0 (kq ≤ k) ∧ Aside0 (w'.heap[gb116]? = some (.cells #[.int .u64 a1_0,(.slice A1_1 l1_1.length c1_1)] 56 (0,0))) ∧ Aside0 (Below w.heap.size w w'))
   case atStart => exact ⟨(0),(by first | rfl | (simp;done) | (simp [*];done)),H',⟨Nat.le_refl _⟩,⟨by (with_reducible repeat (first | refine blk_drewN ?_ _ | refine blk_drew ?_ | refine blk_alloc ?_ _));exact BK116.out⟩,⟨by repeat (first | (with_reducible first | exact HB.out | apply below_alloc | apply pw_below_drewN | apply below_drew1 | refine below_set ?_ GE116.out) | exact HB.out)⟩⟩
   case round =>
    clear H'
    try clear c1
    try clear p2
    try clear c3
    try clear c4
    try clear c4b0
    try clear c7
    try clear c7b0
    try clear c7b1
    try clear hcz11_0
    try clear hcz11_1
    try clear hcz6_0
    try clear hcz6_1
    try clear hcz9_0
    try clear hcz9_1
    try clear hfz11_0
    try clear hfz11_1
    try clear hfz6_0
    try clear hfz6_1
    try clear hfz9_0
    try clear hfz9_1
    obtain ⟨x23_1,rfl,HA,HK1,BK116,HB⟩:=hrel
    cases gk with
    | zero => exact absurd HA.out (by simp [trace_point.l0])
    | succ k1 =>
     have H:=HA.out
     clear HA
     simp only [trace_point.l0] at H
     by_cases c12 : x23_1 < (l1_1.length : Int)
     ·rw [if_pos c12] at H
      have c12b0 : decide (x23_1 < (l1_1.length : Int)) = true:=decide_eq_true c12
      clear c12
      by_cases c13 : 0 ≤ x23_1
      ·rw [if_pos c13] at H
       have c13b0 : decide (0 ≤ x23_1) = true:=decide_eq_true c13
       clear c13
       by_cases c14 : x23_1 < (l1_1.length : Int)
       ·rw [if_pos c14] at H
        have c14b0 : decide (x23_1 < (l1_1.length : Int)) = true:=decide_eq_true c14
        clear c14
        replace H:=Option.bind_eq_some_iff.mp H
        obtain ⟨t119,A150,H⟩:=H
        replace H : (if t119 = 0 then (trace_point.l0 k1 l0 l1_1 (l1_1.length : Int) (wrap64 (x23_1 + 1))) else (some t119)) = some r:=H
        have A15:=Aside0.mk A150
        clear A150
        by_cases c16 : t119 = 0
        ·rw [if_pos c16] at H
         have c16b0 : (t119 == 0) = true:=beq_iff_eq.mpr c16
         have c16b1 : (t119 != 0) = false:=bne_eq_false_iff_eq.mpr c16
         clear c16
         have H':=Aside0.mk H
         clear H
         have p117 : 0 ≤ (x23_1 : Int):=of_decide_eq_true (by first | (with_reducible assumption) | assumption)
         have q117 : x23_1 < (l1_1.length : Int):=of_decide_eq_true (by first | (with_reducible assumption) | assumption)
         obtain ⟨ad117,A117_1,c117_1,e117,hx117_0,hx117_1,hl117_1,hi117_1⟩:=at_T59 HR1_1.out x23_1 p117 q117
         cases e117
         replace hx117_0:=(HB.out.cell (World.block_lt_of_cell? w _ hx117_0)).trans hx117_0
         replace hx117_1:=(HB.out.cell (World.block_lt_of_cell? w _ hx117_1)).trans hx117_1
         have HR117_1:=Aside0.mk hi117_1
         have HC117_1:=Aside0.mk hl117_1
         clear hi117_1 hl117_1
         replace p117:=eq_true p117
         replace q117:=eq_true q117
         go_wp2_with (first | ((with_reducible refine gate_dst (N:=8) rfl ?_);refine box_event ?hg (N:=8) ?hd (cs:=#[.int .i64 0,.slice none 0 0]) (t:=59) ?hr ?_;(case hd => rfl);(case hg => rfl);(case hr => first | (go_simp;done) | (go_simp;rfl));intro gb118 hg w17 hbox hb;have n0_:=Aside0.mk (blk_below (g:=gb116) (o:=.cells #[.int .u64 a1_0,.slice (some ad117) l1_1.length c1_1] 56 (0,0)) (by (with_reducible repeat (first | refine blk_drewN ?_ _ | refine blk_drew ?_ | refine blk_alloc ?_ _));exact BK116.out) hb);have n1_:=Aside0.mk (below_step (by repeat (first | (with_reducible first | exact HB.out | apply below_alloc | apply pw_below_drewN | apply below_drew1 | refine below_set ?_ GE116.out) | exact HB.out)) hb);have n2_:=Aside0.mk (hbox);have n3_:=Aside0.mk ((by rw [hg];exact (below_size (by repeat (first | (with_reducible first | exact HB.out | apply below_alloc | apply pw_below_drewN | apply below_drew1 | refine below_set ?_ GE116.out) | exact HB.out))) : w.heap.size ≤ gb118));have n4_:=Aside0.mk ((by rw [hg];exact (below_size (by repeat (first | (with_reducible first | exact HB.out | apply below_alloc | apply pw_below_drewN | apply below_drew1 | refine below_set ?_ GE116.out) | exact HB.out))) : w.heap.size ≤ gb118));have n5_:=Aside0.mk ((by rw [hg];exact Nat.ne_of_lt (blk_lt (g:=gb116) (o:=.cells #[.int .u64 a1_0,.slice (some ad117) l1_1.length c1_1] 56 (0,0)) (by (with_reducible repeat (first | refine blk_drewN ?_ _ | refine blk_drew ?_ | refine blk_alloc ?_ _));exact BK116.out)) : gb116 ≠ gb118));have n6_:=Aside0.mk ((by rw [hg];exact Nat.ne_of_gt (blk_lt (g:=gb116) (o:=.cells #[.int .u64 a1_0,.slice (some ad117) l1_1.length c1_1] 56 (0,0)) (by (with_reducible repeat (first | refine blk_drewN ?_ _ | refine blk_drew ?_ | refine blk_alloc ?_ _));exact BK116.out)) : gb118 ≠ gb116));clear BK116;clear HB;have BK116:=n0_;have HB:=n1_;have BK118:=n2_;have GW118:=n3_;have GE118:=n4_;have NB116_118:=n5_;have NB118_116:=n6_;clear n0_ n1_ n2_ n3_ n4_ n5_ n6_;clear hb hbox hg;have hnb18:=NB118_116.out;have hnc18:=NB116_118.out;have hcz19_0 : w17.cell? ⟨gb118,0,none⟩ = some (.int .i64 0):=(blk_cell BK118.out 0).trans rfl;have hcz19_1 : w17.cell? ⟨gb118,1,none⟩ = some (.slice none 0 0):=(blk_cell BK118.out 1).trans rfl;have hfz19_0:=blk_frozen BK118.out 0;have hfz19_1:=blk_frozen BK118.out 1) | ((with_reducible refine gate_callee (f:=52) rfl ?_);refine goesL_ (some 29) rfl rfl Try.func52 (by kernel_rfl) rfl #[.slice A0 l0.length c0,.agg #[.int .i64 ((rd_T59 l1_1 x23_1).f0),.slice A117_1 ((rd_T59 l1_1 x23_1).f1).length c117_1]] rfl (by (try simp only [List.map_toArray,List.map_cons,List.map_nil]);first | done | rfl | (simp only [List.length_drop,List.length_take];rfl)) ?_;(with_reducible refine (trace_Event.calls k1 _ _ l0 ((rd_T59 l1_1 x23_1).f0) _ _ ((rd_T59 l1_1 x23_1).f1) t119 _ ?side1 ?side2 ?side3 ?side4 A15.out).mono ?_);(case side1 => exact Kd.C_below HR0.out (by repeat (first | (with_reducible first | exact HB.out | apply below_alloc | apply pw_below_drewN | apply below_drew1 | refine below_set ?_ GE116.out | refine below_set ?_ GE118.out) | exact HB.out)));(case side2 => exact HC0.out);(case side3 => exact Kd.C_below HR117_1.out (by repeat (first | (with_reducible first | exact HB.out | apply below_alloc | apply pw_below_drewN | apply below_drew1 | refine below_set ?_ GE116.out | refine below_set ?_ GE118.out) | exact HB.out)));(case side4 => exact HC117_1.out);rintro e w20 ⟨rfl,hb⟩;refine ⟨_,rfl,?_⟩;have n0_:=Aside0.mk (blk_below (g:=gb116) (o:=.cells #[.int .u64 a1_0,.slice (some ad117) l1_1.length c1_1] 56 (0,0)) (by (with_reducible repeat (first | refine blk_drewN ?_ _ | refine blk_drew ?_ | refine blk_alloc ?_ _));refine blk_far ?_ NB116_118.out _;(with_reducible repeat (first | refine blk_drewN ?_ _ | refine blk_drew ?_ | refine blk_alloc ?_ _));refine blk_far ?_ NB116_118.out _;(with_reducible repeat (first | refine blk_drewN ?_ _ | refine blk_drew ?_ | refine blk_alloc ?_ _));exact BK116.out) hb);have n1_:=Aside0.mk (blk_below (g:=gb118) (o:=.cells #[.int .i64 ((rd_T59 l1_1 x23_1).f0),.slice A117_1 ((rd_T59 l1_1 x23_1).f1).length c117_1] 59 (0,0)) (by (with_reducible repeat (first | refine blk_drewN ?_ _ | refine blk_drew ?_ | refine blk_alloc ?_ _));refine blk_put (cs:=#[.int .i64 ((rd_T59 l1_1 x23_1).f0),.slice none 0 0]) ?_ 1 _ rfl;(with_reducible repeat (first | refine blk_drewN ?_ _ | refine blk_drew ?_ | refine blk_alloc ?_ _));refine blk_put (cs:=#[.int .i64 0,.slice none 0 0]) ?_ 0 _ rfl;(with_reducible repeat (first | refine blk_drewN ?_ _ | refine blk_drew ?_ | refine blk_alloc ?_ _));exact BK118.out) hb);have n2_:=Aside0.mk (below_step (by repeat (first | (with_reducible first | exact HB.out | apply below_alloc | apply pw_below_drewN | apply below_drew1 | refine below_set ?_ GE116.out | refine below_set ?_ GE118.out) | exact HB.out)) hb);clear BK116;clear BK118;clear HB;have BK116:=n0_;have BK118:=n1_;have HB:=n2_;clear n0_ n1_ n2_;(try clear hb);(try clear hb2);(try clear hk);(try clear hi)))
         go_roundg k1
         case measure => have:=HK1.out;omega
         case rel => exact ⟨(wrap64 (x23_1 + 1)),(by first | rfl | (simp;done) | (simp [*];done)),H',⟨by have:=HK1.out;omega⟩,⟨by (with_reducible repeat (first | refine blk_drewN ?_ _ | refine blk_drew ?_ | refine blk_alloc ?_ _));exact BK116.out⟩,⟨by repeat (first | (with_reducible first | exact HB.out | apply below_alloc | apply pw_below_drewN | apply below_drew1 | refine below_set ?_ GE116.out | refine below_set ?_ GE118.out) | exact HB.out)⟩⟩
        ·rw [if_neg c16] at H
         have c16b0 : (t119 == 0) = false:=beq_eq_false_iff_ne.mpr c16
         have c16b1 : (t119 != 0) = true:=bne_iff_ne.mpr c16
         obtain rfl:=Option.some.inj H
         have p117 : 0 ≤ (x23_1 : Int):=of_decide_eq_true (by first | (with_reducible assumption) | assumption)
         have q117 : x23_1 < (l1_1.length : Int):=of_decide_eq_true (by first | (with_reducible assumption) | assumption)
         obtain ⟨ad117,A117_1,c117_1,e117,hx117_0,hx117_1,hl117_1,hi117_1⟩:=at_T59 HR1_1.out x23_1 p117 q117
         cases e117
         replace hx117_0:=(HB.out.cell (World.block_lt_of_cell? w _ hx117_0)).trans hx117_0
         replace hx117_1:=(HB.out.cell (World.block_lt_of_cell? w _ hx117_1)).trans hx117_1
         have HR117_1:=Aside0.mk hi117_1
         have HC117_1:=Aside0.mk hl117_1
         clear hi117_1 hl117_1
         replace p117:=eq_true p117
         replace q117:=eq_true q117
         go_wp2_with (first | ((with_reducible refine gate_dst (N:=8) rfl ?_);refine box_event ?hg (N:=8) ?hd (cs:=#[.int .i64 0,.slice none 0 0]) (t:=59) ?hr ?_;(case hd => rfl);(case hg => rfl);(case hr => first | (go_simp;done) | (go_simp;rfl));intro gb118 hg w21 hbox hb;have n0_:=Aside0.mk (blk_below (g:=gb116) (o:=.cells #[.int .u64 a1_0,.slice (some ad117) l1_1.length c1_1] 56 (0,0)) (by (with_reducible repeat (first | refine blk_drewN ?_ _ | refine blk_drew ?_ | refine blk_alloc ?_ _));exact BK116.out) hb);have n1_:=Aside0.mk (below_step (by repeat (first | (with_reducible first | exact HB.out | apply below_alloc | apply pw_below_drewN | apply below_drew1 | refine below_set ?_ GE116.out) | exact HB.out)) hb);have n2_:=Aside0.mk (hbox);have n3_:=Aside0.mk ((by rw [hg];exact (below_size (by repeat (first | (with_reducible first | exact HB.out | apply below_alloc | apply pw_below_drewN | apply below_drew1 | refine below_set ?_ GE116.out) | exact HB.out))) : w.heap.size ≤ gb118));have n4_:=Aside0.mk ((by rw [hg];exact (below_size (by repeat (first | (with_reducible first | exact HB.out | apply below_alloc | apply pw_below_drewN | apply below_drew1 | refine below_set ?_ GE116.out) | exact HB.out))) : w.heap.size ≤ gb118));have n5_:=Aside0.mk ((by rw [hg];exact Nat.ne_of_lt (blk_lt (g:=gb116) (o:=.cells #[.int .u64 a1_0,.slice (some ad117) l1_1.length c1_1] 56 (0,0)) (by (with_reducible repeat (first | refine blk_drewN ?_ _ | refine blk_drew ?_ | refine blk_alloc ?_ _));exact BK116.out)) : gb116 ≠ gb118));have n6_:=Aside0.mk ((by rw [hg];exact Nat.ne_of_gt (blk_lt (g:=gb116) (o:=.cells #[.int .u64 a1_0,.slice (some ad117) l1_1.length c1_1] 56 (0,0)) (by (with_reducible repeat (first | refine blk_drewN ?_ _ | refine blk_drew ?_ | refine blk_alloc ?_ _));exact BK116.out)) : gb118 ≠ gb116));clear BK116;clear HB;have BK116:=n0_;have HB:=n1_;have BK118:=n2_;have GW118:=n3_;have GE118:=n4_;have NB116_118:=n5_;have NB118_116:=n6_;clear n0_ n1_ n2_ n3_ n4_ n5_ n6_;clear hb hbox hg;have hnb22:=NB118_116.out;have hnc22:=NB116_118.out;have hcz23_0 : w21.cell? ⟨gb118,0,none⟩ = some (.int .i64 0):=(blk_cell BK118.out 0).trans rfl;have hcz23_1 : w21.cell? ⟨gb118,1,none⟩ = some (.slice none 0 0):=(blk_cell BK118.out 1).trans rfl;have hfz23_0:=blk_frozen BK118.out 0;have hfz23_1:=blk_frozen BK118.out 1) | ((with_reducible refine gate_callee (f:=52) rfl ?_);refine goesL_ (some 29) rfl rfl Try.func52 (by kernel_rfl) rfl #[.slice A0 l0.length c0,.agg #[.int .i64 ((rd_T59 l1_1 x23_1).f0),.slice A117_1 ((rd_T59 l1_1 x23_1).f1).length c117_1]] rfl (by (try simp only [List.map_toArray,List.map_cons,List.map_nil]);first | done | rfl | (simp only [List.length_drop,List.length_take];rfl)) ?_;(with_reducible refine (trace_Event.calls k1 _ _ l0 ((rd_T59 l1_1 x23_1).f0) _ _ ((rd_T59 l1_1 x23_1).f1) t119 _ ?side1 ?side2 ?side3 ?side4 A15.out).mono ?_);(case side1 => exact Kd.C_below HR0.out (by repeat (first | (with_reducible first | exact HB.out | apply below_alloc | apply pw_below_drewN | apply below_drew1 | refine below_set ?_ GE116.out | refine below_set ?_ GE118.out) | exact HB.out)));(case side2 => exact HC0.out);(case side3 => exact Kd.C_below HR117_1.out (by repeat (first | (with_reducible first | exact HB.out | apply below_alloc | apply pw_below_drewN | apply below_drew1 | refine below_set ?_ GE116.out | refine below_set ?_ GE118.out) | exact HB.out)));(case side4 => exact HC117_1.out);rintro e w24 ⟨rfl,hb⟩;refine ⟨_,rfl,?_⟩;have n0_:=Aside0.mk (blk_below (g:=gb116) (o:=.cells #[.int .u64 a1_0,.slice (some ad117) l1_1.length c1_1] 56 (0,0)) (by (with_reducible repeat (first | refine blk_drewN ?_ _ | refine blk_drew ?_ | refine blk_alloc ?_ _));refine blk_far ?_ NB116_118.out _;(with_reducible repeat (first | refine blk_drewN ?_ _ | refine blk_drew ?_ | refine blk_alloc ?_ _));refine blk_far ?_ NB116_118.out _;(with_reducible repeat (first | refine blk_drewN ?_ _ | refine blk_drew ?_ | refine blk_alloc ?_ _));exact BK116.out) hb);have n1_:=Aside0.mk (blk_below (g:=gb118) (o:=.cells #[.int .i64 ((rd_T59 l1_1 x23_1).f0),.slice A117_1 ((rd_T59 l1_1 x23_1).f1).length c117_1] 59 (0,0)) (by (with_reducible repeat (first | refine blk_drewN ?_ _ | refine blk_drew ?_ | refine blk_alloc ?_ _));refine blk_put (cs:=#[.int .i64 ((rd_T59 l1_1 x23_1).f0),.slice none 0 0]) ?_ 1 _ rfl;(with_reducible repeat (first | refine blk_drewN ?_ _ | refine blk_drew ?_ | refine blk_alloc ?_ _));refine blk_put (cs:=#[.int .i64 0,.slice none 0 0]) ?_ 0 _ rfl;(with_reducible repeat (first | refine blk_drewN ?_ _ | refine blk_drew ?_ | refine blk_alloc ?_ _));exact BK118.out) hb);have n2_:=Aside0.mk (below_step (by repeat (first | (with_reducible first | exact HB.out | apply below_alloc | apply pw_below_drewN | apply below_drew1 | refine below_set ?_ GE116.out | refine below_set ?_ GE118.out) | exact HB.out)) hb);clear BK116;clear BK118;clear HB;have BK116:=n0_;have BK118:=n1_;have HB:=n2_;clear n0_ n1_ n2_;(try clear hb);(try clear hb2);(try clear hk);(try clear hi)))
         go_ret
         exact ⟨by first | rfl | (simp [errW_none,errW_some] <;> rfl) | (simp [*,errW_none,errW_some] <;> rfl),by repeat (first | (with_reducible first | exact HB.out | apply below_alloc | apply pw_below_drewN | apply below_drew1 | refine below_set ?_ GE116.out | refine below_set ?_ GE118.out) | exact HB.out)⟩
       ·rw [if_neg c14] at H
        exact absurd H (by simp)
      ·rw [if_neg c13] at H
       exact absurd H (by simp)
     ·rw [if_neg c12] at H
      have c12b0 : decide (x23_1 < (l1_1.length : Int)) = false:=decide_eq_false c12
      clear c12
      obtain rfl:=Option.some.inj H
      go_wp2
      go_ret
      exact ⟨by first | rfl | (simp [errW_none,errW_some] <;> rfl) | (simp [*,errW_none,errW_some] <;> rfl),by repeat (first | (with_reducible first | exact HB.out | apply below_alloc | apply pw_below_drewN | apply below_drew1 | refine below_set ?_ GE116.out) | exact HB.out)⟩

/-! ### trace_Check: function 16 -/
def trace_Check.l0 : Nat → List (S53) → Int → List (S56) → Int → Int → Option (Int × Int)
 | 0, _, _, _, _, _ => none
 | k + 1, x0, x7, x16, x17, x18 => if x18 < x17 then (if 0 ≤ x18 then (if x18 < (x16.length : Int) then ((trace_point.f k x0 ((rd_T56 x16 x18).f0) ((rd_T56 x16 x18).f1) x7).bind fun t123 => (if t123 = 0 then (trace_Check.l0 k x0 ((rd_T56 x16 x18).f0) x16 x17 (wrap64 (x18 + 1))) else (some (t123, x18)))) else (none)) else (none)) else (some (0, 0))
def trace_Check.f (k : Nat) (l0 : List (S53)) (l1 : List (S56)) : Option (Int × Int) := (sig_Check.f k l0).bind fun t120 => (if t120 = 0 then (trace_Check.l0 k l0 0 l1 (l1.length : Int) 0) else (some (t120, 0)))
theorem trace_Check.mono_l : ∀ k, (∀ y0 y1 y2 y3 y4, LeO (trace_Check.l0 k y0 y1 y2 y3 y4) (trace_Check.l0 (k + 1) y0 y1 y2 y3 y4))
 | 0 => fun _ _ _ _ _ r h => by simp [trace_Check.l0] at h
 | k + 1 => by
  have ih0 := trace_Check.mono_l k
  ·intro y0 y1 y2 y3 y4
   unfold trace_Check.l0
   repeat' first
   | (with_reducible exact ih0 _ _ _ _ _)
   | (with_reducible exact sig_Check.mono _ _)
   | (with_reducible exact trace_point.mono _ _ _ _ _)
   | (with_reducible exact LeO.refl _)
   | (with_reducible exact LeO.none _)
   | (with_reducible refine LeO.ite ?_ ?_)
   | (with_reducible refine LeO.bind ?_ (fun _ => ?_))
   | exact ih0 _ _ _ _ _
   | exact sig_Check.mono _ _
   | exact trace_point.mono _ _ _ _ _
   | exact LeO.none _
   | refine LeO.ite ?_ ?_
   | refine LeO.bind ?_ (fun _ => ?_)
theorem trace_Check.mono : ∀ a0 a1 k, LeO (trace_Check.f k a0 a1) (trace_Check.f (k + 1) a0 a1) := by
 intro a0 a1 k
 have ih0 := trace_Check.mono_l k
 unfold trace_Check.f
 repeat' first
   | (with_reducible exact ih0 _ _ _ _ _)
   | (with_reducible exact sig_Check.mono _ _)
   | (with_reducible exact trace_point.mono _ _ _ _ _)
   | (with_reducible exact LeO.refl _)
   | (with_reducible exact LeO.none _)
   | (with_reducible refine LeO.ite ?_ ?_)
   | (with_reducible refine LeO.bind ?_ (fun _ => ?_))
   | exact ih0 _ _ _ _ _
   | exact sig_Check.mono _ _
   | exact trace_point.mono _ _ _ _ _
   | exact LeO.none _
   | refine LeO.ite ?_ ?_
   | refine LeO.bind ?_ (fun _ => ?_)
set_option maxHeartbeats 8000000 in
set_option maxRecDepth 100000 in
theorem trace_Check.calls (k : Nat) (A0 : Option Addr) (c0 : Nat) (l0 : List (S53)) (A1 : Option Addr) (c1 : Nat) (l1 : List (S56)) (r1 : Int) (r2 : Int) (w : World) (hr0 : Kd.C k53 w A0 l0.length l0) (hc0 : l0.length ≤ c0) (hr1 : Kd.C k56 w A1 l1.length l1) (hc1 : l1.length ≤ c1) (h : trace_Check.f k l0 l1 = some (r1,r2)) :
  Calls Try.prog 16 #[.slice A0 l0.length c0,.slice A1 l1.length c1] w fun e w' => e = .returned (.tuple #[.int .i64 r1,.int .i64 r2]) ∧ Below w.heap.size w w':=by
 have hu56:=Try.underlying56
 have HR0:=Aside0.mk hr0
 have HC0:=Aside0.mk hc0
 clear hr0 hc0
 have HR1:=Aside0.mk hr1
 have HC1:=Aside0.mk hc1
 clear hr1 hc1
 have HB:=Aside0.mk (Below.refl w.heap.size w)
 have H : ((sig_Check.f k l0).bind fun t120 => (if t120 = 0 then (trace_Check.l0 k l0 0 l1 (l1.length : Int) 0) else (some (t120,0)))) = some (r1,r2):=h
 clear h
 replace H:=Option.bind_eq_some_iff.mp H
 obtain ⟨t120,A30,H⟩:=H
 replace H : (if t120 = 0 then (trace_Check.l0 k l0 0 l1 (l1.length : Int) 0) else (some (t120,0))) = some (r1,r2):=H
 have A3:=Aside0.mk A30
 clear A30
 by_cases c4 : t120 = 0
 ·rw [if_pos c4] at H
  have c4b0 : (t120 == 0) = true:=beq_iff_eq.mpr c4
  have c4b1 : (t120 != 0) = false:=bne_eq_false_iff_eq.mpr c4
  clear c4
  have H':=Aside0.mk H
  clear H
  go_enter Try.func16,Try.ntmps16
  go_wp2_with (first | ((with_reducible refine gate_callee (f:=20) rfl ?_);refine goesL_ (some 12) rfl rfl Try.func20 (by kernel_rfl) rfl #[.slice A0 l0.length c0] rfl (by (try simp only [List.map_toArray,List.map_cons,List.map_nil]);first | done | rfl | (simp only [List.length_drop,List.length_take];rfl)) ?_;(with_reducible refine (sig_Check.calls k _ _ l0 t120 _ ?side1 ?side2 A3.out).mono ?_);(case side1 => repeat (first | exact HR0.out | (with_reducible refine Kd.C_alloc ?_ _) | (with_reducible refine Kd.C_drewN ?_ _) | (with_reducible refine Kd.C_drew ?_)));(case side2 => exact HC0.out);rintro e w5 ⟨rfl,hb⟩;refine ⟨_,rfl,?_⟩;have n0_:=Aside0.mk (below_step (by repeat (first | (with_reducible first | exact HB.out | apply below_alloc | apply pw_below_drewN | apply below_drew1) | exact HB.out)) hb);clear HB;have HB:=n0_;clear n0_;(try clear hb);(try clear hb2);(try clear hk);(try clear hi)))
  go_loopg [7,18] k (fun kq v7 v18 w' => ∃ (x7_1 : Int) (x18_1 : Int),v7 = .int .u64 x7_1 ∧ v18 = .int .i64 x18_1 ∧ Aside0 (trace_Check.l0 kq l0 x7_1 l1 (l1.length : Int) x18_1 = some (r1,r2)) ∧ Aside0 (kq ≤ k) ∧ Aside0 (Below w.heap.size w w'))
  case atStart => exact ⟨(0),(0),(by first | rfl | (simp;done) | (simp [*];done)),(by first | rfl | (simp;done) | (simp [*];done)),H',⟨Nat.le_refl _⟩,⟨by repeat (first | (with_reducible first | exact HB.out | apply below_alloc | apply pw_below_drewN | apply below_drew1) | exact HB.out)⟩⟩
  case round =>
   clear H'
   try clear c1
   try clear c2
   try clear p2
   try clear c4
   try clear c4b0
   try clear c4b1
   obtain ⟨x7_1,x18_1,rfl,rfl,HA,HK1,HB⟩:=hrel
   cases gk with
   | zero => exact absurd HA.out (by simp [trace_Check.l0])
   | succ k1 =>
    have H:=HA.out
    clear HA
    simp only [trace_Check.l0] at H
    by_cases c6 : x18_1 < (l1.length : Int)
    ·rw [if_pos c6] at H
     have c6b0 : decide (x18_1 < (l1.length : Int)) = true:=decide_eq_true c6
     clear c6
     by_cases c7 : 0 ≤ x18_1
     ·rw [if_pos c7] at H
      have c7b0 : decide (0 ≤ x18_1) = true:=decide_eq_true c7
      clear c7
      by_cases c8 : x18_1 < (l1.length : Int)
      ·rw [if_pos c8] at H
       have c8b0 : decide (x18_1 < (l1.length : Int)) = true:=decide_eq_true c8
       clear c8
       replace H:=Option.bind_eq_some_iff.mp H
       obtain ⟨t123,A90,H⟩:=H
       replace H : (if t123 = 0 then (trace_Check.l0 k1 l0 ((rd_T56 l1 x18_1).f0) l1 (l1.length : Int) (wrap64 (x18_1 + 1))) else (some (t123,x18_1))) = some (r1,r2):=H
       have A9:=Aside0.mk A90
       clear A90
       by_cases c10 : t123 = 0
       ·rw [if_pos c10] at H
        have c10b0 : (t123 == 0) = true:=beq_iff_eq.mpr c10
        have c10b1 : (t123 != 0) = false:=bne_eq_false_iff_eq.mpr c10
        clear c10
        have H':=Aside0.mk H
        clear H
        have p121 : 0 ≤ (x18_1 : Int):=of_decide_eq_true (by first | (with_reducible assumption) | assumption)
        have q121 : x18_1 < (l1.length : Int):=of_decide_eq_true (by first | (with_reducible assumption) | assumption)
        obtain ⟨ad121,A121_1,c121_1,e121,hx121_0,hx121_1,hl121_1,hi121_1⟩:=at_T56 HR1.out x18_1 p121 q121
        cases e121
        replace hx121_0:=(HB.out.cell (World.block_lt_of_cell? w _ hx121_0)).trans hx121_0
        replace hx121_1:=(HB.out.cell (World.block_lt_of_cell? w _ hx121_1)).trans hx121_1
        have HR121_1:=Aside0.mk hi121_1
        have HC121_1:=Aside0.mk hl121_1
        clear hi121_1 hl121_1
        replace p121:=eq_true p121
        replace q121:=eq_true q121
        go_wp2_with (first | ((with_reducible refine gate_dst (N:=9) rfl ?_);refine box_event ?hg (N:=9) ?hd (cs:=#[.int .u64 0,.slice none 0 0]) (t:=56) ?hr ?_;(case hd => rfl);(case hg => rfl);(case hr => first | (go_simp;done) | (go_simp;rfl));intro gb122 hg w11 hbox hb;have n0_:=Aside0.mk (below_step (by repeat (first | (with_reducible first | exact HB.out | apply below_alloc | apply pw_below_drewN | apply below_drew1) | exact HB.out)) hb);have n1_:=Aside0.mk (hbox);have n2_:=Aside0.mk ((by rw [hg];exact (below_size (by repeat (first | (with_reducible first | exact HB.out | apply below_alloc | apply pw_below_drewN | apply below_drew1) | exact HB.out))) : w.heap.size ≤ gb122));have n3_:=Aside0.mk ((by rw [hg];exact (below_size (by repeat (first | (with_reducible first | exact HB.out | apply below_alloc | apply pw_below_drewN | apply below_drew1) | exact HB.out))) : w.heap.size ≤ gb122));clear HB;have HB:=n0_;have BK122:=n1_;have GW122:=n2_;have GE122:=n3_;clear n0_ n1_ n2_ n3_;clear hb hbox hg;have hcz12_0 : w11.cell? ⟨gb122,0,none⟩ = some (.int .u64 0):=(blk_cell BK122.out 0).trans rfl;have hcz12_1 : w11.cell? ⟨gb122,1,none⟩ = some (.slice none 0 0):=(blk_cell BK122.out 1).trans rfl;have hfz12_0:=blk_frozen BK122.out 0;have hfz12_1:=blk_frozen BK122.out 1) | ((with_reducible refine gate_callee (f:=33) rfl ?_);refine goesL_ (some 26) rfl rfl Try.func33 (by kernel_rfl) rfl #[.slice A0 l0.length c0,.agg #[.int .u64 ((rd_T56 l1 x18_1).f0),.slice A121_1 ((rd_T56 l1 x18_1).f1).length c121_1],.int .u64 x7_1] rfl (by (try simp only [List.map_toArray,List.map_cons,List.map_nil]);first | done | rfl | (simp only [List.length_drop,List.length_take];rfl)) ?_;(with_reducible refine (trace_point.calls k1 _ _ l0 ((rd_T56 l1 x18_1).f0) _ _ ((rd_T56 l1 x18_1).f1) x7_1 t123 _ ?side1 ?side2 ?side3 ?side4 A9.out).mono ?_);(case side1 => exact Kd.C_below HR0.out (by repeat (first | (with_reducible first | exact HB.out | apply below_alloc | apply pw_below_drewN | apply below_drew1 | refine below_set ?_ GE122.out) | exact HB.out)));(case side2 => exact HC0.out);(case side3 => exact Kd.C_below HR121_1.out (by repeat (first | (with_reducible first | exact HB.out | apply below_alloc | apply pw_below_drewN | apply below_drew1 | refine below_set ?_ GE122.out) | exact HB.out)));(case side4 => exact HC121_1.out);rintro e w13 ⟨rfl,hb⟩;refine ⟨_,rfl,?_⟩;have n0_:=Aside0.mk (blk_below (g:=gb122) (o:=.cells #[.int .u64 ((rd_T56 l1 x18_1).f0),.slice A121_1 ((rd_T56 l1 x18_1).f1).length c121_1] 56 (0,0)) (by (with_reducible repeat (first | refine blk_drewN ?_ _ | refine blk_drew ?_ | refine blk_alloc ?_ _));refine blk_put (cs:=#[.int .u64 ((rd_T56 l1 x18_1).f0),.slice none 0 0]) ?_ 1 _ rfl;(with_reducible repeat (first | refine blk_drewN ?_ _ | refine blk_drew ?_ | refine blk_alloc ?_ _));refine blk_put (cs:=#[.int .u64 0,.slice none 0 0]) ?_ 0 _ rfl;(with_reducible repeat (first | refine blk_drewN ?_ _ | refine blk_drew ?_ | refine blk_alloc ?_ _));exact BK122.out) hb);have n1_:=Aside0.mk (below_step (by repeat (first | (with_reducible first | exact HB.out | apply below_alloc | apply pw_below_drewN | apply below_drew1 | refine below_set ?_ GE122.out) | exact HB.out)) hb);clear BK122;clear HB;have BK122:=n0_;have HB:=n1_;clear n0_ n1_;(try clear hb);(try clear hb2);(try clear hk);(try clear hi);have hcz14_0 : w13.cell? ⟨gb122,0,none⟩ = some (.int .u64 ((rd_T56 l1 x18_1).f0)):=(blk_cell BK122.out 0).trans rfl;have hcz14_1 : w13.cell? ⟨gb122,1,none⟩ = some (.slice A121_1 ((rd_T56 l1 x18_1).f1).length c121_1):=(blk_cell BK122.out 1).trans rfl;have hfz14_0:=blk_frozen BK122.out 0;have hfz14_1:=blk_frozen BK122.out 1))
        go_roundg k1
        case measure => have:=HK1.out;omega
        case rel => exact ⟨((rd_T56 l1 x18_1).f0),(wrap64 (x18_1 + 1)),(by first | rfl | (simp;done) | (simp [*];done)),(by first | rfl | (simp;done) | (simp [*];done)),H',⟨by have:=HK1.out;omega⟩,⟨by repeat (first | (with_reducible first | exact HB.out | apply below_alloc | apply pw_below_drewN | apply below_drew1 | refine below_set ?_ GE122.out) | exact HB.out)⟩⟩
       ·rw [if_neg c10] at H
        have c10b0 : (t123 == 0) = false:=beq_eq_false_iff_ne.mpr c10
        have c10b1 : (t123 != 0) = true:=bne_iff_ne.mpr c10
        simp only [Option.some.injEq,Prod.mk.injEq] at H
        obtain ⟨rfl,rfl⟩:=H
        have p121 : 0 ≤ (x18_1 : Int):=of_decide_eq_true (by first | (with_reducible assumption) | assumption)
        have q121 : x18_1 < (l1.length : Int):=of_decide_eq_true (by first | (with_reducible assumption) | assumption)
        obtain ⟨ad121,A121_1,c121_1,e121,hx121_0,hx121_1,hl121_1,hi121_1⟩:=at_T56 HR1.out x18_1 p121 q121
        cases e121
        replace hx121_0:=(HB.out.cell (World.block_lt_of_cell? w _ hx121_0)).trans hx121_0
        replace hx121_1:=(HB.out.cell (World.block_lt_of_cell? w _ hx121_1)).trans hx121_1
        have HR121_1:=Aside0.mk hi121_1
        have HC121_1:=Aside0.mk hl121_1
        clear hi121_1 hl121_1
        replace p121:=eq_true p121
        replace q121:=eq_true q121
        go_wp2_with (first | ((with_reducible refine gate_dst (N:=9) rfl ?_);refine box_event ?hg (N:=9) ?hd (cs:=#[.int .u64 0,.slice none 0 0]) (t:=56) ?hr ?_;(case hd => rfl);(case hg => rfl);(case hr => first | (go_simp;done) | (go_simp;rfl));intro gb122 hg w15 hbox hb;have n0_:=Aside0.mk (below_step (by repeat (first | (with_reducible first | exact HB.out | apply below_alloc | apply pw_below_drewN | apply below_drew1) | exact HB.out)) hb);have n1_:=Aside0.mk (hbox);have n2_:=Aside0.mk ((by rw [hg];exact (below_size (by repeat (first | (with_reducible first | exact HB.out | apply below_alloc | apply pw_below_drewN | apply below_drew1) | exact HB.out))) : w.heap.size ≤ gb122));have n3_:=Aside0.mk ((by rw [hg];exact (below_size (by repeat (first | (with_reducible first | exact HB.out | apply below_alloc | apply pw_below_drewN | apply below_drew1) | exact HB.out))) : w.heap.size ≤ gb122));clear HB;have HB:=n0_;have BK122:=n1_;have GW122:=n2_;have GE122:=n3_;clear n0_ n1_ n2_ n3_;clear hb hbox hg;have hcz16_0 : w15.cell? ⟨gb122,0,none⟩ = some (.int .u64 0):=(blk_cell BK122.out 0).trans rfl;have hcz16_1 : w15.cell? ⟨gb122,1,none⟩ = some (.slice none 0 0):=(blk_cell BK122.out 1).trans rfl;have hfz16_0:=blk_frozen BK122.out 0;have hfz16_1:=blk_frozen BK122.out 1) | ((with_reducible refine gate_callee (f:=33) rfl ?_);refine goesL_ (some 26) rfl rfl Try.func33 (by kernel_rfl) rfl #[.slice A0 l0.length c0,.agg #[.int .u64 ((rd_T56 l1 x18_1).f0),.slice A121_1 ((rd_T56 l1 x18_1).f1).length c121_1],.int .u64 x7_1] rfl (by (try simp only [List.map_toArray,List.map_cons,List.map_nil]);first | done | rfl | (simp only [List.length_drop,List.length_take];rfl)) ?_;(with_reducible refine (trace_point.calls k1 _ _ l0 ((rd_T56 l1 x18_1).f0) _ _ ((rd_T56 l1 x18_1).f1) x7_1 t123 _ ?side1 ?side2 ?side3 ?side4 A9.out).mono ?_);(case side1 => exact Kd.C_below HR0.out (by repeat (first | (with_reducible first | exact HB.out | apply below_alloc | apply pw_below_drewN | apply below_drew1 | refine below_set ?_ GE122.out) | exact HB.out)));(case side2 => exact HC0.out);(case side3 => exact Kd.C_below HR121_1.out (by repeat (first | (with_reducible first | exact HB.out | apply below_alloc | apply pw_below_drewN | apply below_drew1 | refine below_set ?_ GE122.out) | exact HB.out)));(case side4 => exact HC121_1.out);rintro e w17 ⟨rfl,hb⟩;refine ⟨_,rfl,?_⟩;have n0_:=Aside0.mk (blk_below (g:=gb122) (o:=.cells #[.int .u64 ((rd_T56 l1 x18_1).f0),.slice A121_1 ((rd_T56 l1 x18_1).f1).length c121_1] 56 (0,0)) (by (with_reducible repeat (first | refine blk_drewN ?_ _ | refine blk_drew ?_ | refine blk_alloc ?_ _));refine blk_put (cs:=#[.int .u64 ((rd_T56 l1 x18_1).f0),.slice none 0 0]) ?_ 1 _ rfl;(with_reducible repeat (first | refine blk_drewN ?_ _ | refine blk_drew ?_ | refine blk_alloc ?_ _));refine blk_put (cs:=#[.int .u64 0,.slice none 0 0]) ?_ 0 _ rfl;(with_reducible repeat (first | refine blk_drewN ?_ _ | refine blk_drew ?_ | refine blk_alloc ?_ _));exact BK122.out) hb);have n1_:=Aside0.mk (below_step (by repeat (first | (with_reducible first | exact HB.out | apply below_alloc | apply pw_below_drewN | apply below_drew1 | refine below_set ?_ GE122.out) | exact HB.out)) hb);clear BK122;clear HB;have BK122:=n0_;have HB:=n1_;clear n0_ n1_;(try clear hb);(try clear hb2);(try clear hk);(try clear hi)))
        go_ret2
        exact ⟨by first | rfl | (simp [errW_none,errW_some] <;> rfl) | (simp [*,errW_none,errW_some] <;> rfl),by repeat (first | (with_reducible first | exact HB.out | apply below_alloc | apply pw_below_drewN | apply below_drew1 | refine below_set ?_ GE122.out) | exact HB.out)⟩
      ·rw [if_neg c8] at H
       exact absurd H (by simp)
     ·rw [if_neg c7] at H
      exact absurd H (by simp)
    ·rw [if_neg c6] at H
     have c6b0 : decide (x18_1 < (l1.length : Int)) = false:=decide_eq_false c6
     clear c6
     simp only [Option.some.injEq,Prod.mk.injEq] at H
     obtain ⟨rfl,rfl⟩:=H
     go_wp2
     go_ret2
     exact ⟨by first | rfl | (simp [errW_none,errW_some] <;> rfl) | (simp [*,errW_none,errW_some] <;> rfl),by repeat (first | (with_reducible first | exact HB.out | apply below_alloc | apply pw_below_drewN | apply below_drew1) | exact HB.out)⟩
 ·rw [if_neg c4] at H
  have c4b0 : (t120 == 0) = false:=beq_eq_false_iff_ne.mpr c4
  have c4b1 : (t120 != 0) = true:=bne_iff_ne.mpr c4
  simp only [Option.some.injEq,Prod.mk.injEq] at H
  obtain ⟨rfl,rfl⟩:=H
  go_enter Try.func16,Try.ntmps16
  go_wp2_with (first | ((with_reducible refine gate_callee (f:=20) rfl ?_);refine goesL_ (some 12) rfl rfl Try.func20 (by kernel_rfl) rfl #[.slice A0 l0.length c0] rfl (by (try simp only [List.map_toArray,List.map_cons,List.map_nil]);first | done | rfl | (simp only [List.length_drop,List.length_take];rfl)) ?_;(with_reducible refine (sig_Check.calls k _ _ l0 t120 _ ?side1 ?side2 A3.out).mono ?_);(case side1 => repeat (first | exact HR0.out | (with_reducible refine Kd.C_alloc ?_ _) | (with_reducible refine Kd.C_drewN ?_ _) | (with_reducible refine Kd.C_drew ?_)));(case side2 => exact HC0.out);rintro e w18 ⟨rfl,hb⟩;refine ⟨_,rfl,?_⟩;have n0_:=Aside0.mk (below_step (by repeat (first | (with_reducible first | exact HB.out | apply below_alloc | apply pw_below_drewN | apply below_drew1) | exact HB.out)) hb);clear HB;have HB:=n0_;clear n0_;(try clear hb);(try clear hb2);(try clear hk);(try clear hi)))
  go_ret2
  exact ⟨by first | rfl | (simp [errW_none,errW_some] <;> rfl) | (simp [*,errW_none,errW_some] <;> rfl),by repeat (first | (with_reducible first | exact HB.out | apply below_alloc | apply pw_below_drewN | apply below_drew1) | exact HB.out)⟩

/-! #### struct type 143 -/
/-- A dictionary at block g of W: its texts. -/
abbrev IsS143 (w0 W : World) (g : Nat) (f0 : ByteArray) : Prop := Go.Proofs.YtmmfakdncjeoeaaAid.IsDict w0 W g (Go.Proofs.YtmmfakdncjeoeaaAid.ddec f0)
theorem IsS143.below {w0 W : World} {g : Nat} {f0 : ByteArray} {W1 : World} (h : IsS143 w0 W g f0) (hw : Below W.heap.size W W1) : IsS143 w0 W1 g f0 := Go.Proofs.YtmmfakdncjeoeaaAid.IsDict.below h hw
theorem IsS143.alloc {w0 W : World} {g : Nat} {f0 : ByteArray} (h : IsS143 w0 W g f0) (o : Obj) : IsS143 w0 (W.alloc o) g f0 := Go.Proofs.YtmmfakdncjeoeaaAid.IsDict.alloc h o
theorem IsS143.drewN {w0 W : World} {g : Nat} {f0 : ByteArray} (h : IsS143 w0 W g f0) (m : Nat) : IsS143 w0 (W.drewN m) g f0 := Go.Proofs.YtmmfakdncjeoeaaAid.IsDict.drewN h m
theorem IsS143.drew {w0 W : World} {g : Nat} {f0 : ByteArray} (h : IsS143 w0 W g f0) : IsS143 w0 W.drew g f0 := Go.Proofs.YtmmfakdncjeoeaaAid.IsDict.drew h
theorem IsS143.at_ {w0 W : World} {g : Nat} {f0 : ByteArray} {w' : World} {m : Nat} (hq : W.drewN m = w') (h : IsS143 w0 W g f0) : IsS143 w0 w' g f0 := Go.Proofs.YtmmfakdncjeoeaaAid.IsDict.at_ hq h
theorem IsS143.farT {w0 W : World} {g : Nat} {f0 : ByteArray} (h : IsS143 w0 W g f0) {a o : Nat} {t : TypeId} (hT : Go.Proofs.YtmmfakdncjeoeaaAid.TyAt W a t) (h1 : t ≠ 9) (h2 : t ≠ 143) (u : Value) : IsS143 w0 (W.setCell ⟨a, o, none⟩ u) g f0 := Go.Proofs.YtmmfakdncjeoeaaAid.IsDict.farT h hT h1 h2 u
theorem IsS143.apart {w0 W : World} {g : Nat} {f0 : ByteArray} {α : Type} {d : Kd α} {e : Nat} {base : Nat} {ok : Nat → Prop} {v : Value} {xs : List α} (h : IsS143 w0 W g f0) (ho : d.R e W base ok v xs) (ht : ∀ q, q ∈ e :: d.E → q ≠ 143) : d.R e W base (fun k => ok k ∧ k ≠ g) v xs := Go.Proofs.YtmmfakdncjeoeaaAid.IsDict.rows h ho ht
theorem IsS143.own_ne {w0 W : World} {g : Nat} {f0 : ByteArray} {α : Type} {d : Kd α} {e : Nat} {base : Nat} {ok : Nat → Prop} {v : Value} {xs : List α} (h : IsS143 w0 W g f0) (ho : d.R e W base ok v xs) (ht : e ≠ 143) : some g ≠ v.ownBlock := Go.Proofs.YtmmfakdncjeoeaaAid.IsDict.own_ne h ho ht
theorem IsS143.lt {w0 W : World} {g : Nat} {f0 : ByteArray} (h : IsS143 w0 W g f0) : g < W.heap.size := Go.Proofs.YtmmfakdncjeoeaaAid.IsDict.lt h
theorem IsS143.ge {w0 W : World} {g : Nat} {f0 : ByteArray} (h : IsS143 w0 W g f0) : w0.heap.size ≤ g := Go.Proofs.YtmmfakdncjeoeaaAid.IsDict.ge h

/-! ### dict_New: function 73 -/
def dict_New.f : Option ByteArray := some (Go.Proofs.YtmmfakdncjeoeaaAid.denc [])
theorem dict_New.calls (r1 : ByteArray) (w0 w : World) (hB : Below w0.heap.size w0 w) (h : dict_New.f = some r1) :
    Calls Try.prog 73 #[] w fun e w' => ∃ g_ : Nat, e = .returned (.pointer (some ⟨g_, 0, none⟩)) ∧ IsS143 w0 w' g_ r1 ∧ Below w0.heap.size w0 w' ∧ Below w.heap.size w w' := by
  obtain rfl := Option.some.inj h
  refine (Go.Proofs.YtmmfakdncjeoeaaAid.dict_new w0 w hB).mono ?_
  rintro e w' ⟨g, rfl, hi, hb⟩
  exact ⟨g, rfl, (show Go.Proofs.YtmmfakdncjeoeaaAid.IsDict w0 w' g (Go.Proofs.YtmmfakdncjeoeaaAid.ddec (Go.Proofs.YtmmfakdncjeoeaaAid.denc [])) from by rw [Go.Proofs.YtmmfakdncjeoeaaAid.ddec_enc]; exact hi), below_weaken hB hB.size hb, hb⟩

/-! ### dict_Dict_Put: function 74 -/
def dict_Dict_Put.f (s0_0 : ByteArray) (a1 : ByteArray) : Option (Int × ByteArray) := if a1.size ≤ 9223372036854775807 then (if a1 ∈ Go.Proofs.YtmmfakdncjeoeaaAid.ddec s0_0 then some (((Go.Proofs.YtmmfakdncjeoeaaAid.ddec s0_0).idxOf a1 : Int), s0_0) else if (Go.Proofs.YtmmfakdncjeoeaaAid.ddec s0_0).length < 8796093022208 then some (((Go.Proofs.YtmmfakdncjeoeaaAid.ddec s0_0).length : Int), Go.Proofs.YtmmfakdncjeoeaaAid.denc (Go.Proofs.YtmmfakdncjeoeaaAid.ddec s0_0 ++ [a1])) else none) else none
theorem dict_Dict_Put.calls (g : Nat) (s0_0 : ByteArray) (a1 : ByteArray) (r1 : Int) (r2 : ByteArray) (w0 w : World) (hI : IsS143 w0 w g s0_0) (hB : Below w0.heap.size w0 w) (h : dict_Dict_Put.f s0_0 a1 = some (r1, r2)) :
    Calls Try.prog 74 #[.pointer (some ⟨g, 0, none⟩), .string a1] w fun e w' => e = .returned (.int .i64 r1) ∧ IsS143 w0 w' g r2 ∧ Below w0.heap.size w0 w' ∧ Go.Proofs.YtmmfakdncjeoeaaAid.PutKeep w w' g := by
  unfold dict_Dict_Put.f at h
  obtain ⟨gm, A, c, hI⟩ := hI
  split at h
  · split at h
    · simp only [Option.some.injEq, Prod.mk.injEq] at h
      obtain ⟨rfl, rfl⟩ := h
      refine (Go.Proofs.YtmmfakdncjeoeaaAid.dict_put_old hI a1 (by assumption) (by assumption)).mono ?_
      rintro e w' ⟨rfl, rfl⟩
      exact ⟨rfl, ⟨gm, A, c, hI⟩, hB, Go.Proofs.YtmmfakdncjeoeaaAid.PutKeep.refl _ _⟩
    · split at h
      · simp only [Option.some.injEq, Prod.mk.injEq] at h
        obtain ⟨rfl, rfl⟩ := h
        refine (Go.Proofs.YtmmfakdncjeoeaaAid.dict_put_new hI hB a1 (by assumption) (by assumption) (by assumption)).mono ?_
        rintro e w' ⟨A', c', rfl, hi, hb, _, hk, hat⟩
        exact ⟨rfl, ⟨gm, A', c', by rw [Go.Proofs.YtmmfakdncjeoeaaAid.ddec_enc]; exact hi⟩, hb, hI.putKeep hi hk hat⟩
      · cases h
  · cases h

end Go.Proofs.Ytmmfakdncjeoeaa.PC
