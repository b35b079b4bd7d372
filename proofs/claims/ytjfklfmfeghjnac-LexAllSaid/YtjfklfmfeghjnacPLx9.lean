-- Contracts of Go functions, each with its plain Lean function: written by wip/tools/myprint.py of this work (the kit's print, with contracts proved by hand spliced in).
import Derived.Test.YtjfklfmfeghjnacPLx0
import Derived.Test.YtjfklfmfeghjnacPLx7
import Derived.Test.YtjfklfmfeghjnacPLx8
namespace Go.Proofs.Ytjfklfmfeghjnac.PL
open Go.RowKit Go.Proofs.YtjfklfmfeghjnacW.PrintWords Go.Proofs.YtjfklfmfeghjnacW.PrintLast Go.Proofs.YtjfklfmfeghjnacW.PrintMore
attribute [local go_sem] max2_int min2_int max_two min_two max_three min_three max_four min_four   -- for this text's walks alone
set_option linter.unusedVariables false
set_option linter.unusedSimpArgs false

/-! ### tachographref21_Lex: function 18 -/
mutual
def tachographref21_Lex.l0 : Nat → ByteArray → Int → List (S47) → Int → Int → Int → Option ((List (S47)) × Int × Int × Int)
 | 0, _, _, _, _, _, _ => none
 | k + 1, x0, x4, x200000, x200001, x200002, x200003 => if x4 < (x0.size : Int) then (if 0 ≤ x4 then (if (bt x0 x4) = 32 then (tachographref21_Lex.j1 k x0 x4 true x200000 x200001 x200002 x200003) else (if (bt x0 x4) = 9 then (tachographref21_Lex.j1 k x0 x4 true x200000 x200001 x200002 x200003) else (if (bt x0 x4) = 10 then (tachographref21_Lex.j1 k x0 x4 true x200000 x200001 x200002 x200003) else (tachographref21_Lex.j1 k x0 x4 ((bt x0 x4) == 13) x200000 x200001 x200002 x200003)))) else (none)) else (some (x200000, x200001, x200002, x200003))
def tachographref21_Lex.j1 : Nat → ByteArray → Int → Bool → List (S47) → Int → Int → Int → Option ((List (S47)) × Int × Int × Int)
 | 0, _, _, _, _, _, _, _ => none
 | k + 1, x0, x4, x37, x200000, x200001, x200002, x200003 => if x37 = true then (tachographref21_Lex.l0 k x0 (wrap64 (x4 + 1)) x200000 x200001 x200002 x200003) else (if 0 ≤ x4 then (if x4 < (x0.size : Int) then (if (bt x0 x4) = 34 then (if x4 ≤ (x0.size : Int) then ((tachographref20_Get.f k (x0.extract (x4 : Int).toNat x0.size)).bind fun bt200 => (if bt200.2.2 = 0 then ((tachographref21_Place.f k x0 x4).bind fun bt203 => (if x200000.length < 3518437208883 then (tachographref21_Lex.l0 k x0 (wrap64 (x4 + bt200.2.1)) (x200000 ++ [(⟨7, bt200.1, (⟨bt203.1, bt203.2⟩ : S36)⟩ : S47)]) x200001 x200002 x200003) else (none))) else ((tachographref21_Place.f k x0 x4).bind fun bt208 => (some (([] : List (S47)), bt200.2.2, bt208.1, bt208.2))))) else (none)) else ((tachographref21_next.f k x0 x4).bind fun bt210 => (if bt210.2.2 = 0 then (if x4 ≤ bt210.2.1 then (if bt210.2.1 ≤ (x0.size : Int) then ((tachographref21_Place.f k x0 x4).bind fun bt213 => (if x200000.length < 3518437208883 then (tachographref21_Lex.l0 k x0 bt210.2.1 (x200000 ++ [(⟨bt210.1, x0.extract (x4 : Int).toNat (bt210.2.1 : Int).toNat, (⟨bt213.1, bt213.2⟩ : S36)⟩ : S47)]) x200001 x200002 x200003) else (none))) else (none)) else (none)) else ((tachographref21_Place.f k x0 x4).bind fun bt218 => (some (([] : List (S47)), bt210.2.2, bt218.1, bt218.2)))))) else (none)) else (none))
end
def tachographref21_Lex.f (k : Nat) (a0 : ByteArray) : Option ((List (S47)) × Int × Int × Int) := tachographref21_Lex.l0 k a0 0 ([] : List (S47)) 0 0 0
theorem tachographref21_Lex.mono_l : ∀ k, (∀ y0 y1 y2 y3 y4 y5, LeO (tachographref21_Lex.l0 k y0 y1 y2 y3 y4 y5) (tachographref21_Lex.l0 (k + 1) y0 y1 y2 y3 y4 y5)) ∧ (∀ y0 y1 y2 y3 y4 y5 y6, LeO (tachographref21_Lex.j1 k y0 y1 y2 y3 y4 y5 y6) (tachographref21_Lex.j1 (k + 1) y0 y1 y2 y3 y4 y5 y6))
 | 0 => ⟨fun _ _ _ _ _ _ r h => by simp [tachographref21_Lex.l0] at h, fun _ _ _ _ _ _ _ r h => by simp [tachographref21_Lex.j1] at h⟩
 | k + 1 => by
  obtain ⟨ih0, ih1⟩ := tachographref21_Lex.mono_l k
  refine ⟨?_, ?_⟩
  ·intro y0 y1 y2 y3 y4 y5
   unfold tachographref21_Lex.l0
   repeat' first
   | (with_reducible exact ih0 _ _ _ _ _ _)
   | (with_reducible exact ih1 _ _ _ _ _ _ _)
   | (with_reducible exact tachographref20_Get.mono _ _)
   | (with_reducible exact tachographref21_Place.mono _ _ _)
   | (with_reducible exact tachographref21_next.mono _ _ _)
   | (with_reducible exact LeO.refl _)
   | (with_reducible exact LeO.none _)
   | (with_reducible refine LeO.ite ?_ ?_)
   | (with_reducible refine LeO.bind ?_ (fun _ => ?_))
   | exact ih0 _ _ _ _ _ _
   | exact ih1 _ _ _ _ _ _ _
   | exact tachographref20_Get.mono _ _
   | exact tachographref21_Place.mono _ _ _
   | exact tachographref21_next.mono _ _ _
   | exact LeO.none _
   | refine LeO.ite ?_ ?_
   | refine LeO.bind ?_ (fun _ => ?_)
  ·intro y0 y1 y2 y3 y4 y5 y6
   unfold tachographref21_Lex.j1
   repeat' first
   | (with_reducible exact ih0 _ _ _ _ _ _)
   | (with_reducible exact ih1 _ _ _ _ _ _ _)
   | (with_reducible exact tachographref20_Get.mono _ _)
   | (with_reducible exact tachographref21_Place.mono _ _ _)
   | (with_reducible exact tachographref21_next.mono _ _ _)
   | (with_reducible exact LeO.refl _)
   | (with_reducible exact LeO.none _)
   | (with_reducible refine LeO.ite ?_ ?_)
   | (with_reducible refine LeO.bind ?_ (fun _ => ?_))
   | exact ih0 _ _ _ _ _ _
   | exact ih1 _ _ _ _ _ _ _
   | exact tachographref20_Get.mono _ _
   | exact tachographref21_Place.mono _ _ _
   | exact tachographref21_next.mono _ _ _
   | exact LeO.none _
   | refine LeO.ite ?_ ?_
   | refine LeO.bind ?_ (fun _ => ?_)
theorem tachographref21_Lex.mono : ∀ a0 k, LeO (tachographref21_Lex.f k a0) (tachographref21_Lex.f (k + 1) a0) := by
 intro a0 k
 obtain ⟨ih0, ih1⟩ := tachographref21_Lex.mono_l k
 unfold tachographref21_Lex.f
 repeat' first
   | (with_reducible exact ih0 _ _ _ _ _ _)
   | (with_reducible exact ih1 _ _ _ _ _ _ _)
   | (with_reducible exact tachographref20_Get.mono _ _)
   | (with_reducible exact tachographref21_Place.mono _ _ _)
   | (with_reducible exact tachographref21_next.mono _ _ _)
   | (with_reducible exact LeO.refl _)
   | (with_reducible exact LeO.none _)
   | (with_reducible refine LeO.ite ?_ ?_)
   | (with_reducible refine LeO.bind ?_ (fun _ => ?_))
   | exact ih0 _ _ _ _ _ _
   | exact ih1 _ _ _ _ _ _ _
   | exact tachographref20_Get.mono _ _
   | exact tachographref21_Place.mono _ _ _
   | exact tachographref21_next.mono _ _ _
   | exact LeO.none _
   | refine LeO.ite ?_ ?_
   | refine LeO.bind ?_ (fun _ => ?_)
def tachographref21_Lex.T10 : Bool × List (List Nat × List Nat) := (true, [([], []), ([0], [0]), ([], []), ([], []), ([], []), ([3, 4], [3, 4]), ([2, 5], [2, 5]), ([6], [6]), ([1, 7, 5], [1, 7]), ([0, 1, 2, 3, 4, 5, 6, 7, 8], []), ([9, 8, 8, 0, 1, 2, 3, 4, 5, 6, 7, 8], [8, 9])])
def tachographref21_Lex.B10 : List Nat := [0, 1, 0, 0, 0, 24, 60, 124, 255, 511, 1023]
theorem tachographref21_Lex.tab10 : rtab .any (opsOf Try.f18 10) = tachographref21_Lex.T10 := by kernel_rfl
theorem tachographref21_Lex.bits10 : waitsOk tachographref21_Lex.T10.2 tachographref21_Lex.B10 = true := by kernel_rfl
def tachographref21_Lex.T15 : Bool × List (List Nat × List Nat) := (true, [([], []), ([0], [0]), ([], []), ([], []), ([], []), ([], []), ([3, 4, 5], [3, 4, 5]), ([], []), ([], []), ([7, 8], [7, 8]), ([2, 6, 9], [2, 6, 9]), ([10], [10]), ([1, 11, 9], [1, 11]), ([0, 1, 2, 3, 4, 5, 6, 7, 8, 9, 10, 11, 12], []), ([13, 12, 12, 0, 1, 2, 3, 4, 5, 6, 7, 8, 9, 10, 11, 12], [12, 13])])
def tachographref21_Lex.B15 : List Nat := [0, 1, 0, 0, 0, 0, 56, 0, 0, 384, 1020, 2044, 4095, 8191, 16383]
theorem tachographref21_Lex.tab15 : rtab .any (opsOf Try.f18 15) = tachographref21_Lex.T15 := by kernel_rfl
theorem tachographref21_Lex.bits15 : waitsOk tachographref21_Lex.T15.2 tachographref21_Lex.B15 = true := by kernel_rfl
set_option maxHeartbeats 8000000 in
set_option maxRecDepth 100000 in
theorem tachographref21_Lex.calls (k : Nat) (a0 : ByteArray) (r1 : List (S47)) (r2 : Int) (r3 : Int) (r4 : Int) (w : World) (h : tachographref21_Lex.f k a0 = some (r1,r2,r3,r4)) :
  Calls Try.prog 18 #[.string a0] w fun e w' => ∃ v0_ : Value,e = .returned (.agg #[v0_,.int .i64 r2,.int .i64 r3,.int .i64 r4]) ∧ Kd.R k47 47 w' w.heap.size (fun _ => True) v0_ r1 ∧ Below w.heap.size w w':=by
 have hu41:=Try.underlying41
 have hu47:=Try.underlying47
 have HB:=Aside0.mk (Below.refl w.heap.size w)
 have H : (tachographref21_Lex.l0 k a0 0 ([] : List (S47)) 0 0 0) = some (r1,r2,r3,r4):=h
 clear h
 have H':=Aside0.mk H
 clear H
 go_enter Try.func18,Try.ntmps18
 go_wp2_with (first | ((with_reducible refine gate_dst (N:=2) rfl ?_);refine box_event ?hg (N:=2) ?hd (cs:=#[.slice none 0 0,.int .i64 0,.int .i64 0,.int .i64 0]) (t:=41) ?hr ?_;(case hd => rfl);(case hg => rfl);(case hr => first | (go_simp;done) | (go_simp;rfl));intro gb198 hg w2 hbox hb;have n0_:=Aside0.mk (below_step (by repeat (first | (with_reducible first | exact HB.out | apply below_alloc | apply pw_below_drewN | apply below_drew1) | exact HB.out)) hb);have n1_:=Aside0.mk (hbox);have n2_:=Aside0.mk ((by rw [hg];exact (below_size (by repeat (first | (with_reducible first | exact HB.out | apply below_alloc | apply pw_below_drewN | apply below_drew1) | exact HB.out))) : w.heap.size ≤ gb198));have n3_:=Aside0.mk ((by rw [hg];exact (below_size (by repeat (first | (with_reducible first | exact HB.out | apply below_alloc | apply pw_below_drewN | apply below_drew1) | exact HB.out))) : w.heap.size ≤ gb198));clear HB;have HB:=n0_;have BK198:=n1_;have GW198:=n2_;have GE198:=n3_;clear n0_ n1_ n2_ n3_;clear hb hbox hg) | ((with_reducible refine gate_dst (N:=3) rfl ?_);refine box_event ?hg (N:=3) ?hd (cs:=#[.slice none 0 0,.int .i64 0,.int .i64 0,.int .i64 0]) (t:=41) ?hr ?_;(case hd => rfl);(case hg => rfl);(case hr => first | (go_simp;done) | (go_simp;rfl));intro gb199 hg w3 hbox hb;have n0_:=Aside0.mk (blk_below (g:=gb198) (o:=.cells #[.slice none 0 0,.int .i64 0,.int .i64 0,.int .i64 0] 41 (0,0)) (by (with_reducible repeat (first | refine blk_drewN ?_ _ | refine blk_drew ?_ | refine blk_alloc ?_ _));exact BK198.out) hb);have n1_:=Aside0.mk (below_step (by repeat (first | (with_reducible first | exact HB.out | apply below_alloc | apply pw_below_drewN | apply below_drew1 | refine below_set ?_ GE198.out) | exact HB.out)) hb);have n2_:=Aside0.mk (hbox);have n3_:=Aside0.mk ((by rw [hg];exact (below_size (by repeat (first | (with_reducible first | exact HB.out | apply below_alloc | apply pw_below_drewN | apply below_drew1 | refine below_set ?_ GE198.out) | exact HB.out))) : w.heap.size ≤ gb199));have n4_:=Aside0.mk ((by rw [hg];exact (below_size (by repeat (first | (with_reducible first | exact HB.out | apply below_alloc | apply pw_below_drewN | apply below_drew1 | refine below_set ?_ GE198.out) | exact HB.out))) : w.heap.size ≤ gb199));have n5_:=Aside0.mk ((by rw [hg];exact Nat.ne_of_lt (blk_lt (g:=gb198) (o:=.cells #[.slice none 0 0,.int .i64 0,.int .i64 0,.int .i64 0] 41 (0,0)) (by (with_reducible repeat (first | refine blk_drewN ?_ _ | refine blk_drew ?_ | refine blk_alloc ?_ _));exact BK198.out)) : gb198 ≠ gb199));have n6_:=Aside0.mk ((by rw [hg];exact Nat.ne_of_gt (blk_lt (g:=gb198) (o:=.cells #[.slice none 0 0,.int .i64 0,.int .i64 0,.int .i64 0] 41 (0,0)) (by (with_reducible repeat (first | refine blk_drewN ?_ _ | refine blk_drew ?_ | refine blk_alloc ?_ _));exact BK198.out)) : gb199 ≠ gb198));clear BK198;clear HB;have BK198:=n0_;have HB:=n1_;have BK199:=n2_;have GW199:=n3_;have GE199:=n4_;have NB198_199:=n5_;have NB199_198:=n6_;clear n0_ n1_ n2_ n3_ n4_ n5_ n6_;clear hb hbox hg;have hnb4:=NB199_198.out;have hnc4:=NB198_199.out;have hcz5_0 : w3.cell? ⟨gb199,0,none⟩ = some (.slice none 0 0):=(blk_cell BK199.out 0).trans rfl;have hcz5_1 : w3.cell? ⟨gb199,1,none⟩ = some (.int .i64 0):=(blk_cell BK199.out 1).trans rfl;have hcz5_2 : w3.cell? ⟨gb199,2,none⟩ = some (.int .i64 0):=(blk_cell BK199.out 2).trans rfl;have hcz5_3 : w3.cell? ⟨gb199,3,none⟩ = some (.int .i64 0):=(blk_cell BK199.out 3).trans rfl;have hfz5_0:=blk_frozen BK199.out 0;have hfz5_1:=blk_frozen BK199.out 1;have hfz5_2:=blk_frozen BK199.out 2;have hfz5_3:=blk_frozen BK199.out 3))
 go_loopg [4] k (fun kq v4 w' => ∃ (x4_1 : Int) (x199001_1 : Int) (x199002_1 : Int) (x199003_1 : Int) (x200000_1 : List (S47)) (u200000 : Value),v4 = .int .i64 x4_1 ∧ Aside0 (tachographref21_Lex.l0 kq a0 x4_1 x200000_1 0 0 0 = some (r1,r2,r3,r4)) ∧ Aside0 (kq ≤ k) ∧ Aside0 (Kd.R k47 47 w' w.heap.size (fun _ => True) u200000 x200000_1) ∧ Aside0 (w'.heap[gb198]? = some (.cells #[(.slice none 0 0),.int .i64 x199001_1,.int .i64 x199002_1,.int .i64 x199003_1] 41 (0,0))) ∧ Aside0 (w'.heap[gb199]? = some (.cells #[u200000,.int .i64 0,.int .i64 0,.int .i64 0] 41 (0,0))) ∧ Aside0 (Below w.heap.size w w'))
 case atStart => exact ⟨(0),(0),(0),(0),(([] : List (S47))),(.slice none 0 0),(by first | rfl | (simp;done) | (simp [*];done)),H',⟨Nat.le_refl _⟩,⟨by first | exact Kd.R_nil _ _ _ _ _ | exact Kd.N_nil _ _ _ _ _ | exact Kd.V_nil _ _ _ _ _ | exact Kd.Q_nil _ _ _ _ _ | exact Kd.S_nil _ _ _ _ _⟩,⟨by (with_reducible repeat (first | refine blk_drewN ?_ _ | refine blk_drew ?_ | refine blk_alloc ?_ _));refine blk_far ?_ NB198_199.out _;(with_reducible repeat (first | refine blk_drewN ?_ _ | refine blk_drew ?_ | refine blk_alloc ?_ _));refine blk_far ?_ NB198_199.out _;(with_reducible repeat (first | refine blk_drewN ?_ _ | refine blk_drew ?_ | refine blk_alloc ?_ _));refine blk_far ?_ NB198_199.out _;(with_reducible repeat (first | refine blk_drewN ?_ _ | refine blk_drew ?_ | refine blk_alloc ?_ _));refine blk_far ?_ NB198_199.out _;(with_reducible repeat (first | refine blk_drewN ?_ _ | refine blk_drew ?_ | refine blk_alloc ?_ _));exact BK198.out⟩,⟨by (with_reducible repeat (first | refine blk_drewN ?_ _ | refine blk_drew ?_ | refine blk_alloc ?_ _));refine blk_put (cs:=#[.slice none 0 0,.int .i64 0,.int .i64 0,.int .i64 0]) ?_ 3 _ rfl;(with_reducible repeat (first | refine blk_drewN ?_ _ | refine blk_drew ?_ | refine blk_alloc ?_ _));refine blk_put (cs:=#[.slice none 0 0,.int .i64 0,.int .i64 0,.int .i64 0]) ?_ 2 _ rfl;(with_reducible repeat (first | refine blk_drewN ?_ _ | refine blk_drew ?_ | refine blk_alloc ?_ _));refine blk_put (cs:=#[.slice none 0 0,.int .i64 0,.int .i64 0,.int .i64 0]) ?_ 1 _ rfl;(with_reducible repeat (first | refine blk_drewN ?_ _ | refine blk_drew ?_ | refine blk_alloc ?_ _));refine blk_put (cs:=#[.slice none 0 0,.int .i64 0,.int .i64 0,.int .i64 0]) ?_ 0 _ rfl;(with_reducible repeat (first | refine blk_drewN ?_ _ | refine blk_drew ?_ | refine blk_alloc ?_ _));exact BK199.out⟩,⟨by repeat (first | (with_reducible first | exact HB.out | apply below_alloc | apply pw_below_drewN | apply below_drew1 | refine below_set ?_ GE198.out | refine below_set ?_ GE199.out) | exact HB.out)⟩⟩
 case round =>
  clear H'
  try clear c1
  try clear p2
  try clear c4
  try clear hcz5_0
  try clear hcz5_1
  try clear hcz5_2
  try clear hcz5_3
  try clear hfz5_0
  try clear hfz5_1
  try clear hfz5_2
  try clear hfz5_3
  obtain ⟨x4_1,x199001_1,x199002_1,x199003_1,x200000_1,u200000,rfl,HA,HK1,HO_200000,BK198,BK199,HB⟩:=hrel
  cases gk with
  | zero => exact absurd HA.out (by simp [tachographref21_Lex.l0])
  | succ k1 =>
   have H:=HA.out
   clear HA
   simp only [tachographref21_Lex.l0] at H
   by_cases c6 : x4_1 < (a0.size : Int)
   ·rw [if_pos c6] at H
    have c6b0 : decide (x4_1 < (a0.size : Int)) = true:=decide_eq_true c6
    clear c6
    have HC7:=Aside0.mk H
    clear H
    go_upto_region 4 with (fail)
    go_cut [37] (fun v37 wc => ∃ (kq : Nat) (x37_6 : Bool),v37 = .bool x37_6 ∧ Aside0 (tachographref21_Lex.j1 kq a0 x4_1 x37_6 x200000_1 0 0 0 = some (r1,r2,r3,r4)) ∧ Aside0 (kq ≤ k1) ∧ Aside0 (Kd.R k47 47 wc w.heap.size (fun _ => True) u200000 x200000_1) ∧ Aside0 (wc.heap[gb198]? = some (.cells #[(.slice none 0 0),.int .i64 x199001_1,.int .i64 x199002_1,.int .i64 x199003_1] 41 (0,0))) ∧ Aside0 (wc.heap[gb199]? = some (.cells #[u200000,.int .i64 0,.int .i64 0,.int .i64 0] 41 (0,0))) ∧ Aside0 (Below w.heap.size w wc))
    case first =>
     have H:=HC7.out
     clear HC7
     by_cases c8 : 0 ≤ x4_1
     ·rw [if_pos c8] at H
      have c8b0 : decide (0 ≤ x4_1) = true:=decide_eq_true c8
      clear c8
      (first | rw [c8b0] | (simp only [i64_w,i32_w];rw [c8b0]) | skip)
      by_cases c10 : (bt a0 x4_1) = 32
      ·rw [if_pos c10] at H
       have c10b0 : ((bt a0 x4_1) == 32) = true:=beq_iff_eq.mpr c10
       have c10b1 : ((bt a0 x4_1) != 32) = false:=bne_eq_false_iff_eq.mpr c10
       clear c10
       have H':=Aside0.mk H
       clear H
       have p9 : 0 ≤ (x4_1 : Int):=of_decide_eq_true (by first | (with_reducible assumption) | assumption)
       have q9 : x4_1 < (a0.size : Int):=of_decide_eq_true (by first | (with_reducible assumption) | assumption)
       have hx9:=bt_at a0 x4_1
       replace p9:=eq_true p9
       replace q9:=eq_true q9
       go_wp2
       go_meet
       case rel => exact ⟨_,(true),(by first | rfl | (simp;done) | (simp [*];done)),H',⟨by have:=HK1.out;first | omega | exact Nat.le_refl _⟩,⟨by (with_reducible repeat (first | apply Kd.R_alloc | apply Kd.R_drewN | apply Kd.R_drew));exact HO_200000.out⟩,⟨by (with_reducible repeat (first | refine blk_drewN ?_ _ | refine blk_drew ?_ | refine blk_alloc ?_ _));exact BK198.out⟩,⟨by (with_reducible repeat (first | refine blk_drewN ?_ _ | refine blk_drew ?_ | refine blk_alloc ?_ _));exact BK199.out⟩,⟨by repeat (first | (with_reducible first | exact HB.out | apply below_alloc | apply pw_below_drewN | apply below_drew1 | refine below_set ?_ GE198.out | refine below_set ?_ GE199.out) | exact HB.out)⟩⟩
      ·rw [if_neg c10] at H
       have c10b0 : ((bt a0 x4_1) == 32) = false:=beq_eq_false_iff_ne.mpr c10
       have c10b1 : ((bt a0 x4_1) != 32) = true:=bne_iff_ne.mpr c10
       by_cases c12 : (bt a0 x4_1) = 9
       ·rw [if_pos c12] at H
        have c12b0 : ((bt a0 x4_1) == 9) = true:=beq_iff_eq.mpr c12
        have c12b1 : ((bt a0 x4_1) != 9) = false:=bne_eq_false_iff_eq.mpr c12
        clear c12
        have H':=Aside0.mk H
        clear H
        have p9 : 0 ≤ (x4_1 : Int):=of_decide_eq_true (by first | (with_reducible assumption) | assumption)
        have q9 : x4_1 < (a0.size : Int):=of_decide_eq_true (by first | (with_reducible assumption) | assumption)
        have hx9:=bt_at a0 x4_1
        replace p9:=eq_true p9
        replace q9:=eq_true q9
        have p11 : 0 ≤ (x4_1 : Int):=of_decide_eq_true (by first | (with_reducible assumption) | assumption)
        have q11 : x4_1 < (a0.size : Int):=of_decide_eq_true (by first | (with_reducible assumption) | assumption)
        have hx11:=bt_at a0 x4_1
        replace p11:=eq_true p11
        replace q11:=eq_true q11
        go_wp2
        go_meet
        case rel => exact ⟨_,(true),(by first | rfl | (simp;done) | (simp [*];done)),H',⟨by have:=HK1.out;first | omega | exact Nat.le_refl _⟩,⟨by (with_reducible repeat (first | apply Kd.R_alloc | apply Kd.R_drewN | apply Kd.R_drew));exact HO_200000.out⟩,⟨by (with_reducible repeat (first | refine blk_drewN ?_ _ | refine blk_drew ?_ | refine blk_alloc ?_ _));exact BK198.out⟩,⟨by (with_reducible repeat (first | refine blk_drewN ?_ _ | refine blk_drew ?_ | refine blk_alloc ?_ _));exact BK199.out⟩,⟨by repeat (first | (with_reducible first | exact HB.out | apply below_alloc | apply pw_below_drewN | apply below_drew1 | refine below_set ?_ GE198.out | refine below_set ?_ GE199.out) | exact HB.out)⟩⟩
       ·rw [if_neg c12] at H
        have c12b0 : ((bt a0 x4_1) == 9) = false:=beq_eq_false_iff_ne.mpr c12
        have c12b1 : ((bt a0 x4_1) != 9) = true:=bne_iff_ne.mpr c12
        by_cases c14 : (bt a0 x4_1) = 10
        ·rw [if_pos c14] at H
         have c14b0 : ((bt a0 x4_1) == 10) = true:=beq_iff_eq.mpr c14
         have c14b1 : ((bt a0 x4_1) != 10) = false:=bne_eq_false_iff_eq.mpr c14
         clear c14
         have H':=Aside0.mk H
         clear H
         have p9 : 0 ≤ (x4_1 : Int):=of_decide_eq_true (by first | (with_reducible assumption) | assumption)
         have q9 : x4_1 < (a0.size : Int):=of_decide_eq_true (by first | (with_reducible assumption) | assumption)
         have hx9:=bt_at a0 x4_1
         replace p9:=eq_true p9
         replace q9:=eq_true q9
         have p11 : 0 ≤ (x4_1 : Int):=of_decide_eq_true (by first | (with_reducible assumption) | assumption)
         have q11 : x4_1 < (a0.size : Int):=of_decide_eq_true (by first | (with_reducible assumption) | assumption)
         have hx11:=bt_at a0 x4_1
         replace p11:=eq_true p11
         replace q11:=eq_true q11
         have p13 : 0 ≤ (x4_1 : Int):=of_decide_eq_true (by first | (with_reducible assumption) | assumption)
         have q13 : x4_1 < (a0.size : Int):=of_decide_eq_true (by first | (with_reducible assumption) | assumption)
         have hx13:=bt_at a0 x4_1
         replace p13:=eq_true p13
         replace q13:=eq_true q13
         go_wp2
         go_meet
         case rel => exact ⟨_,(true),(by first | rfl | (simp;done) | (simp [*];done)),H',⟨by have:=HK1.out;first | omega | exact Nat.le_refl _⟩,⟨by (with_reducible repeat (first | apply Kd.R_alloc | apply Kd.R_drewN | apply Kd.R_drew));exact HO_200000.out⟩,⟨by (with_reducible repeat (first | refine blk_drewN ?_ _ | refine blk_drew ?_ | refine blk_alloc ?_ _));exact BK198.out⟩,⟨by (with_reducible repeat (first | refine blk_drewN ?_ _ | refine blk_drew ?_ | refine blk_alloc ?_ _));exact BK199.out⟩,⟨by repeat (first | (with_reducible first | exact HB.out | apply below_alloc | apply pw_below_drewN | apply below_drew1 | refine below_set ?_ GE198.out | refine below_set ?_ GE199.out) | exact HB.out)⟩⟩
        ·rw [if_neg c14] at H
         have c14b0 : ((bt a0 x4_1) == 10) = false:=beq_eq_false_iff_ne.mpr c14
         have c14b1 : ((bt a0 x4_1) != 10) = true:=bne_iff_ne.mpr c14
         have H':=Aside0.mk H
         clear H
         have p9 : 0 ≤ (x4_1 : Int):=of_decide_eq_true (by first | (with_reducible assumption) | assumption)
         have q9 : x4_1 < (a0.size : Int):=of_decide_eq_true (by first | (with_reducible assumption) | assumption)
         have hx9:=bt_at a0 x4_1
         replace p9:=eq_true p9
         replace q9:=eq_true q9
         have p11 : 0 ≤ (x4_1 : Int):=of_decide_eq_true (by first | (with_reducible assumption) | assumption)
         have q11 : x4_1 < (a0.size : Int):=of_decide_eq_true (by first | (with_reducible assumption) | assumption)
         have hx11:=bt_at a0 x4_1
         replace p11:=eq_true p11
         replace q11:=eq_true q11
         have p13 : 0 ≤ (x4_1 : Int):=of_decide_eq_true (by first | (with_reducible assumption) | assumption)
         have q13 : x4_1 < (a0.size : Int):=of_decide_eq_true (by first | (with_reducible assumption) | assumption)
         have hx13:=bt_at a0 x4_1
         replace p13:=eq_true p13
         replace q13:=eq_true q13
         have p15 : 0 ≤ (x4_1 : Int):=of_decide_eq_true (by first | (with_reducible assumption) | assumption)
         have q15 : x4_1 < (a0.size : Int):=of_decide_eq_true (by first | (with_reducible assumption) | assumption)
         have hx15:=bt_at a0 x4_1
         replace p15:=eq_true p15
         replace q15:=eq_true q15
         go_wp2
         go_meet
         case rel => exact ⟨_,(((bt a0 x4_1) == 13)),(by first | rfl | (simp;done) | (simp [*];done)),H',⟨by have:=HK1.out;first | omega | exact Nat.le_refl _⟩,⟨by (with_reducible repeat (first | apply Kd.R_alloc | apply Kd.R_drewN | apply Kd.R_drew));exact HO_200000.out⟩,⟨by (with_reducible repeat (first | refine blk_drewN ?_ _ | refine blk_drew ?_ | refine blk_alloc ?_ _));exact BK198.out⟩,⟨by (with_reducible repeat (first | refine blk_drewN ?_ _ | refine blk_drew ?_ | refine blk_alloc ?_ _));exact BK199.out⟩,⟨by repeat (first | (with_reducible first | exact HB.out | apply below_alloc | apply pw_below_drewN | apply below_drew1 | refine below_set ?_ GE198.out | refine below_set ?_ GE199.out) | exact HB.out)⟩⟩
     ·rw [if_neg c8] at H
      exact absurd H (by simp)
    case rest =>
     clear HC7
     try clear c1
     try clear p1
     try clear q1
     try clear hx1
     try clear p2
     try clear c4
     try clear c6
     try clear c6b0
     try clear c8
     try clear c8b0
     try clear p9
     try clear q9
     try clear hx9
     try clear c10
     try clear c10b0
     try clear c10b1
     try clear p11
     try clear q11
     try clear hx11
     try clear c12
     try clear c12b0
     try clear c12b1
     try clear p13
     try clear q13
     try clear hx13
     try clear c14
     try clear c14b0
     try clear c14b1
     try clear p15
     try clear q15
     try clear hx15
     try clear hcz5_0
     try clear hcz5_1
     try clear hcz5_2
     try clear hcz5_3
     try clear hfz5_0
     try clear hfz5_1
     try clear hfz5_2
     try clear hfz5_3
     try clear p11
     try clear p13
     try clear p15
     try clear p2
     try clear p9
     try clear q11
     try clear q13
     try clear q15
     try clear q9
     obtain ⟨kq,x37_6,rfl,HA,HJ6,HO_200000,BK198,BK199,HB⟩:=hcut
     cases kq with
     | zero => exact absurd HA.out (by simp [tachographref21_Lex.j1])
     | succ kj6 =>
      have H:=HA.out
      clear HA
      simp only [tachographref21_Lex.j1] at H
      by_cases c16 : x37_6 = true
      ·subst c16
       have H1 : (tachographref21_Lex.l0 kj6 a0 (wrap64 (x4_1 + 1)) x200000_1 0 0 0) = some (r1,r2,r3,r4):=by rw [if_pos rfl] at H;exact H
       clear H
       have H:=H1
       clear H1
       have H':=Aside0.mk H
       clear H
       go_wp2
       go_roundg kj6
       case measure => have:=HK1.out;have:=HJ6.out;omega
       case rel => exact ⟨(wrap64 (x4_1 + 1)),(x199001_1),(x199002_1),(x199003_1),(x200000_1),(u200000),(by first | rfl | (simp;done) | (simp [*];done)),H',⟨by have:=HK1.out;have:=HJ6.out;omega⟩,⟨by (with_reducible repeat (first | apply Kd.R_alloc | apply Kd.R_drewN | apply Kd.R_drew));exact HO_200000.out⟩,⟨by (with_reducible repeat (first | refine blk_drewN ?_ _ | refine blk_drew ?_ | refine blk_alloc ?_ _));exact BK198.out⟩,⟨by (with_reducible repeat (first | refine blk_drewN ?_ _ | refine blk_drew ?_ | refine blk_alloc ?_ _));exact BK199.out⟩,⟨by repeat (first | (with_reducible first | exact HB.out | apply below_alloc | apply pw_below_drewN | apply below_drew1 | refine below_set ?_ GE198.out | refine below_set ?_ GE199.out) | exact HB.out)⟩⟩
      ·replace c16:=Bool.eq_false_iff.mpr c16
       subst c16
       have H1 : (if 0 ≤ x4_1 then (if x4_1 < (a0.size : Int) then (if (bt a0 x4_1) = 34 then (if x4_1 ≤ (a0.size : Int) then ((tachographref20_Get.f kj6 (a0.extract (x4_1 : Int).toNat a0.size)).bind fun bt200 => (if bt200.2.2 = 0 then ((tachographref21_Place.f kj6 a0 x4_1).bind fun bt203 => (if x200000_1.length < 3518437208883 then (tachographref21_Lex.l0 kj6 a0 (wrap64 (x4_1 + bt200.2.1)) (x200000_1 ++ [(⟨7,bt200.1,(⟨bt203.1,bt203.2⟩ : S36)⟩ : S47)]) 0 0 0) else (none))) else ((tachographref21_Place.f kj6 a0 x4_1).bind fun bt208 => (some (([] : List (S47)),bt200.2.2,bt208.1,bt208.2))))) else (none)) else ((tachographref21_next.f kj6 a0 x4_1).bind fun bt210 => (if bt210.2.2 = 0 then (if x4_1 ≤ bt210.2.1 then (if bt210.2.1 ≤ (a0.size : Int) then ((tachographref21_Place.f kj6 a0 x4_1).bind fun bt213 => (if x200000_1.length < 3518437208883 then (tachographref21_Lex.l0 kj6 a0 bt210.2.1 (x200000_1 ++ [(⟨bt210.1,a0.extract (x4_1 : Int).toNat (bt210.2.1 : Int).toNat,(⟨bt213.1,bt213.2⟩ : S36)⟩ : S47)]) 0 0 0) else (none))) else (none)) else (none)) else ((tachographref21_Place.f kj6 a0 x4_1).bind fun bt218 => (some (([] : List (S47)),bt210.2.2,bt218.1,bt218.2)))))) else (none)) else (none)) = some (r1,r2,r3,r4):=by rw [if_neg (show ¬ (false = true) by decide)] at H;exact H
       clear H
       have H:=H1
       clear H1
       by_cases c17 : 0 ≤ x4_1
       ·rw [if_pos c17] at H
        have c17b0 : decide (0 ≤ x4_1) = true:=decide_eq_true c17
        clear c17
        by_cases c18 : x4_1 < (a0.size : Int)
        ·rw [if_pos c18] at H
         have c18b0 : decide (x4_1 < (a0.size : Int)) = true:=decide_eq_true c18
         clear c18
         by_cases c20 : (bt a0 x4_1) = 34
         ·rw [if_pos c20] at H
          have c20b0 : ((bt a0 x4_1) == 34) = true:=beq_iff_eq.mpr c20
          have c20b1 : ((bt a0 x4_1) != 34) = false:=bne_eq_false_iff_eq.mpr c20
          clear c20
          have c21b0:=eq_true (of_decide_eq_true (by first | (with_reducible assumption) | assumption) : 0 ≤ x4_1)
          by_cases c22 : x4_1 ≤ (a0.size : Int)
          ·rw [if_pos c22] at H
           have c22b0:=eq_true c22
           have c22b1 : decide (x4_1 ≤ (a0.size : Int)) = true:=decide_eq_true c22
           clear c22
           replace H:=Option.bind_eq_some_iff.mp H
           obtain ⟨⟨t200,t201,t202⟩,A230,H⟩:=H
           replace H : (if t202 = 0 then ((tachographref21_Place.f kj6 a0 x4_1).bind fun bt203 => (if x200000_1.length < 3518437208883 then (tachographref21_Lex.l0 kj6 a0 (wrap64 (x4_1 + t201)) (x200000_1 ++ [(⟨7,t200,(⟨bt203.1,bt203.2⟩ : S36)⟩ : S47)]) 0 0 0) else (none))) else ((tachographref21_Place.f kj6 a0 x4_1).bind fun bt208 => (some (([] : List (S47)),t202,bt208.1,bt208.2)))) = some (r1,r2,r3,r4):=H
           have A23:=Aside0.mk A230
           clear A230
           by_cases c24 : t202 = 0
           ·rw [if_pos c24] at H
            have c24b0 : (t202 == 0) = true:=beq_iff_eq.mpr c24
            have c24b1 : (t202 != 0) = false:=bne_eq_false_iff_eq.mpr c24
            clear c24
            replace H:=Option.bind_eq_some_iff.mp H
            obtain ⟨⟨t203,t204⟩,A250,H⟩:=H
            replace H : (if x200000_1.length < 3518437208883 then (tachographref21_Lex.l0 kj6 a0 (wrap64 (x4_1 + t201)) (x200000_1 ++ [(⟨7,t200,(⟨t203,t204⟩ : S36)⟩ : S47)]) 0 0 0) else (none)) = some (r1,r2,r3,r4):=H
            have A25:=Aside0.mk A250
            clear A250
            by_cases c26 : x200000_1.length < 3518437208883
            ·rw [if_pos c26] at H
             have LMc26:=Aside0.mk c26
             clear c26
             obtain ⟨y205,hy205⟩ : ∃ y_ : List (S47),y_ = (x200000_1 ++ [(⟨7,t200,(⟨t203,t204⟩ : S36)⟩ : S47)]):=⟨_,rfl⟩
             replace H : (tachographref21_Lex.l0 kj6 a0 (wrap64 (x4_1 + t201)) y205 0 0 0) = some (r1,r2,r3,r4):=by first | (rw [hy205];with_reducible exact H) | (have H2_:=(Option.bind_some _ _).symm.trans H;rw [hy205];with_reducible exact H2_) | (have H2_:=(Option.bind_some _ _).symm.trans H;with_reducible exact H2_) | with_reducible exact H | (rw [hy205];exact H) | exact H
             have Ny205:=Aside0.mk hy205
             clear hy205
             have H':=Aside0.mk H
             clear H
             have p19 : 0 ≤ (x4_1 : Int):=of_decide_eq_true (by first | (with_reducible assumption) | assumption)
             have q19 : x4_1 < (a0.size : Int):=of_decide_eq_true (by first | (with_reducible assumption) | assumption)
             have hx19:=bt_at a0 x4_1
             replace p19:=eq_true p19
             replace q19:=eq_true q19
             try go_wp2_with (first | ((with_reducible refine gate_callee (f:=14) rfl ?_);refine goesL_ (some 48) rfl rfl Try.func14 (by kernel_rfl) rfl #[.string (a0.extract (x4_1 : Int).toNat a0.size)] rfl (by (try simp only [List.map_toArray,List.map_cons,List.map_nil]);first | done | rfl | (simp only [List.length_drop,List.length_take];rfl)) ?_;(with_reducible refine (tachographref20_Get.calls kj6 (a0.extract (x4_1 : Int).toNat a0.size) t200 t201 t202 _ A23.out).mono ?_);rintro e w27 ⟨rfl,hb⟩;refine ⟨_,rfl,?_⟩;have n0_:=Aside0.mk (Kd.R_below (by (with_reducible repeat (first | apply Kd.R_alloc | apply Kd.R_drewN | apply Kd.R_drew));exact HO_200000.out) hb);have n1_:=Aside0.mk (blk_below (g:=gb198) (o:=.cells #[.slice none 0 0,.int .i64 x199001_1,.int .i64 x199002_1,.int .i64 x199003_1] 41 (0,0)) (by (with_reducible repeat (first | refine blk_drewN ?_ _ | refine blk_drew ?_ | refine blk_alloc ?_ _));exact BK198.out) hb);have n2_:=Aside0.mk (blk_below (g:=gb199) (o:=.cells #[u200000,.int .i64 0,.int .i64 0,.int .i64 0] 41 (0,0)) (by (with_reducible repeat (first | refine blk_drewN ?_ _ | refine blk_drew ?_ | refine blk_alloc ?_ _));exact BK199.out) hb);have n3_:=Aside0.mk (below_step (by repeat (first | (with_reducible first | exact HB.out | apply below_alloc | apply pw_below_drewN | apply below_drew1 | refine below_set ?_ GE198.out | refine below_set ?_ GE199.out) | exact HB.out)) hb);clear HO_200000;clear BK198;clear BK199;clear HB;have HO_200000:=n0_;have BK198:=n1_;have BK199:=n2_;have HB:=n3_;clear n0_ n1_ n2_ n3_;(try clear hb);(try clear hb2);(try clear hk);(try clear hi)))
             have n0_:=Aside0.mk (Kd.R_drew HO_200000.out)
             have n1_:=Aside0.mk (blk_drew BK198.out)
             have n2_:=Aside0.mk (blk_drew BK199.out)
             have n3_:=Aside0.mk (below_drew1 HB.out)
             clear HO_200000
             clear BK198
             clear BK199
             clear HB
             have HO_200000:=n0_
             have BK198:=n1_
             have BK199:=n2_
             have HB:=n3_
             clear n0_ n1_ n2_ n3_
             refine start_ (n:=11) (S:=fun w' => w'.cell? ⟨gb199,0,none⟩ = some (u200000) ∧ w'.cell? ⟨gb199,1,none⟩ = some (.int .i64 0) ∧ w'.cell? ⟨gb199,2,none⟩ = some (.int .i64 0) ∧ w'.cell? ⟨gb199,3,none⟩ = some (.int .i64 0)) (ds:=[10]) #[n_,n_,n_,n_,n_,n_,n_,n_,n_,n_,n_] (by kernel_rfl) rfl rfl ⟨(blk_cell BK199.out 0).trans rfl,(blk_cell BK199.out 1).trans rfl,(blk_cell BK199.out 2).trans rfl,(blk_cell BK199.out 3).trans rfl⟩ (fun hHeld => ?_);refine with_tabW tachographref21_Lex.tab10 tachographref21_Lex.bits10 (fun HT_ HW_ => ?_)
             generalize w27.drew = w28 at HO_200000 BK198 BK199 HB hHeld ⊢
             refine pure_ (i:=0) (N:=some 59) (v:=?_) (a':=?_) #[y_,n_,n_,n_,n_,n_,n_,n_,n_,n_,n_] rfl rfl (any_of HT_.out (by kernel_rfl)) (fun _ _ _ h => h) (Or.inl ⟨by rfl,?_⟩) ?_ ?_
             rotate_left
             ·intro w'
              go_simp
              with_reducible rfl
             rotate_left
             ·simp only [Act.put,sA_,sB_,sC_,i64_w,i32_w]
              rfl
             refine pure_ (i:=2) (N:=some 61) (v:=?_) (a':=?_) #[y_,n_,y_,n_,n_,n_,n_,n_,n_,n_,n_] rfl rfl (any_of HT_.out (by kernel_rfl)) (fun _ _ _ h => h) (Or.inl ⟨by rfl,?_⟩) ?_ ?_
             rotate_left
             ·intro w'
              go_simp
              with_reducible rfl
             rotate_left
             ·simp only [Act.put,sA_,sB_,sC_,i64_w,i32_w]
              rfl
             refine pure_ (i:=3) (N:=some 62) (v:=?_) (a':=?_) #[y_,n_,y_,y_,n_,n_,n_,n_,n_,n_,n_] rfl rfl (any_of HT_.out (by kernel_rfl)) (fun _ _ _ h => h) (Or.inl ⟨by rfl,?_⟩) ?_ ?_
             rotate_left
             ·intro w'
              go_simp
              with_reducible rfl
             rotate_left
             ·simp only [Act.put,sA_,sB_,sC_,i64_w,i32_w]
              rfl
             refine pure_ (i:=4) (N:=some 63) (v:=?_) (a':=?_) #[y_,n_,y_,y_,y_,n_,n_,n_,n_,n_,n_] rfl rfl (any_of HT_.out (by kernel_rfl)) (fun _ _ _ h => h) (Or.inl ⟨by rfl,?_⟩) ?_ ?_
             rotate_left
             ·intro w'
              go_simp
              with_reducible rfl
             rotate_left
             ·simp only [Act.put,sA_,sB_,sC_,i64_w,i32_w]
              rfl
             refine take_ (i:=1) (N:=some 60) (v:=?_) (a':=?_) #[y_,y_,y_,y_,y_,n_,n_,n_,n_,n_,n_] rfl rfl (take_ofW HT_.out HW_.out (by kernel_rfl)) (fun _ _ _ h => h) (Or.inl ⟨by rfl,?_⟩) hHeld ?_ ?_
             rotate_left
             ·rintro w' ⟨s0,s1,s2,s3⟩
              go_simp
              with_reducible rfl
             rotate_left
             ·simp only [Act.put,sA_,sB_,sC_,i64_w,i32_w]
              rfl
             refine one_ (i:=5) (N:=some 64) #[y_,y_,y_,y_,y_,y_,n_,n_,n_,n_,n_] rfl rfl (one_of HT_.out (by kernel_rfl)) (by decide) (fun K hK => ?_)
             refine goes_ Try.func20 (by kernel_rfl) rfl #[.string a0,.int .i64 x4_1] (by rfl) rfl rfl (by (try simp only [List.map_toArray,List.map_cons,List.map_nil]);first | done | rfl | (simp only [List.length_drop,List.length_take];rfl)) ?_
             with_reducible refine (tachographref21_Place.calls kj6 a0 x4_1 t203 t204 _ A25.out).mono ?_
             rintro e w29 ⟨rfl,hb⟩
             refine ⟨_,rfl,?_⟩
             have n0_:=Aside0.mk (Kd.R_below (by (with_reducible repeat (first | apply Kd.R_alloc | apply Kd.R_drewN | apply Kd.R_drew));exact HO_200000.out) hb)
             have n1_:=Aside0.mk (blk_below (g:=gb198) (o:=.cells #[.slice none 0 0,.int .i64 x199001_1,.int .i64 x199002_1,.int .i64 x199003_1] 41 (0,0)) (by (with_reducible repeat (first | refine blk_drewN ?_ _ | refine blk_drew ?_ | refine blk_alloc ?_ _));exact BK198.out) hb)
             have n2_:=Aside0.mk (blk_below (g:=gb199) (o:=.cells #[u200000,.int .i64 0,.int .i64 0,.int .i64 0] 41 (0,0)) (by (with_reducible repeat (first | refine blk_drewN ?_ _ | refine blk_drew ?_ | refine blk_alloc ?_ _));exact BK199.out) hb)
             have n3_:=Aside0.mk (below_step (by repeat (first | (with_reducible first | exact HB.out | apply below_alloc | apply pw_below_drewN | apply below_drew1 | refine below_set ?_ GE198.out | refine below_set ?_ GE199.out) | exact HB.out)) hb)
             clear HO_200000
             clear BK198
             clear BK199
             clear HB
             have HO_200000:=n0_
             have BK198:=n1_
             have BK199:=n2_
             have HB:=n3_
             clear n0_ n1_ n2_ n3_
             (try clear hb)
             (try clear hb2)
             (try clear hk)
             (try clear hi)
             refine hK.out _ _ ⟨(blk_cell BK199.out 0).trans rfl,(blk_cell BK199.out 1).trans rfl,(blk_cell BK199.out 2).trans rfl,(blk_cell BK199.out 3).trans rfl⟩ (fun hHeld => ?_)
             clear hK K
             refine norm_ (a':=?_) ?_ ?_
             rotate_left
             ·show Act.put _ (some 64) _ = _
              simp only [Act.put,sA_,sB_,sC_,i64_w,i32_w]
              rfl
             refine pure_ (i:=6) (N:=some 65) (v:=?_) (a':=?_) #[y_,y_,y_,y_,y_,y_,y_,n_,n_,n_,n_] rfl rfl (any_of HT_.out (by kernel_rfl)) (fun _ _ _ h => h) (Or.inl ⟨by rfl,?_⟩) ?_ ?_
             rotate_left
             ·intro w'
              go_simp
              with_reducible rfl
             rotate_left
             ·simp only [Act.put,sA_,sB_,sC_,i64_w,i32_w]
              rfl
             refine one_ (i:=7) (N:=some 66) #[y_,y_,y_,y_,y_,y_,y_,y_,n_,n_,n_] rfl rfl (one_of HT_.out (by kernel_rfl)) (by decide) (fun K hK => ?_)
             refine value_ (w1:=?_) (v:=?_) (by rfl) rfl ?_ ?_
             rotate_left 2
             ·go_simp
              constructor
              ·rfl
              ·rfl
             refine hK.out _ _ ⟨(blk_cell (blk_alloc BK199.out _) 0).trans rfl,(blk_cell (blk_alloc BK199.out _) 1).trans rfl,(blk_cell (blk_alloc BK199.out _) 2).trans rfl,(blk_cell (blk_alloc BK199.out _) 3).trans rfl⟩ (fun hHeld => ?_)
             clear hK K
             refine norm_ (a':=?_) ?_ ?_
             rotate_left
             ·show Act.put _ (some 66) _ = _
              simp only [Act.put,sA_,sB_,sC_,i64_w,i32_w]
              rfl
             refine one_ (i:=8) (N:=some 67) #[y_,y_,y_,y_,y_,y_,y_,y_,y_,n_,n_] rfl rfl (one_of HT_.out (by kernel_rfl)) (by decide) (fun K hK => ?_)
             refine Kd.R_append_step k47 (w0:=w) w.heap.size (by rfl) (.tmp 60) (.tmp 66) 39 47 (.agg #[(.int .i64 0),(.string ⟨#[]⟩),(.int .i64 0),(.int .i64 0)]) 40 rfl Try.underlying39 info47 rfl (by decide) (by omega) u200000 x200000_1 (⟨7,t200,(⟨t203,t204⟩ : S36)⟩ : S47) [.int .i64 7,.string t200,.int .i64 t203,.int .i64 t204] (fun _ => True) (fun _ => False) rfl rfl ?aP (fun _ hk => hk.elim) ?aF ?aO ?aB ?aS ?aL ?_
             (case aP => exact k47_mkM _ _ _ (⟨7,t200,(⟨t203,t204⟩ : S36)⟩ : S47))
             (case aB => exact (by repeat (first | (with_reducible first | exact HB.out | apply below_alloc | apply pw_below_drewN | apply below_drew1 | refine below_set ?_ GE198.out | refine below_set ?_ GE199.out) | exact HB.out)))
             (case aF => exact (fun _ _ => trivial))
             (case aO => exact (by (with_reducible repeat (first | apply Kd.R_alloc | apply Kd.R_drewN | apply Kd.R_drew));exact HO_200000.out))
             (case aS => exact (below_size (by repeat (first | (with_reducible first | exact HB.out | apply below_alloc | apply pw_below_drewN | apply below_drew1 | refine below_set ?_ GE198.out | refine below_set ?_ GE199.out) | exact HB.out))))
             (case aL => have:=LMc26.out;omega)
             intro v206 w30 ho hb hg hat
             rw [← Ny205.out] at ho
             have n0_:=Aside0.mk (blk_grown (g:=gb198) (o:=.cells #[.slice none 0 0,.int .i64 x199001_1,.int .i64 x199002_1,.int .i64 x199003_1] 41 (0,0)) (by (with_reducible repeat (first | refine blk_drewN ?_ _ | refine blk_drew ?_ | refine blk_alloc ?_ _));exact BK198.out) hg (Kd.R_ne HO_200000.out BK198.out (by decide)))
             have n1_:=Aside0.mk (blk_grown (g:=gb199) (o:=.cells #[u200000,.int .i64 0,.int .i64 0,.int .i64 0] 41 (0,0)) (by (with_reducible repeat (first | refine blk_drewN ?_ _ | refine blk_drew ?_ | refine blk_alloc ?_ _));exact BK199.out) hg (Kd.R_ne HO_200000.out BK199.out (by decide)))
             have n2_:=Aside0.mk (hb)
             have n3_:=Aside0.mk (ho)
             clear BK198
             clear BK199
             clear HB
             clear HO_200000
             have BK198:=n0_
             have BK199:=n1_
             have HB:=n2_
             have HO207:=n3_
             clear n0_ n1_ n2_ n3_
             clear ho hb hg hat
             obtain ⟨Ao31,co31,eo31⟩:=Kd.R_slice HO207.out
             (first | subst eo31 | (injection eo31 with f1_ f2_ f3_;have f4_:=f1_.symm;have f5_:=f3_.symm;clear f1_ f2_ f3_;subst f4_;subst f5_))
             refine hK.out _ _ ⟨(blk_cell BK199.out 0).trans rfl,(blk_cell BK199.out 1).trans rfl,(blk_cell BK199.out 2).trans rfl,(blk_cell BK199.out 3).trans rfl⟩ (fun hHeld => ?_)
             clear hK K
             refine norm_ (a':=?_) ?_ ?_
             rotate_left
             ·show Act.put _ (some 67) _ = _
              simp only [Act.put,sA_,sB_,sC_,i64_w,i32_w]
              rfl
             refine pure_ (i:=9) (N:=some 68) (v:=?_) (a':=?_) #[y_,y_,y_,y_,y_,y_,y_,y_,y_,y_,n_] rfl rfl (any_of HT_.out (by kernel_rfl)) (fun _ _ _ h => h) (Or.inl ⟨by rfl,?_⟩) ?_ ?_
             rotate_left
             ·intro w'
              go_simp
              with_reducible rfl
             rotate_left
             ·simp only [Act.put,sA_,sB_,sC_,i64_w,i32_w]
              rfl
             refine last_ (i:=10) (N:=none) #[y_,y_,y_,y_,y_,y_,y_,y_,y_,y_,y_] rfl rfl (one_of HT_.out (by kernel_rfl)) (by decide) (fun K hK => ?_)
             have hs32 : w30.cell? ⟨gb199,0,none⟩ = some (u200000):=(blk_cell BK199.out 0).trans rfl
             have hfs32:=blk_frozen BK199.out 0
             have hns32_0:=NB198_199.out
             have hms32_0:=NB199_198.out
             refine skip_ (w1:=?_) (by rfl) rfl ?_ ?_
             rotate_left
             ·go_simp
              rfl
             refine hK.out _ _ ?_
             clear hK K
             refine done_ (done_of HT_.out (by kernel_rfl)) ?_
             try go_wp2
             go_roundg kj6
             case measure => have:=HK1.out;have:=HJ6.out;omega
             case rel => exact ⟨(wrap64 (x4_1 + t201)),(x199001_1),(x199002_1),(x199003_1),(y205),(.slice Ao31 y205.length co31),(by first | rfl | (simp;done) | (simp [*];done)),H',⟨by have:=HK1.out;have:=HJ6.out;omega⟩,⟨by (with_reducible repeat (first | apply Kd.R_alloc | apply Kd.R_drewN | apply Kd.R_drew));exact Kd.R_mono (Kd.R_far (p:=⟨gb199,0,none⟩) (Kd.R_types HO207.out BK199.out (by decide)) (fun _ hk => hk.2) (.slice Ao31 y205.length co31)) (fun _ hk => trivial)⟩,⟨by (with_reducible repeat (first | refine blk_drewN ?_ _ | refine blk_drew ?_ | refine blk_alloc ?_ _));refine blk_far ?_ NB198_199.out _;(with_reducible repeat (first | refine blk_drewN ?_ _ | refine blk_drew ?_ | refine blk_alloc ?_ _));exact BK198.out⟩,⟨by (with_reducible repeat (first | refine blk_drewN ?_ _ | refine blk_drew ?_ | refine blk_alloc ?_ _));refine blk_put (cs:=#[u200000,.int .i64 0,.int .i64 0,.int .i64 0]) ?_ 0 _ rfl;(with_reducible repeat (first | refine blk_drewN ?_ _ | refine blk_drew ?_ | refine blk_alloc ?_ _));exact BK199.out⟩,⟨by repeat (first | (with_reducible first | exact HB.out | apply below_alloc | apply pw_below_drewN | apply below_drew1 | refine below_set ?_ GE198.out | refine below_set ?_ GE199.out) | exact HB.out)⟩⟩
            ·rw [if_neg c26] at H
             exact absurd H (by simp)
           ·rw [if_neg c24] at H
            have c24b0 : (t202 == 0) = false:=beq_eq_false_iff_ne.mpr c24
            have c24b1 : (t202 != 0) = true:=bne_iff_ne.mpr c24
            replace H:=Option.bind_eq_some_iff.mp H
            obtain ⟨⟨t208,t209⟩,A330,H⟩:=H
            replace H : (some (([] : List (S47)),t202,t208,t209)) = some (r1,r2,r3,r4):=H
            have A33:=Aside0.mk A330
            clear A330
            simp only [Option.some.injEq,Prod.mk.injEq] at H
            obtain ⟨rfl,rfl,rfl,rfl⟩:=H
            have p19 : 0 ≤ (x4_1 : Int):=of_decide_eq_true (by first | (with_reducible assumption) | assumption)
            have q19 : x4_1 < (a0.size : Int):=of_decide_eq_true (by first | (with_reducible assumption) | assumption)
            have hx19:=bt_at a0 x4_1
            replace p19:=eq_true p19
            replace q19:=eq_true q19
            go_wp2_with (first | ((with_reducible refine gate_callee (f:=14) rfl ?_);refine goesL_ (some 48) rfl rfl Try.func14 (by kernel_rfl) rfl #[.string (a0.extract (x4_1 : Int).toNat a0.size)] rfl (by (try simp only [List.map_toArray,List.map_cons,List.map_nil]);first | done | rfl | (simp only [List.length_drop,List.length_take];rfl)) ?_;(with_reducible refine (tachographref20_Get.calls kj6 (a0.extract (x4_1 : Int).toNat a0.size) t200 t201 t202 _ A23.out).mono ?_);rintro e w34 ⟨rfl,hb⟩;refine ⟨_,rfl,?_⟩;have n0_:=Aside0.mk (Kd.R_below (by (with_reducible repeat (first | apply Kd.R_alloc | apply Kd.R_drewN | apply Kd.R_drew));exact HO_200000.out) hb);have n1_:=Aside0.mk (blk_below (g:=gb198) (o:=.cells #[.slice none 0 0,.int .i64 x199001_1,.int .i64 x199002_1,.int .i64 x199003_1] 41 (0,0)) (by (with_reducible repeat (first | refine blk_drewN ?_ _ | refine blk_drew ?_ | refine blk_alloc ?_ _));exact BK198.out) hb);have n2_:=Aside0.mk (blk_below (g:=gb199) (o:=.cells #[u200000,.int .i64 0,.int .i64 0,.int .i64 0] 41 (0,0)) (by (with_reducible repeat (first | refine blk_drewN ?_ _ | refine blk_drew ?_ | refine blk_alloc ?_ _));exact BK199.out) hb);have n3_:=Aside0.mk (below_step (by repeat (first | (with_reducible first | exact HB.out | apply below_alloc | apply pw_below_drewN | apply below_drew1 | refine below_set ?_ GE198.out | refine below_set ?_ GE199.out) | exact HB.out)) hb);clear HO_200000;clear BK198;clear BK199;clear HB;have HO_200000:=n0_;have BK198:=n1_;have BK199:=n2_;have HB:=n3_;clear n0_ n1_ n2_ n3_;(try clear hb);(try clear hb2);(try clear hk);(try clear hi)) | ((with_reducible refine gate_callee (f:=20) rfl ?_);refine goesL_ (some 57) rfl rfl Try.func20 (by kernel_rfl) rfl #[.string a0,.int .i64 x4_1] rfl (by (try simp only [List.map_toArray,List.map_cons,List.map_nil]);first | done | rfl | (simp only [List.length_drop,List.length_take];rfl)) ?_;(with_reducible refine (tachographref21_Place.calls kj6 a0 x4_1 t208 t209 _ A33.out).mono ?_);rintro e w35 ⟨rfl,hb⟩;refine ⟨_,rfl,?_⟩;have n0_:=Aside0.mk (Kd.R_below (by (with_reducible repeat (first | apply Kd.R_alloc | apply Kd.R_drewN | apply Kd.R_drew));exact HO_200000.out) hb);have n1_:=Aside0.mk (blk_below (g:=gb198) (o:=.cells #[.slice none 0 0,.int .i64 x199001_1,.int .i64 x199002_1,.int .i64 x199003_1] 41 (0,0)) (by (with_reducible repeat (first | refine blk_drewN ?_ _ | refine blk_drew ?_ | refine blk_alloc ?_ _));exact BK198.out) hb);have n2_:=Aside0.mk (blk_below (g:=gb199) (o:=.cells #[u200000,.int .i64 0,.int .i64 0,.int .i64 0] 41 (0,0)) (by (with_reducible repeat (first | refine blk_drewN ?_ _ | refine blk_drew ?_ | refine blk_alloc ?_ _));exact BK199.out) hb);have n3_:=Aside0.mk (below_step (by repeat (first | (with_reducible first | exact HB.out | apply below_alloc | apply pw_below_drewN | apply below_drew1 | refine below_set ?_ GE198.out | refine below_set ?_ GE199.out) | exact HB.out)) hb);clear HO_200000;clear BK198;clear BK199;clear HB;have HO_200000:=n0_;have BK198:=n1_;have BK199:=n2_;have HB:=n3_;clear n0_ n1_ n2_ n3_;(try clear hb);(try clear hb2);(try clear hk);(try clear hi);have hnb36:=NB198_199.out;have hnc36:=NB199_198.out;have hcz37_0 : w35.cell? ⟨gb198,0,none⟩ = some (.slice none 0 0):=(blk_cell BK198.out 0).trans rfl;have hcz37_1 : w35.cell? ⟨gb198,1,none⟩ = some (.int .i64 x199001_1):=(blk_cell BK198.out 1).trans rfl;have hcz37_2 : w35.cell? ⟨gb198,2,none⟩ = some (.int .i64 x199002_1):=(blk_cell BK198.out 2).trans rfl;have hcz37_3 : w35.cell? ⟨gb198,3,none⟩ = some (.int .i64 x199003_1):=(blk_cell BK198.out 3).trans rfl;have hfz37_0:=blk_frozen BK198.out 0;have hfz37_1:=blk_frozen BK198.out 1;have hfz37_2:=blk_frozen BK198.out 2;have hfz37_3:=blk_frozen BK198.out 3))
            refine bodyPost_ret (results_cell_row rfl _ _ gb198 41 #[.slice none 0 0,.int .i64 t202,.int .i64 t208,.int .i64 t209] (0,0) _ rfl (by (with_reducible repeat (first | refine blk_drewN ?_ _ | refine blk_drew ?_ | refine blk_alloc ?_ _));refine blk_put (cs:=#[.slice none 0 0,.int .i64 t202,.int .i64 t208,.int .i64 x199003_1]) ?_ 3 _ rfl;(with_reducible repeat (first | refine blk_drewN ?_ _ | refine blk_drew ?_ | refine blk_alloc ?_ _));refine blk_put (cs:=#[.slice none 0 0,.int .i64 t202,.int .i64 x199002_1,.int .i64 x199003_1]) ?_ 2 _ rfl;(with_reducible repeat (first | refine blk_drewN ?_ _ | refine blk_drew ?_ | refine blk_alloc ?_ _));refine blk_put (cs:=#[.slice none 0 0,.int .i64 x199001_1,.int .i64 x199002_1,.int .i64 x199003_1]) ?_ 1 _ rfl;(with_reducible repeat (first | refine blk_drewN ?_ _ | refine blk_drew ?_ | refine blk_alloc ?_ _));refine blk_put (cs:=#[.slice none 0 0,.int .i64 x199001_1,.int .i64 x199002_1,.int .i64 x199003_1]) ?_ 0 _ rfl;(with_reducible repeat (first | refine blk_drewN ?_ _ | refine blk_drew ?_ | refine blk_alloc ?_ _));exact BK198.out) Try.underlying41 rfl (by kernel_rfl)) rfl ?_
            exact ⟨_,by first | rfl | (simp [errW_none,errW_some] <;> rfl) | (simp [*,errW_none,errW_some] <;> rfl),by first | exact Kd.R_nil _ _ _ _ _ | exact Kd.N_nil _ _ _ _ _ | exact Kd.V_nil _ _ _ _ _ | exact Kd.Q_nil _ _ _ _ _ | exact Kd.S_nil _ _ _ _ _,by repeat (first | (with_reducible first | exact HB.out | apply below_alloc | apply pw_below_drewN | apply below_drew1 | refine below_set ?_ GE198.out | refine below_set ?_ GE199.out) | exact HB.out)⟩
          ·rw [if_neg c22] at H
           exact absurd H (by simp)
         ·rw [if_neg c20] at H
          have c20b0 : ((bt a0 x4_1) == 34) = false:=beq_eq_false_iff_ne.mpr c20
          have c20b1 : ((bt a0 x4_1) != 34) = true:=bne_iff_ne.mpr c20
          replace H:=Option.bind_eq_some_iff.mp H
          obtain ⟨⟨t210,t211,t212⟩,A380,H⟩:=H
          replace H : (if t212 = 0 then (if x4_1 ≤ t211 then (if t211 ≤ (a0.size : Int) then ((tachographref21_Place.f kj6 a0 x4_1).bind fun bt213 => (if x200000_1.length < 3518437208883 then (tachographref21_Lex.l0 kj6 a0 t211 (x200000_1 ++ [(⟨t210,a0.extract (x4_1 : Int).toNat (t211 : Int).toNat,(⟨bt213.1,bt213.2⟩ : S36)⟩ : S47)]) 0 0 0) else (none))) else (none)) else (none)) else ((tachographref21_Place.f kj6 a0 x4_1).bind fun bt218 => (some (([] : List (S47)),t212,bt218.1,bt218.2)))) = some (r1,r2,r3,r4):=H
          have A38:=Aside0.mk A380
          clear A380
          by_cases c39 : t212 = 0
          ·rw [if_pos c39] at H
           have c39b0 : (t212 == 0) = true:=beq_iff_eq.mpr c39
           have c39b1 : (t212 != 0) = false:=bne_eq_false_iff_eq.mpr c39
           clear c39
           have c40b0:=eq_true (of_decide_eq_true (by first | (with_reducible assumption) | assumption) : 0 ≤ x4_1)
           by_cases c41 : x4_1 ≤ t211
           ·rw [if_pos c41] at H
            have c41b0:=eq_true c41
            have c41b1 : decide (x4_1 ≤ t211) = true:=decide_eq_true c41
            clear c41
            by_cases c42 : t211 ≤ (a0.size : Int)
            ·rw [if_pos c42] at H
             have c42b0:=eq_true c42
             have c42b1 : decide (t211 ≤ (a0.size : Int)) = true:=decide_eq_true c42
             clear c42
             replace H:=Option.bind_eq_some_iff.mp H
             obtain ⟨⟨t213,t214⟩,A430,H⟩:=H
             replace H : (if x200000_1.length < 3518437208883 then (tachographref21_Lex.l0 kj6 a0 t211 (x200000_1 ++ [(⟨t210,a0.extract (x4_1 : Int).toNat (t211 : Int).toNat,(⟨t213,t214⟩ : S36)⟩ : S47)]) 0 0 0) else (none)) = some (r1,r2,r3,r4):=H
             have A43:=Aside0.mk A430
             clear A430
             by_cases c44 : x200000_1.length < 3518437208883
             ·rw [if_pos c44] at H
              have LMc44:=Aside0.mk c44
              clear c44
              obtain ⟨y215,hy215⟩ : ∃ y_ : List (S47),y_ = (x200000_1 ++ [(⟨t210,a0.extract (x4_1 : Int).toNat (t211 : Int).toNat,(⟨t213,t214⟩ : S36)⟩ : S47)]):=⟨_,rfl⟩
              replace H : (tachographref21_Lex.l0 kj6 a0 t211 y215 0 0 0) = some (r1,r2,r3,r4):=by first | (rw [hy215];with_reducible exact H) | (have H2_:=(Option.bind_some _ _).symm.trans H;rw [hy215];with_reducible exact H2_) | (have H2_:=(Option.bind_some _ _).symm.trans H;with_reducible exact H2_) | with_reducible exact H | (rw [hy215];exact H) | exact H
              have Ny215:=Aside0.mk hy215
              clear hy215
              have H':=Aside0.mk H
              clear H
              have p19 : 0 ≤ (x4_1 : Int):=of_decide_eq_true (by first | (with_reducible assumption) | assumption)
              have q19 : x4_1 < (a0.size : Int):=of_decide_eq_true (by first | (with_reducible assumption) | assumption)
              have hx19:=bt_at a0 x4_1
              replace p19:=eq_true p19
              replace q19:=eq_true q19
              try go_wp2_with (first | ((with_reducible refine gate_callee (f:=39) rfl ?_);refine goesL_ (some 75) rfl rfl Try.func39 (by kernel_rfl) rfl #[.string a0,.int .i64 x4_1] rfl (by (try simp only [List.map_toArray,List.map_cons,List.map_nil]);first | done | rfl | (simp only [List.length_drop,List.length_take];rfl)) ?_;(with_reducible refine (tachographref21_next.calls kj6 a0 x4_1 t210 t211 t212 _ A38.out).mono ?_);rintro e w45 ⟨rfl,hb⟩;refine ⟨_,rfl,?_⟩;have n0_:=Aside0.mk (Kd.R_below (by (with_reducible repeat (first | apply Kd.R_alloc | apply Kd.R_drewN | apply Kd.R_drew));exact HO_200000.out) hb);have n1_:=Aside0.mk (blk_below (g:=gb198) (o:=.cells #[.slice none 0 0,.int .i64 x199001_1,.int .i64 x199002_1,.int .i64 x199003_1] 41 (0,0)) (by (with_reducible repeat (first | refine blk_drewN ?_ _ | refine blk_drew ?_ | refine blk_alloc ?_ _));exact BK198.out) hb);have n2_:=Aside0.mk (blk_below (g:=gb199) (o:=.cells #[u200000,.int .i64 0,.int .i64 0,.int .i64 0] 41 (0,0)) (by (with_reducible repeat (first | refine blk_drewN ?_ _ | refine blk_drew ?_ | refine blk_alloc ?_ _));exact BK199.out) hb);have n3_:=Aside0.mk (below_step (by repeat (first | (with_reducible first | exact HB.out | apply below_alloc | apply pw_below_drewN | apply below_drew1 | refine below_set ?_ GE198.out | refine below_set ?_ GE199.out) | exact HB.out)) hb);clear HO_200000;clear BK198;clear BK199;clear HB;have HO_200000:=n0_;have BK198:=n1_;have BK199:=n2_;have HB:=n3_;clear n0_ n1_ n2_ n3_;(try clear hb);(try clear hb2);(try clear hk);(try clear hi)))
              have n0_:=Aside0.mk (Kd.R_drew HO_200000.out)
              have n1_:=Aside0.mk (blk_drew BK198.out)
              have n2_:=Aside0.mk (blk_drew BK199.out)
              have n3_:=Aside0.mk (below_drew1 HB.out)
              clear HO_200000
              clear BK198
              clear BK199
              clear HB
              have HO_200000:=n0_
              have BK198:=n1_
              have BK199:=n2_
              have HB:=n3_
              clear n0_ n1_ n2_ n3_
              refine start_ (n:=15) (S:=fun w' => w'.cell? ⟨gb199,0,none⟩ = some (u200000) ∧ w'.cell? ⟨gb199,1,none⟩ = some (.int .i64 0) ∧ w'.cell? ⟨gb199,2,none⟩ = some (.int .i64 0) ∧ w'.cell? ⟨gb199,3,none⟩ = some (.int .i64 0)) (ds:=[14]) #[n_,n_,n_,n_,n_,n_,n_,n_,n_,n_,n_,n_,n_,n_,n_] (by kernel_rfl) rfl rfl ⟨(blk_cell BK199.out 0).trans rfl,(blk_cell BK199.out 1).trans rfl,(blk_cell BK199.out 2).trans rfl,(blk_cell BK199.out 3).trans rfl⟩ (fun hHeld => ?_);refine with_tabW tachographref21_Lex.tab15 tachographref21_Lex.bits15 (fun HT_ HW_ => ?_)
              generalize w45.drew = w46 at HO_200000 BK198 BK199 HB hHeld ⊢
              refine pure_ (i:=0) (N:=some 86) (v:=?_) (a':=?_) #[y_,n_,n_,n_,n_,n_,n_,n_,n_,n_,n_,n_,n_,n_,n_] rfl rfl (any_of HT_.out (by kernel_rfl)) (fun _ _ _ h => h) (Or.inl ⟨by rfl,?_⟩) ?_ ?_
              rotate_left
              ·intro w'
               go_simp
               with_reducible rfl
              rotate_left
              ·simp only [Act.put,sA_,sB_,sC_,i64_w,i32_w]
               rfl
              refine pure_ (i:=2) (N:=some 88) (v:=?_) (a':=?_) #[y_,n_,y_,n_,n_,n_,n_,n_,n_,n_,n_,n_,n_,n_,n_] rfl rfl (any_of HT_.out (by kernel_rfl)) (fun _ _ _ h => h) (Or.inl ⟨by rfl,?_⟩) ?_ ?_
              rotate_left
              ·intro w'
               go_simp
               with_reducible rfl
              rotate_left
              ·simp only [Act.put,sA_,sB_,sC_,i64_w,i32_w]
               rfl
              refine pure_ (i:=3) (N:=some 89) (v:=?_) (a':=?_) #[y_,n_,y_,y_,n_,n_,n_,n_,n_,n_,n_,n_,n_,n_,n_] rfl rfl (any_of HT_.out (by kernel_rfl)) (fun _ _ _ h => h) (Or.inl ⟨by rfl,?_⟩) ?_ ?_
              rotate_left
              ·intro w'
               go_simp
               with_reducible rfl
              rotate_left
              ·simp only [Act.put,sA_,sB_,sC_,i64_w,i32_w]
               rfl
              refine pure_ (i:=4) (N:=some 90) (v:=?_) (a':=?_) #[y_,n_,y_,y_,y_,n_,n_,n_,n_,n_,n_,n_,n_,n_,n_] rfl rfl (any_of HT_.out (by kernel_rfl)) (fun _ _ _ h => h) (Or.inl ⟨by rfl,?_⟩) ?_ ?_
              rotate_left
              ·intro w'
               go_simp
               with_reducible rfl
              rotate_left
              ·simp only [Act.put,sA_,sB_,sC_,i64_w,i32_w]
               rfl
              refine pure_ (i:=5) (N:=some 91) (v:=?_) (a':=?_) #[y_,n_,y_,y_,y_,y_,n_,n_,n_,n_,n_,n_,n_,n_,n_] rfl rfl (any_of HT_.out (by kernel_rfl)) (fun _ _ _ h => h) (Or.inl ⟨by rfl,?_⟩) ?_ ?_
              rotate_left
              ·intro w'
               go_simp
               with_reducible rfl
              rotate_left
              ·simp only [Act.put,sA_,sB_,sC_,i64_w,i32_w]
               rfl
              refine pure_ (i:=6) (N:=some 92) (v:=?_) (a':=?_) #[y_,n_,y_,y_,y_,y_,y_,n_,n_,n_,n_,n_,n_,n_,n_] rfl rfl (any_of HT_.out (by kernel_rfl)) (fun _ _ _ h => h) (Or.inl ⟨by rfl,?_⟩) ?_ ?_
              rotate_left
              ·intro w'
               go_simp
               with_reducible rfl
              rotate_left
              ·simp only [Act.put,sA_,sB_,sC_,i64_w,i32_w]
               rfl
              refine pure_ (i:=7) (N:=some 93) (v:=?_) (a':=?_) #[y_,n_,y_,y_,y_,y_,y_,y_,n_,n_,n_,n_,n_,n_,n_] rfl rfl (any_of HT_.out (by kernel_rfl)) (fun _ _ _ h => h) (Or.inl ⟨by rfl,?_⟩) ?_ ?_
              rotate_left
              ·intro w'
               go_simp
               with_reducible rfl
              rotate_left
              ·simp only [Act.put,sA_,sB_,sC_,i64_w,i32_w]
               rfl
              refine pure_ (i:=8) (N:=some 94) (v:=?_) (a':=?_) #[y_,n_,y_,y_,y_,y_,y_,y_,y_,n_,n_,n_,n_,n_,n_] rfl rfl (any_of HT_.out (by kernel_rfl)) (fun _ _ _ h => h) (Or.inl ⟨by rfl,?_⟩) ?_ ?_
              rotate_left
              ·intro w'
               go_simp
               with_reducible rfl
              rotate_left
              ·simp only [Act.put,sA_,sB_,sC_,i64_w,i32_w]
               rfl
              refine take_ (i:=1) (N:=some 87) (v:=?_) (a':=?_) #[y_,y_,y_,y_,y_,y_,y_,y_,y_,n_,n_,n_,n_,n_,n_] rfl rfl (take_ofW HT_.out HW_.out (by kernel_rfl)) (fun _ _ _ h => h) (Or.inl ⟨by rfl,?_⟩) hHeld ?_ ?_
              rotate_left
              ·rintro w' ⟨s0,s1,s2,s3⟩
               go_simp
               with_reducible rfl
              rotate_left
              ·simp only [Act.put,sA_,sB_,sC_,i64_w,i32_w]
               rfl
              refine one_ (i:=9) (N:=some 95) #[y_,y_,y_,y_,y_,y_,y_,y_,y_,y_,n_,n_,n_,n_,n_] rfl rfl (one_of HT_.out (by kernel_rfl)) (by decide) (fun K hK => ?_)
              refine goes_ Try.func20 (by kernel_rfl) rfl #[.string a0,.int .i64 x4_1] (by rfl) rfl rfl (by (try simp only [List.map_toArray,List.map_cons,List.map_nil]);first | done | rfl | (simp only [List.length_drop,List.length_take];rfl)) ?_
              with_reducible refine (tachographref21_Place.calls kj6 a0 x4_1 t213 t214 _ A43.out).mono ?_
              rintro e w47 ⟨rfl,hb⟩
              refine ⟨_,rfl,?_⟩
              have n0_:=Aside0.mk (Kd.R_below (by (with_reducible repeat (first | apply Kd.R_alloc | apply Kd.R_drewN | apply Kd.R_drew));exact HO_200000.out) hb)
              have n1_:=Aside0.mk (blk_below (g:=gb198) (o:=.cells #[.slice none 0 0,.int .i64 x199001_1,.int .i64 x199002_1,.int .i64 x199003_1] 41 (0,0)) (by (with_reducible repeat (first | refine blk_drewN ?_ _ | refine blk_drew ?_ | refine blk_alloc ?_ _));exact BK198.out) hb)
              have n2_:=Aside0.mk (blk_below (g:=gb199) (o:=.cells #[u200000,.int .i64 0,.int .i64 0,.int .i64 0] 41 (0,0)) (by (with_reducible repeat (first | refine blk_drewN ?_ _ | refine blk_drew ?_ | refine blk_alloc ?_ _));exact BK199.out) hb)
              have n3_:=Aside0.mk (below_step (by repeat (first | (with_reducible first | exact HB.out | apply below_alloc | apply pw_below_drewN | apply below_drew1 | refine below_set ?_ GE198.out | refine below_set ?_ GE199.out) | exact HB.out)) hb)
              clear HO_200000
              clear BK198
              clear BK199
              clear HB
              have HO_200000:=n0_
              have BK198:=n1_
              have BK199:=n2_
              have HB:=n3_
              clear n0_ n1_ n2_ n3_
              (try clear hb)
              (try clear hb2)
              (try clear hk)
              (try clear hi)
              refine hK.out _ _ ⟨(blk_cell BK199.out 0).trans rfl,(blk_cell BK199.out 1).trans rfl,(blk_cell BK199.out 2).trans rfl,(blk_cell BK199.out 3).trans rfl⟩ (fun hHeld => ?_)
              clear hK K
              refine norm_ (a':=?_) ?_ ?_
              rotate_left
              ·show Act.put _ (some 95) _ = _
               simp only [Act.put,sA_,sB_,sC_,i64_w,i32_w]
               rfl
              refine pure_ (i:=10) (N:=some 96) (v:=?_) (a':=?_) #[y_,y_,y_,y_,y_,y_,y_,y_,y_,y_,y_,n_,n_,n_,n_] rfl rfl (any_of HT_.out (by kernel_rfl)) (fun _ _ _ h => h) (Or.inl ⟨by rfl,?_⟩) ?_ ?_
              rotate_left
              ·intro w'
               go_simp
               with_reducible rfl
              rotate_left
              ·simp only [Act.put,sA_,sB_,sC_,i64_w,i32_w]
               rfl
              refine one_ (i:=11) (N:=some 97) #[y_,y_,y_,y_,y_,y_,y_,y_,y_,y_,y_,y_,n_,n_,n_] rfl rfl (one_of HT_.out (by kernel_rfl)) (by decide) (fun K hK => ?_)
              refine value_ (w1:=?_) (v:=?_) (by rfl) rfl ?_ ?_
              rotate_left 2
              ·go_simp
               constructor
               ·rfl
               ·rfl
              refine hK.out _ _ ⟨(blk_cell (blk_alloc BK199.out _) 0).trans rfl,(blk_cell (blk_alloc BK199.out _) 1).trans rfl,(blk_cell (blk_alloc BK199.out _) 2).trans rfl,(blk_cell (blk_alloc BK199.out _) 3).trans rfl⟩ (fun hHeld => ?_)
              clear hK K
              refine norm_ (a':=?_) ?_ ?_
              rotate_left
              ·show Act.put _ (some 97) _ = _
               simp only [Act.put,sA_,sB_,sC_,i64_w,i32_w]
               rfl
              refine one_ (i:=12) (N:=some 98) #[y_,y_,y_,y_,y_,y_,y_,y_,y_,y_,y_,y_,y_,n_,n_] rfl rfl (one_of HT_.out (by kernel_rfl)) (by decide) (fun K hK => ?_)
              refine Kd.R_append_step k47 (w0:=w) w.heap.size (by rfl) (.tmp 87) (.tmp 97) 39 47 (.agg #[(.int .i64 0),(.string ⟨#[]⟩),(.int .i64 0),(.int .i64 0)]) 40 rfl Try.underlying39 info47 rfl (by decide) (by omega) u200000 x200000_1 (⟨t210,a0.extract (x4_1 : Int).toNat (t211 : Int).toNat,(⟨t213,t214⟩ : S36)⟩ : S47) [.int .i64 t210,.string (a0.extract (x4_1 : Int).toNat (t211 : Int).toNat),.int .i64 t213,.int .i64 t214] (fun _ => True) (fun _ => False) rfl rfl ?aP (fun _ hk => hk.elim) ?aF ?aO ?aB ?aS ?aL ?_
              (case aP => exact k47_mkM _ _ _ (⟨t210,a0.extract (x4_1 : Int).toNat (t211 : Int).toNat,(⟨t213,t214⟩ : S36)⟩ : S47))
              (case aB => exact (by repeat (first | (with_reducible first | exact HB.out | apply below_alloc | apply pw_below_drewN | apply below_drew1 | refine below_set ?_ GE198.out | refine below_set ?_ GE199.out) | exact HB.out)))
              (case aF => exact (fun _ _ => trivial))
              (case aO => exact (by (with_reducible repeat (first | apply Kd.R_alloc | apply Kd.R_drewN | apply Kd.R_drew));exact HO_200000.out))
              (case aS => exact (below_size (by repeat (first | (with_reducible first | exact HB.out | apply below_alloc | apply pw_below_drewN | apply below_drew1 | refine below_set ?_ GE198.out | refine below_set ?_ GE199.out) | exact HB.out))))
              (case aL => have:=LMc44.out;omega)
              intro v216 w48 ho hb hg hat
              rw [← Ny215.out] at ho
              have n0_:=Aside0.mk (blk_grown (g:=gb198) (o:=.cells #[.slice none 0 0,.int .i64 x199001_1,.int .i64 x199002_1,.int .i64 x199003_1] 41 (0,0)) (by (with_reducible repeat (first | refine blk_drewN ?_ _ | refine blk_drew ?_ | refine blk_alloc ?_ _));exact BK198.out) hg (Kd.R_ne HO_200000.out BK198.out (by decide)))
              have n1_:=Aside0.mk (blk_grown (g:=gb199) (o:=.cells #[u200000,.int .i64 0,.int .i64 0,.int .i64 0] 41 (0,0)) (by (with_reducible repeat (first | refine blk_drewN ?_ _ | refine blk_drew ?_ | refine blk_alloc ?_ _));exact BK199.out) hg (Kd.R_ne HO_200000.out BK199.out (by decide)))
              have n2_:=Aside0.mk (hb)
              have n3_:=Aside0.mk (ho)
              clear BK198
              clear BK199
              clear HB
              clear HO_200000
              have BK198:=n0_
              have BK199:=n1_
              have HB:=n2_
              have HO217:=n3_
              clear n0_ n1_ n2_ n3_
              clear ho hb hg hat
              obtain ⟨Ao49,co49,eo49⟩:=Kd.R_slice HO217.out
              (first | subst eo49 | (injection eo49 with f1_ f2_ f3_;have f4_:=f1_.symm;have f5_:=f3_.symm;clear f1_ f2_ f3_;subst f4_;subst f5_))
              refine hK.out _ _ ⟨(blk_cell BK199.out 0).trans rfl,(blk_cell BK199.out 1).trans rfl,(blk_cell BK199.out 2).trans rfl,(blk_cell BK199.out 3).trans rfl⟩ (fun hHeld => ?_)
              clear hK K
              refine norm_ (a':=?_) ?_ ?_
              rotate_left
              ·show Act.put _ (some 98) _ = _
               simp only [Act.put,sA_,sB_,sC_,i64_w,i32_w]
               rfl
              refine pure_ (i:=13) (N:=some 99) (v:=?_) (a':=?_) #[y_,y_,y_,y_,y_,y_,y_,y_,y_,y_,y_,y_,y_,y_,n_] rfl rfl (any_of HT_.out (by kernel_rfl)) (fun _ _ _ h => h) (Or.inl ⟨by rfl,?_⟩) ?_ ?_
              rotate_left
              ·intro w'
               go_simp
               with_reducible rfl
              rotate_left
              ·simp only [Act.put,sA_,sB_,sC_,i64_w,i32_w]
               rfl
              refine last_ (i:=14) (N:=none) #[y_,y_,y_,y_,y_,y_,y_,y_,y_,y_,y_,y_,y_,y_,y_] rfl rfl (one_of HT_.out (by kernel_rfl)) (by decide) (fun K hK => ?_)
              have hs50 : w48.cell? ⟨gb199,0,none⟩ = some (u200000):=(blk_cell BK199.out 0).trans rfl
              have hfs50:=blk_frozen BK199.out 0
              have hns50_0:=NB198_199.out
              have hms50_0:=NB199_198.out
              refine skip_ (w1:=?_) (by rfl) rfl ?_ ?_
              rotate_left
              ·go_simp
               rfl
              refine hK.out _ _ ?_
              clear hK K
              refine done_ (done_of HT_.out (by kernel_rfl)) ?_
              try go_wp2
              go_roundg kj6
              case measure => have:=HK1.out;have:=HJ6.out;omega
              case rel => exact ⟨(t211),(x199001_1),(x199002_1),(x199003_1),(y215),(.slice Ao49 y215.length co49),(by first | rfl | (simp;done) | (simp [*];done)),H',⟨by have:=HK1.out;have:=HJ6.out;omega⟩,⟨by (with_reducible repeat (first | apply Kd.R_alloc | apply Kd.R_drewN | apply Kd.R_drew));exact Kd.R_mono (Kd.R_far (p:=⟨gb199,0,none⟩) (Kd.R_types HO217.out BK199.out (by decide)) (fun _ hk => hk.2) (.slice Ao49 y215.length co49)) (fun _ hk => trivial)⟩,⟨by (with_reducible repeat (first | refine blk_drewN ?_ _ | refine blk_drew ?_ | refine blk_alloc ?_ _));refine blk_far ?_ NB198_199.out _;(with_reducible repeat (first | refine blk_drewN ?_ _ | refine blk_drew ?_ | refine blk_alloc ?_ _));exact BK198.out⟩,⟨by (with_reducible repeat (first | refine blk_drewN ?_ _ | refine blk_drew ?_ | refine blk_alloc ?_ _));refine blk_put (cs:=#[u200000,.int .i64 0,.int .i64 0,.int .i64 0]) ?_ 0 _ rfl;(with_reducible repeat (first | refine blk_drewN ?_ _ | refine blk_drew ?_ | refine blk_alloc ?_ _));exact BK199.out⟩,⟨by repeat (first | (with_reducible first | exact HB.out | apply below_alloc | apply pw_below_drewN | apply below_drew1 | refine below_set ?_ GE198.out | refine below_set ?_ GE199.out) | exact HB.out)⟩⟩
             ·rw [if_neg c44] at H
              exact absurd H (by simp)
            ·rw [if_neg c42] at H
             exact absurd H (by simp)
           ·rw [if_neg c41] at H
            exact absurd H (by simp)
          ·rw [if_neg c39] at H
           have c39b0 : (t212 == 0) = false:=beq_eq_false_iff_ne.mpr c39
           have c39b1 : (t212 != 0) = true:=bne_iff_ne.mpr c39
           replace H:=Option.bind_eq_some_iff.mp H
           obtain ⟨⟨t218,t219⟩,A510,H⟩:=H
           replace H : (some (([] : List (S47)),t212,t218,t219)) = some (r1,r2,r3,r4):=H
           have A51:=Aside0.mk A510
           clear A510
           simp only [Option.some.injEq,Prod.mk.injEq] at H
           obtain ⟨rfl,rfl,rfl,rfl⟩:=H
           have p19 : 0 ≤ (x4_1 : Int):=of_decide_eq_true (by first | (with_reducible assumption) | assumption)
           have q19 : x4_1 < (a0.size : Int):=of_decide_eq_true (by first | (with_reducible assumption) | assumption)
           have hx19:=bt_at a0 x4_1
           replace p19:=eq_true p19
           replace q19:=eq_true q19
           go_wp2_with (first | ((with_reducible refine gate_callee (f:=39) rfl ?_);refine goesL_ (some 75) rfl rfl Try.func39 (by kernel_rfl) rfl #[.string a0,.int .i64 x4_1] rfl (by (try simp only [List.map_toArray,List.map_cons,List.map_nil]);first | done | rfl | (simp only [List.length_drop,List.length_take];rfl)) ?_;(with_reducible refine (tachographref21_next.calls kj6 a0 x4_1 t210 t211 t212 _ A38.out).mono ?_);rintro e w52 ⟨rfl,hb⟩;refine ⟨_,rfl,?_⟩;have n0_:=Aside0.mk (Kd.R_below (by (with_reducible repeat (first | apply Kd.R_alloc | apply Kd.R_drewN | apply Kd.R_drew));exact HO_200000.out) hb);have n1_:=Aside0.mk (blk_below (g:=gb198) (o:=.cells #[.slice none 0 0,.int .i64 x199001_1,.int .i64 x199002_1,.int .i64 x199003_1] 41 (0,0)) (by (with_reducible repeat (first | refine blk_drewN ?_ _ | refine blk_drew ?_ | refine blk_alloc ?_ _));exact BK198.out) hb);have n2_:=Aside0.mk (blk_below (g:=gb199) (o:=.cells #[u200000,.int .i64 0,.int .i64 0,.int .i64 0] 41 (0,0)) (by (with_reducible repeat (first | refine blk_drewN ?_ _ | refine blk_drew ?_ | refine blk_alloc ?_ _));exact BK199.out) hb);have n3_:=Aside0.mk (below_step (by repeat (first | (with_reducible first | exact HB.out | apply below_alloc | apply pw_below_drewN | apply below_drew1 | refine below_set ?_ GE198.out | refine below_set ?_ GE199.out) | exact HB.out)) hb);clear HO_200000;clear BK198;clear BK199;clear HB;have HO_200000:=n0_;have BK198:=n1_;have BK199:=n2_;have HB:=n3_;clear n0_ n1_ n2_ n3_;(try clear hb);(try clear hb2);(try clear hk);(try clear hi)) | ((with_reducible refine gate_callee (f:=20) rfl ?_);refine goesL_ (some 84) rfl rfl Try.func20 (by kernel_rfl) rfl #[.string a0,.int .i64 x4_1] rfl (by (try simp only [List.map_toArray,List.map_cons,List.map_nil]);first | done | rfl | (simp only [List.length_drop,List.length_take];rfl)) ?_;(with_reducible refine (tachographref21_Place.calls kj6 a0 x4_1 t218 t219 _ A51.out).mono ?_);rintro e w53 ⟨rfl,hb⟩;refine ⟨_,rfl,?_⟩;have n0_:=Aside0.mk (Kd.R_below (by (with_reducible repeat (first | apply Kd.R_alloc | apply Kd.R_drewN | apply Kd.R_drew));exact HO_200000.out) hb);have n1_:=Aside0.mk (blk_below (g:=gb198) (o:=.cells #[.slice none 0 0,.int .i64 x199001_1,.int .i64 x199002_1,.int .i64 x199003_1] 41 (0,0)) (by (with_reducible repeat (first | refine blk_drewN ?_ _ | refine blk_drew ?_ | refine blk_alloc ?_ _));exact BK198.out) hb);have n2_:=Aside0.mk (blk_below (g:=gb199) (o:=.cells #[u200000,.int .i64 0,.int .i64 0,.int .i64 0] 41 (0,0)) (by (with_reducible repeat (first | refine blk_drewN ?_ _ | refine blk_drew ?_ | refine blk_alloc ?_ _));exact BK199.out) hb);have n3_:=Aside0.mk (below_step (by repeat (first | (with_reducible first | exact HB.out | apply below_alloc | apply pw_below_drewN | apply below_drew1 | refine below_set ?_ GE198.out | refine below_set ?_ GE199.out) | exact HB.out)) hb);clear HO_200000;clear BK198;clear BK199;clear HB;have HO_200000:=n0_;have BK198:=n1_;have BK199:=n2_;have HB:=n3_;clear n0_ n1_ n2_ n3_;(try clear hb);(try clear hb2);(try clear hk);(try clear hi);have hnb54:=NB198_199.out;have hnc54:=NB199_198.out;have hcz55_0 : w53.cell? ⟨gb198,0,none⟩ = some (.slice none 0 0):=(blk_cell BK198.out 0).trans rfl;have hcz55_1 : w53.cell? ⟨gb198,1,none⟩ = some (.int .i64 x199001_1):=(blk_cell BK198.out 1).trans rfl;have hcz55_2 : w53.cell? ⟨gb198,2,none⟩ = some (.int .i64 x199002_1):=(blk_cell BK198.out 2).trans rfl;have hcz55_3 : w53.cell? ⟨gb198,3,none⟩ = some (.int .i64 x199003_1):=(blk_cell BK198.out 3).trans rfl;have hfz55_0:=blk_frozen BK198.out 0;have hfz55_1:=blk_frozen BK198.out 1;have hfz55_2:=blk_frozen BK198.out 2;have hfz55_3:=blk_frozen BK198.out 3))
           refine bodyPost_ret (results_cell_row rfl _ _ gb198 41 #[.slice none 0 0,.int .i64 t212,.int .i64 t218,.int .i64 t219] (0,0) _ rfl (by (with_reducible repeat (first | refine blk_drewN ?_ _ | refine blk_drew ?_ | refine blk_alloc ?_ _));refine blk_put (cs:=#[.slice none 0 0,.int .i64 t212,.int .i64 t218,.int .i64 x199003_1]) ?_ 3 _ rfl;(with_reducible repeat (first | refine blk_drewN ?_ _ | refine blk_drew ?_ | refine blk_alloc ?_ _));refine blk_put (cs:=#[.slice none 0 0,.int .i64 t212,.int .i64 x199002_1,.int .i64 x199003_1]) ?_ 2 _ rfl;(with_reducible repeat (first | refine blk_drewN ?_ _ | refine blk_drew ?_ | refine blk_alloc ?_ _));refine blk_put (cs:=#[.slice none 0 0,.int .i64 x199001_1,.int .i64 x199002_1,.int .i64 x199003_1]) ?_ 1 _ rfl;(with_reducible repeat (first | refine blk_drewN ?_ _ | refine blk_drew ?_ | refine blk_alloc ?_ _));refine blk_put (cs:=#[.slice none 0 0,.int .i64 x199001_1,.int .i64 x199002_1,.int .i64 x199003_1]) ?_ 0 _ rfl;(with_reducible repeat (first | refine blk_drewN ?_ _ | refine blk_drew ?_ | refine blk_alloc ?_ _));exact BK198.out) Try.underlying41 rfl (by kernel_rfl)) rfl ?_
           exact ⟨_,by first | rfl | (simp [errW_none,errW_some] <;> rfl) | (simp [*,errW_none,errW_some] <;> rfl),by first | exact Kd.R_nil _ _ _ _ _ | exact Kd.N_nil _ _ _ _ _ | exact Kd.V_nil _ _ _ _ _ | exact Kd.Q_nil _ _ _ _ _ | exact Kd.S_nil _ _ _ _ _,by repeat (first | (with_reducible first | exact HB.out | apply below_alloc | apply pw_below_drewN | apply below_drew1 | refine below_set ?_ GE198.out | refine below_set ?_ GE199.out) | exact HB.out)⟩
        ·rw [if_neg c18] at H
         exact absurd H (by simp)
       ·rw [if_neg c17] at H
        exact absurd H (by simp)
   ·rw [if_neg c6] at H
    have c6b0 : decide (x4_1 < (a0.size : Int)) = false:=decide_eq_false c6
    clear c6
    simp only [Option.some.injEq,Prod.mk.injEq] at H
    obtain ⟨rfl,rfl,rfl,rfl⟩:=H
    have hnb56:=NB199_198.out
    have hnc56:=NB198_199.out
    have hcz57_0 : wr.cell? ⟨gb199,0,none⟩ = some (u200000):=(blk_cell BK199.out 0).trans rfl
    have hcz57_1 : wr.cell? ⟨gb199,1,none⟩ = some (.int .i64 0):=(blk_cell BK199.out 1).trans rfl
    have hcz57_2 : wr.cell? ⟨gb199,2,none⟩ = some (.int .i64 0):=(blk_cell BK199.out 2).trans rfl
    have hcz57_3 : wr.cell? ⟨gb199,3,none⟩ = some (.int .i64 0):=(blk_cell BK199.out 3).trans rfl
    have hfz57_0:=blk_frozen BK199.out 0
    have hfz57_1:=blk_frozen BK199.out 1
    have hfz57_2:=blk_frozen BK199.out 2
    have hfz57_3:=blk_frozen BK199.out 3
    obtain ⟨Ao58,co58,eo58⟩:=Kd.R_slice HO_200000.out
    subst eo58
    have hcz59_0 : wr.cell? ⟨gb198,0,none⟩ = some (.slice none 0 0):=(blk_cell BK198.out 0).trans rfl
    have hcz59_1 : wr.cell? ⟨gb198,1,none⟩ = some (.int .i64 x199001_1):=(blk_cell BK198.out 1).trans rfl
    have hcz59_2 : wr.cell? ⟨gb198,2,none⟩ = some (.int .i64 x199002_1):=(blk_cell BK198.out 2).trans rfl
    have hcz59_3 : wr.cell? ⟨gb198,3,none⟩ = some (.int .i64 x199003_1):=(blk_cell BK198.out 3).trans rfl
    have hfz59_0:=blk_frozen BK198.out 0
    have hfz59_1:=blk_frozen BK198.out 1
    have hfz59_2:=blk_frozen BK198.out 2
    have hfz59_3:=blk_frozen BK198.out 3
    go_wp2
    refine bodyPost_ret (results_cell_row rfl _ _ gb198 41 #[.slice Ao58 x200000_1.length co58,.int .i64 0,.int .i64 0,.int .i64 0] (0,0) _ rfl (by (with_reducible repeat (first | refine blk_drewN ?_ _ | refine blk_drew ?_ | refine blk_alloc ?_ _));refine blk_put (cs:=#[.slice Ao58 x200000_1.length co58,.int .i64 0,.int .i64 0,.int .i64 x199003_1]) ?_ 3 _ rfl;(with_reducible repeat (first | refine blk_drewN ?_ _ | refine blk_drew ?_ | refine blk_alloc ?_ _));refine blk_put (cs:=#[.slice Ao58 x200000_1.length co58,.int .i64 0,.int .i64 x199002_1,.int .i64 x199003_1]) ?_ 2 _ rfl;(with_reducible repeat (first | refine blk_drewN ?_ _ | refine blk_drew ?_ | refine blk_alloc ?_ _));refine blk_put (cs:=#[.slice Ao58 x200000_1.length co58,.int .i64 x199001_1,.int .i64 x199002_1,.int .i64 x199003_1]) ?_ 1 _ rfl;(with_reducible repeat (first | refine blk_drewN ?_ _ | refine blk_drew ?_ | refine blk_alloc ?_ _));refine blk_put (cs:=#[.slice none 0 0,.int .i64 x199001_1,.int .i64 x199002_1,.int .i64 x199003_1]) ?_ 0 _ rfl;(with_reducible repeat (first | refine blk_drewN ?_ _ | refine blk_drew ?_ | refine blk_alloc ?_ _));exact BK198.out) Try.underlying41 rfl (by kernel_rfl)) rfl ?_
    exact ⟨_,by first | rfl | (simp [errW_none,errW_some] <;> rfl) | (simp [*,errW_none,errW_some] <;> rfl),by (with_reducible repeat (first | apply Kd.R_alloc | apply Kd.R_drewN | apply Kd.R_drew));exact Kd.R_mono (Kd.R_far (p:=⟨gb198,3,none⟩) (Kd.R_far (p:=⟨gb198,2,none⟩) (Kd.R_far (p:=⟨gb198,1,none⟩) (Kd.R_far (p:=⟨gb198,0,none⟩) (Kd.R_types HO_200000.out BK198.out (by decide)) (fun _ hk => hk.2) (.slice Ao58 x200000_1.length co58)) (fun _ hk => hk.2) (.int .i64 0)) (fun _ hk => hk.2) (.int .i64 0)) (fun _ hk => hk.2) (.int .i64 0)) (fun _ hk => trivial),by repeat (first | (with_reducible first | exact HB.out | apply below_alloc | apply pw_below_drewN | apply below_drew1 | refine below_set ?_ GE198.out | refine below_set ?_ GE199.out) | exact HB.out)⟩

end Go.Proofs.Ytjfklfmfeghjnac.PL
