-- Contracts of Go functions, each with its plain Lean function: written by wip/tools/myprint.py of this work (the kit's print, with contracts proved by hand spliced in).
import Derived.Test.YtmmfakdncjeoeacDoorPEx0
import Derived.Test.YtmmfakdncjeoeacDoorPEx6
import Derived.Test.YtmmfakdncjeoeacDoorPEx7
namespace Go.Proofs.YtmmfakdncjeoeacDoor.PE
open Go.RowKit Go.Proofs.YtmmfakdncjeoeacDoorW.PrintWords Go.Proofs.YtmmfakdncjeoeacDoorW.PrintLast Go.Proofs.YtmmfakdncjeoeacDoorW.PrintMore
attribute [local go_sem] max2_int min2_int max_two min_two max_three min_three max_four min_four   -- for this text's walks alone
set_option linter.unusedVariables false
set_option linter.unusedSimpArgs false

/-! ### tachographref10_Pred: function 19 -/
mutual
def tachographref10_Pred.l0 : Nat → ByteArray → Int → Int → ByteArray → List Int → Option (ByteArray × List Int × Bool)
 | 0, _, _, _, _, _ => none
 | k + 1, x0, x5, x6, x182000, x182001 => if x6 < (x0.size : Int) then (if x5 < 0 then (if 0 ≤ x6 then (tachographref10_Pred.j1 k x0 x5 x6 ((bt x0 x6) == 40) x182000 x182001) else (none)) else (tachographref10_Pred.j1 k x0 x5 x6 false x182000 x182001)) else ((tachographref09_Name.f k x182000).bind fun t182 => (if t182 = true then ((tachographref10_Line.f k x182000 x182001).bind fun t183 => (some (x182000, x182001, (t183.toList == x0.toList)))) else (some (x182000, x182001, false))))
def tachographref10_Pred.j1 : Nat → ByteArray → Int → Int → Bool → ByteArray → List Int → Option (ByteArray × List Int × Bool)
 | 0, _, _, _, _, _, _ => none
 | k + 1, x0, x5, x6, x21, x182000, x182001 => if x21 = true then (if 0 ≤ x6 then (if x6 ≤ (x0.size : Int) then (tachographref10_Pred.l0 k x0 (wrap64 (x6 + 1)) (wrap64 (x6 + 1)) (x0.extract 0 (x6 : Int).toNat) x182001) else (none)) else (none)) else (if x5 ≥ 0 then (if 0 ≤ x6 then (if x6 < (x0.size : Int) then (if (bt x0 x6) = 44 then (tachographref10_Pred.j2 k x0 x5 x6 true x182000 x182001) else (tachographref10_Pred.j2 k x0 x5 x6 ((bt x0 x6) == 41) x182000 x182001)) else (none)) else (none)) else (tachographref10_Pred.j2 k x0 x5 x6 false x182000 x182001))
def tachographref10_Pred.j2 : Nat → ByteArray → Int → Int → Bool → ByteArray → List Int → Option (ByteArray × List Int × Bool)
 | 0, _, _, _, _, _, _ => none
 | k + 1, x0, x5, x6, x41, x182000, x182001 => if x41 = true then (if 0 ≤ x5 then (if x5 ≤ x6 then (if x6 ≤ (x0.size : Int) then (if (x0.extract (x5 : Int).toNat (x6 : Int).toNat).toList = ([105, 110, 116] : List UInt8) then (if x182001.length < 17592186044416 then (tachographref10_Pred.l0 k x0 (wrap64 (x6 + 1)) (wrap64 (x6 + 1)) x182000 (x182001 ++ [1])) else (none)) else (if (x0.extract (x5 : Int).toNat (x6 : Int).toNat).toList = ([115, 116, 114, 105, 110, 103] : List UInt8) then (if x182001.length < 17592186044416 then (tachographref10_Pred.l0 k x0 (wrap64 (x6 + 1)) (wrap64 (x6 + 1)) x182000 (x182001 ++ [2])) else (none)) else (tachographref10_Pred.l0 k x0 (wrap64 (x6 + 1)) (wrap64 (x6 + 1)) x182000 x182001))) else (none)) else (none)) else (none)) else (tachographref10_Pred.l0 k x0 x5 (wrap64 (x6 + 1)) x182000 x182001)
end
def tachographref10_Pred.f (k : Nat) (a0 : ByteArray) : Option (ByteArray × List Int × Bool) := tachographref10_Pred.l0 k a0 (-1) 0 (⟨#[]⟩ : ByteArray) ([] : List Int)
theorem tachographref10_Pred.mono_l : ∀ k, (∀ y0 y1 y2 y3 y4, LeO (tachographref10_Pred.l0 k y0 y1 y2 y3 y4) (tachographref10_Pred.l0 (k + 1) y0 y1 y2 y3 y4)) ∧ (∀ y0 y1 y2 y3 y4 y5, LeO (tachographref10_Pred.j1 k y0 y1 y2 y3 y4 y5) (tachographref10_Pred.j1 (k + 1) y0 y1 y2 y3 y4 y5)) ∧ (∀ y0 y1 y2 y3 y4 y5, LeO (tachographref10_Pred.j2 k y0 y1 y2 y3 y4 y5) (tachographref10_Pred.j2 (k + 1) y0 y1 y2 y3 y4 y5))
 | 0 => ⟨fun _ _ _ _ _ r h => by simp [tachographref10_Pred.l0] at h, fun _ _ _ _ _ _ r h => by simp [tachographref10_Pred.j1] at h, fun _ _ _ _ _ _ r h => by simp [tachographref10_Pred.j2] at h⟩
 | k + 1 => by
  obtain ⟨ih0, ih1, ih2⟩ := tachographref10_Pred.mono_l k
  refine ⟨?_, ?_, ?_⟩
  ·intro y0 y1 y2 y3 y4
   unfold tachographref10_Pred.l0
   repeat' first
   | (with_reducible exact ih0 _ _ _ _ _)
   | (with_reducible exact ih1 _ _ _ _ _ _)
   | (with_reducible exact ih2 _ _ _ _ _ _)
   | (with_reducible exact tachographref09_Name.mono _ _)
   | (with_reducible exact tachographref10_Line.mono _ _ _)
   | (with_reducible exact LeO.refl _)
   | (with_reducible exact LeO.none _)
   | (with_reducible refine LeO.ite ?_ ?_)
   | (with_reducible refine LeO.bind ?_ (fun _ => ?_))
   | exact ih0 _ _ _ _ _
   | exact ih1 _ _ _ _ _ _
   | exact ih2 _ _ _ _ _ _
   | exact tachographref09_Name.mono _ _
   | exact tachographref10_Line.mono _ _ _
   | exact LeO.none _
   | refine LeO.ite ?_ ?_
   | refine LeO.bind ?_ (fun _ => ?_)
  ·intro y0 y1 y2 y3 y4 y5
   unfold tachographref10_Pred.j1
   repeat' first
   | (with_reducible exact ih0 _ _ _ _ _)
   | (with_reducible exact ih1 _ _ _ _ _ _)
   | (with_reducible exact ih2 _ _ _ _ _ _)
   | (with_reducible exact tachographref09_Name.mono _ _)
   | (with_reducible exact tachographref10_Line.mono _ _ _)
   | (with_reducible exact LeO.refl _)
   | (with_reducible exact LeO.none _)
   | (with_reducible refine LeO.ite ?_ ?_)
   | (with_reducible refine LeO.bind ?_ (fun _ => ?_))
   | exact ih0 _ _ _ _ _
   | exact ih1 _ _ _ _ _ _
   | exact ih2 _ _ _ _ _ _
   | exact tachographref09_Name.mono _ _
   | exact tachographref10_Line.mono _ _ _
   | exact LeO.none _
   | refine LeO.ite ?_ ?_
   | refine LeO.bind ?_ (fun _ => ?_)
  ·intro y0 y1 y2 y3 y4 y5
   unfold tachographref10_Pred.j2
   repeat' first
   | (with_reducible exact ih0 _ _ _ _ _)
   | (with_reducible exact ih1 _ _ _ _ _ _)
   | (with_reducible exact ih2 _ _ _ _ _ _)
   | (with_reducible exact tachographref09_Name.mono _ _)
   | (with_reducible exact tachographref10_Line.mono _ _ _)
   | (with_reducible exact LeO.refl _)
   | (with_reducible exact LeO.none _)
   | (with_reducible refine LeO.ite ?_ ?_)
   | (with_reducible refine LeO.bind ?_ (fun _ => ?_))
   | exact ih0 _ _ _ _ _
   | exact ih1 _ _ _ _ _ _
   | exact ih2 _ _ _ _ _ _
   | exact tachographref09_Name.mono _ _
   | exact tachographref10_Line.mono _ _ _
   | exact LeO.none _
   | refine LeO.ite ?_ ?_
   | refine LeO.bind ?_ (fun _ => ?_)
theorem tachographref10_Pred.mono : ∀ a0 k, LeO (tachographref10_Pred.f k a0) (tachographref10_Pred.f (k + 1) a0) := by
 intro a0 k
 obtain ⟨ih0, ih1, ih2⟩ := tachographref10_Pred.mono_l k
 unfold tachographref10_Pred.f
 repeat' first
   | (with_reducible exact ih0 _ _ _ _ _)
   | (with_reducible exact ih1 _ _ _ _ _ _)
   | (with_reducible exact ih2 _ _ _ _ _ _)
   | (with_reducible exact tachographref09_Name.mono _ _)
   | (with_reducible exact tachographref10_Line.mono _ _ _)
   | (with_reducible exact LeO.refl _)
   | (with_reducible exact LeO.none _)
   | (with_reducible refine LeO.ite ?_ ?_)
   | (with_reducible refine LeO.bind ?_ (fun _ => ?_))
   | exact ih0 _ _ _ _ _
   | exact ih1 _ _ _ _ _ _
   | exact ih2 _ _ _ _ _ _
   | exact tachographref09_Name.mono _ _
   | exact tachographref10_Line.mono _ _ _
   | exact LeO.none _
   | refine LeO.ite ?_ ?_
   | refine LeO.bind ?_ (fun _ => ?_)
def tachographref10_Pred.T16 : Bool × List (List Nat × List Nat) := (true, [([], []), ([], []), ([1], [1]), ([2], [2]), ([3, 3], [3]), ([4], [4]), ([5, 4, 4], [4, 5]), ([4], [4]), ([6, 7, 4], [4, 6, 7]), ([4, 8], [4, 8]), ([0, 6, 0], [0]), ([9, 10, 0, 1, 2, 3, 4, 5, 6, 7, 8, 9, 10], [9])])
def tachographref10_Pred.B16 : List Nat := [0, 0, 2, 6, 14, 30, 62, 30, 254, 510, 127, 2047]
theorem tachographref10_Pred.tab16 : rtab .any (opsOf Tryd.f19 16) = tachographref10_Pred.T16 := by kernel_rfl
theorem tachographref10_Pred.bits16 : waitsOk tachographref10_Pred.T16.2 tachographref10_Pred.B16 = true := by kernel_rfl
set_option maxHeartbeats 8000000 in
set_option maxRecDepth 100000 in
theorem tachographref10_Pred.calls (k : Nat) (a0 : ByteArray) (r1 : ByteArray) (r2 : List Int) (r3 : Bool) (w : World) (h : tachographref10_Pred.f k a0 = some (r1,r2,r3)) :
  Calls Tryd.prog 19 #[.string a0] w fun e w' => ∃ v1_ : Value,e = .returned (.tuple #[.agg #[.string r1,v1_],.bool r3]) ∧ Kd.R (Kd.int .i64) 3 w' w.heap.size (fun _ => True) v1_ r2 ∧ Below w.heap.size w w':=by
 have hu41:=Tryd.underlying41
 have HB:=Aside0.mk (Below.refl w.heap.size w)
 have H : (tachographref10_Pred.l0 k a0 (-1) 0 (⟨#[]⟩ : ByteArray) ([] : List Int)) = some (r1,r2,r3):=h
 clear h
 have H':=Aside0.mk H
 clear H
 go_enter Tryd.func19,Tryd.ntmps19
 go_wp2_with (first | ((with_reducible refine gate_dst (N:=2) rfl ?_);refine box_event ?hg (N:=2) ?hd (cs:=#[.string (⟨#[]⟩ : ByteArray),.slice none 0 0]) (t:=41) ?hr ?_;(case hd => rfl);(case hg => rfl);(case hr => first | (go_simp;done) | (go_simp;rfl));intro gb180 hg w2 hbox hb;have n0_:=Aside0.mk (below_step (by repeat (first | (with_reducible first | exact HB.out | apply below_alloc | apply pw_below_drewN | apply below_drew1) | exact HB.out)) hb);have n1_:=Aside0.mk (hbox);have n2_:=Aside0.mk ((by rw [hg];exact (below_size (by repeat (first | (with_reducible first | exact HB.out | apply below_alloc | apply pw_below_drewN | apply below_drew1) | exact HB.out))) : w.heap.size ≤ gb180));have n3_:=Aside0.mk ((by rw [hg];exact (below_size (by repeat (first | (with_reducible first | exact HB.out | apply below_alloc | apply pw_below_drewN | apply below_drew1) | exact HB.out))) : w.heap.size ≤ gb180));clear HB;have HB:=n0_;have BK180:=n1_;have GW180:=n2_;have GE180:=n3_;clear n0_ n1_ n2_ n3_;clear hb hbox hg) | ((with_reducible refine gate_dst (N:=4) rfl ?_);refine box_event ?hg (N:=4) ?hd (cs:=#[.string (⟨#[]⟩ : ByteArray),.slice none 0 0]) (t:=41) ?hr ?_;(case hd => rfl);(case hg => rfl);(case hr => first | (go_simp;done) | (go_simp;rfl));intro gb181 hg w3 hbox hb;have n0_:=Aside0.mk (blk_below (g:=gb180) (o:=.cells #[.string (⟨#[]⟩ : ByteArray),.slice none 0 0] 41 (0,0)) (by (with_reducible repeat (first | refine blk_drewN ?_ _ | refine blk_drew ?_ | refine blk_alloc ?_ _));exact BK180.out) hb);have n1_:=Aside0.mk (below_step (by repeat (first | (with_reducible first | exact HB.out | apply below_alloc | apply pw_below_drewN | apply below_drew1 | refine below_set ?_ GE180.out) | exact HB.out)) hb);have n2_:=Aside0.mk (hbox);have n3_:=Aside0.mk ((by rw [hg];exact (below_size (by repeat (first | (with_reducible first | exact HB.out | apply below_alloc | apply pw_below_drewN | apply below_drew1 | refine below_set ?_ GE180.out) | exact HB.out))) : w.heap.size ≤ gb181));have n4_:=Aside0.mk ((by rw [hg];exact (below_size (by repeat (first | (with_reducible first | exact HB.out | apply below_alloc | apply pw_below_drewN | apply below_drew1 | refine below_set ?_ GE180.out) | exact HB.out))) : w.heap.size ≤ gb181));have n5_:=Aside0.mk ((by rw [hg];exact Nat.ne_of_lt (blk_lt (g:=gb180) (o:=.cells #[.string (⟨#[]⟩ : ByteArray),.slice none 0 0] 41 (0,0)) (by (with_reducible repeat (first | refine blk_drewN ?_ _ | refine blk_drew ?_ | refine blk_alloc ?_ _));exact BK180.out)) : gb180 ≠ gb181));have n6_:=Aside0.mk ((by rw [hg];exact Nat.ne_of_gt (blk_lt (g:=gb180) (o:=.cells #[.string (⟨#[]⟩ : ByteArray),.slice none 0 0] 41 (0,0)) (by (with_reducible repeat (first | refine blk_drewN ?_ _ | refine blk_drew ?_ | refine blk_alloc ?_ _));exact BK180.out)) : gb181 ≠ gb180));clear BK180;clear HB;have BK180:=n0_;have HB:=n1_;have BK181:=n2_;have GW181:=n3_;have GE181:=n4_;have NB180_181:=n5_;have NB181_180:=n6_;clear n0_ n1_ n2_ n3_ n4_ n5_ n6_;clear hb hbox hg;have hnb4:=NB181_180.out;have hnc4:=NB180_181.out;have hcz5_0 : w3.cell? ⟨gb181,0,none⟩ = some (.string (⟨#[]⟩ : ByteArray)):=(blk_cell BK181.out 0).trans rfl;have hcz5_1 : w3.cell? ⟨gb181,1,none⟩ = some (.slice none 0 0):=(blk_cell BK181.out 1).trans rfl;have hfz5_0:=blk_frozen BK181.out 0;have hfz5_1:=blk_frozen BK181.out 1))
 go_loopg [5,6] k (fun kq v5 v6 w' => ∃ (x5_1 : Int) (x6_1 : Int) (x182000_1 : ByteArray) (x182001_1 : List Int) (u182001 : Value),v5 = .int .i64 x5_1 ∧ v6 = .int .i64 x6_1 ∧ Aside0 (tachographref10_Pred.l0 kq a0 x5_1 x6_1 x182000_1 x182001_1 = some (r1,r2,r3)) ∧ Aside0 (kq ≤ k) ∧ Aside0 (Kd.R (Kd.int .i64) 3 w' w.heap.size (fun _ => True) u182001 x182001_1) ∧ Aside0 (w'.heap[gb180]? = some (.cells #[.string (⟨#[]⟩ : ByteArray),(.slice none 0 0)] 41 (0,0))) ∧ Aside0 (w'.heap[gb181]? = some (.cells #[.string x182000_1,u182001] 41 (0,0))) ∧ Aside0 (Below w.heap.size w w'))
 case atStart => exact ⟨((-1)),(0),((⟨#[]⟩ : ByteArray)),(([] : List Int)),(.slice none 0 0),(by first | rfl | (simp;done) | (simp [*];done)),(by first | rfl | (simp;done) | (simp [*];done)),H',⟨Nat.le_refl _⟩,⟨by first | exact Kd.R_nil _ _ _ _ _ | exact Kd.N_nil _ _ _ _ _ | exact Kd.V_nil _ _ _ _ _ | exact Kd.Q_nil _ _ _ _ _ | exact Kd.S_nil _ _ _ _ _⟩,⟨by (with_reducible repeat (first | refine blk_drewN ?_ _ | refine blk_drew ?_ | refine blk_alloc ?_ _));refine blk_far ?_ NB180_181.out _;(with_reducible repeat (first | refine blk_drewN ?_ _ | refine blk_drew ?_ | refine blk_alloc ?_ _));refine blk_far ?_ NB180_181.out _;(with_reducible repeat (first | refine blk_drewN ?_ _ | refine blk_drew ?_ | refine blk_alloc ?_ _));exact BK180.out⟩,⟨by (with_reducible repeat (first | refine blk_drewN ?_ _ | refine blk_drew ?_ | refine blk_alloc ?_ _));refine blk_put (cs:=#[.string (⟨#[]⟩ : ByteArray),.slice none 0 0]) ?_ 1 _ rfl;(with_reducible repeat (first | refine blk_drewN ?_ _ | refine blk_drew ?_ | refine blk_alloc ?_ _));refine blk_put (cs:=#[.string (⟨#[]⟩ : ByteArray),.slice none 0 0]) ?_ 0 _ rfl;(with_reducible repeat (first | refine blk_drewN ?_ _ | refine blk_drew ?_ | refine blk_alloc ?_ _));exact BK181.out⟩,⟨by repeat (first | (with_reducible first | exact HB.out | apply below_alloc | apply pw_below_drewN | apply below_drew1 | refine below_set ?_ GE180.out | refine below_set ?_ GE181.out) | exact HB.out)⟩⟩
 case round =>
  clear H'
  try clear c1
  try clear p2
  try clear c4
  try clear hcz5_0
  try clear hcz5_1
  try clear hfz5_0
  try clear hfz5_1
  obtain ⟨x5_1,x6_1,x182000_1,x182001_1,u182001,rfl,rfl,HA,HK1,HO_182001,BK180,BK181,HB⟩:=hrel
  cases gk with
  | zero => exact absurd HA.out (by simp [tachographref10_Pred.l0])
  | succ k1 =>
   have H:=HA.out
   clear HA
   simp only [tachographref10_Pred.l0] at H
   by_cases c6 : x6_1 < (a0.size : Int)
   ·rw [if_pos c6] at H
    have c6b0 : decide (x6_1 < (a0.size : Int)) = true:=decide_eq_true c6
    clear c6
    have HC7:=Aside0.mk H
    clear H
    go_upto_region 6 with (fail)
    go_cut [21] (fun v21 wc => ∃ (kq : Nat) (x21_6 : Bool),v21 = .bool x21_6 ∧ Aside0 (tachographref10_Pred.j1 kq a0 x5_1 x6_1 x21_6 x182000_1 x182001_1 = some (r1,r2,r3)) ∧ Aside0 (kq ≤ k1) ∧ Aside0 (Kd.R (Kd.int .i64) 3 wc w.heap.size (fun _ => True) u182001 x182001_1) ∧ Aside0 (wc.heap[gb180]? = some (.cells #[.string (⟨#[]⟩ : ByteArray),(.slice none 0 0)] 41 (0,0))) ∧ Aside0 (wc.heap[gb181]? = some (.cells #[.string x182000_1,u182001] 41 (0,0))) ∧ Aside0 (Below w.heap.size w wc))
    case first =>
     have H:=HC7.out
     clear HC7
     by_cases c8 : x5_1 < 0
     ·rw [if_pos c8] at H
      have c8b0 : decide (x5_1 < 0) = true:=decide_eq_true c8
      clear c8
      (first | rw [c8b0] | (simp only [i64_w,i32_w];rw [c8b0]) | skip)
      by_cases c9 : 0 ≤ x6_1
      ·rw [if_pos c9] at H
       have c9b0 : decide (0 ≤ x6_1) = true:=decide_eq_true c9
       clear c9
       have H':=Aside0.mk H
       clear H
       have p10 : 0 ≤ (x6_1 : Int):=of_decide_eq_true (by first | (with_reducible assumption) | assumption)
       have q10 : x6_1 < (a0.size : Int):=of_decide_eq_true (by first | (with_reducible assumption) | assumption)
       have hx10:=bt_at a0 x6_1
       replace p10:=eq_true p10
       replace q10:=eq_true q10
       go_wp2
       go_meet
       case rel => exact ⟨_,(((bt a0 x6_1) == 40)),(by first | rfl | (simp;done) | (simp [*];done)),H',⟨by have:=HK1.out;first | omega | exact Nat.le_refl _⟩,⟨by (with_reducible repeat (first | apply Kd.R_alloc | apply Kd.R_drewN | apply Kd.R_drew));exact HO_182001.out⟩,⟨by (with_reducible repeat (first | refine blk_drewN ?_ _ | refine blk_drew ?_ | refine blk_alloc ?_ _));exact BK180.out⟩,⟨by (with_reducible repeat (first | refine blk_drewN ?_ _ | refine blk_drew ?_ | refine blk_alloc ?_ _));exact BK181.out⟩,⟨by repeat (first | (with_reducible first | exact HB.out | apply below_alloc | apply pw_below_drewN | apply below_drew1 | refine below_set ?_ GE180.out | refine below_set ?_ GE181.out) | exact HB.out)⟩⟩
      ·rw [if_neg c9] at H
       exact absurd H (by simp)
     ·rw [if_neg c8] at H
      have c8b0 : decide (x5_1 < 0) = false:=decide_eq_false c8
      clear c8
      (first | rw [c8b0] | (simp only [i64_w,i32_w];rw [c8b0]) | skip)
      have H':=Aside0.mk H
      clear H
      go_wp2
      go_meet
      case rel => exact ⟨_,(false),(by first | rfl | (simp;done) | (simp [*];done)),H',⟨by have:=HK1.out;first | omega | exact Nat.le_refl _⟩,⟨by (with_reducible repeat (first | apply Kd.R_alloc | apply Kd.R_drewN | apply Kd.R_drew));exact HO_182001.out⟩,⟨by (with_reducible repeat (first | refine blk_drewN ?_ _ | refine blk_drew ?_ | refine blk_alloc ?_ _));exact BK180.out⟩,⟨by (with_reducible repeat (first | refine blk_drewN ?_ _ | refine blk_drew ?_ | refine blk_alloc ?_ _));exact BK181.out⟩,⟨by repeat (first | (with_reducible first | exact HB.out | apply below_alloc | apply pw_below_drewN | apply below_drew1 | refine below_set ?_ GE180.out | refine below_set ?_ GE181.out) | exact HB.out)⟩⟩
    case rest =>
     clear HC7
     try clear c1
     try clear p1
     try clear q1
     try clear hx1
     try clear p2
     try clear c4
     try clear c6
     try clear c6b0
     try clear c8
     try clear c8b0
     try clear c9
     try clear c9b0
     try clear p10
     try clear q10
     try clear hx10
     try clear hcz5_0
     try clear hcz5_1
     try clear hfz5_0
     try clear hfz5_1
     try clear p10
     try clear p2
     try clear q10
     obtain ⟨kq,x21_6,rfl,HA,HJ6,HO_182001,BK180,BK181,HB⟩:=hcut
     cases kq with
     | zero => exact absurd HA.out (by simp [tachographref10_Pred.j1])
     | succ kj6 =>
      have H:=HA.out
      clear HA
      simp only [tachographref10_Pred.j1] at H
      by_cases c11 : x21_6 = true
      ·subst c11
       have H1 : (if 0 ≤ x6_1 then (if x6_1 ≤ (a0.size : Int) then (tachographref10_Pred.l0 kj6 a0 (wrap64 (x6_1 + 1)) (wrap64 (x6_1 + 1)) (a0.extract 0 (x6_1 : Int).toNat) x182001_1) else (none)) else (none)) = some (r1,r2,r3):=by rw [if_pos rfl] at H;exact H
       clear H
       have H:=H1
       clear H1
       by_cases c12 : 0 ≤ x6_1
       ·rw [if_pos c12] at H
        have c12b0:=eq_true c12
        have c12b1 : decide (0 ≤ x6_1) = true:=decide_eq_true c12
        clear c12
        by_cases c13 : x6_1 ≤ (a0.size : Int)
        ·rw [if_pos c13] at H
         have c13b0:=eq_true c13
         have c13b1 : decide (x6_1 ≤ (a0.size : Int)) = true:=decide_eq_true c13
         clear c13
         have H':=Aside0.mk H
         clear H
         have hnb14:=NB181_180.out
         have hnc14:=NB180_181.out
         have hcz15_0 : wc.cell? ⟨gb181,0,none⟩ = some (.string x182000_1):=(blk_cell BK181.out 0).trans rfl
         have hcz15_1 : wc.cell? ⟨gb181,1,none⟩ = some (u182001):=(blk_cell BK181.out 1).trans rfl
         have hfz15_0:=blk_frozen BK181.out 0
         have hfz15_1:=blk_frozen BK181.out 1
         go_wp2
         go_roundg kj6
         case measure => have:=HK1.out;have:=HJ6.out;omega
         case rel => exact ⟨(wrap64 (x6_1 + 1)),(wrap64 (x6_1 + 1)),(a0.extract 0 (x6_1 : Int).toNat),(x182001_1),(u182001),(by first | rfl | (simp;done) | (simp [*];done)),(by first | rfl | (simp;done) | (simp [*];done)),H',⟨by have:=HK1.out;have:=HJ6.out;omega⟩,⟨by (with_reducible repeat (first | apply Kd.R_alloc | apply Kd.R_drewN | apply Kd.R_drew));exact Kd.R_mono (Kd.R_far (p:=⟨gb181,0,none⟩) (Kd.R_types HO_182001.out BK181.out (by decide)) (fun _ hk => hk.2) (.string (a0.extract 0 (x6_1 : Int).toNat))) (fun _ hk => trivial)⟩,⟨by (with_reducible repeat (first | refine blk_drewN ?_ _ | refine blk_drew ?_ | refine blk_alloc ?_ _));refine blk_far ?_ NB180_181.out _;(with_reducible repeat (first | refine blk_drewN ?_ _ | refine blk_drew ?_ | refine blk_alloc ?_ _));exact BK180.out⟩,⟨by (with_reducible repeat (first | refine blk_drewN ?_ _ | refine blk_drew ?_ | refine blk_alloc ?_ _));refine blk_put (cs:=#[.string x182000_1,u182001]) ?_ 0 _ rfl;(with_reducible repeat (first | refine blk_drewN ?_ _ | refine blk_drew ?_ | refine blk_alloc ?_ _));exact BK181.out⟩,⟨by repeat (first | (with_reducible first | exact HB.out | apply below_alloc | apply pw_below_drewN | apply below_drew1 | refine below_set ?_ GE180.out | refine below_set ?_ GE181.out) | exact HB.out)⟩⟩
        ·rw [if_neg c13] at H
         exact absurd H (by simp)
       ·rw [if_neg c12] at H
        exact absurd H (by simp)
      ·replace c11:=Bool.eq_false_iff.mpr c11
       subst c11
       have H1 : (if x5_1 ≥ 0 then (if 0 ≤ x6_1 then (if x6_1 < (a0.size : Int) then (if (bt a0 x6_1) = 44 then (tachographref10_Pred.j2 kj6 a0 x5_1 x6_1 true x182000_1 x182001_1) else (tachographref10_Pred.j2 kj6 a0 x5_1 x6_1 ((bt a0 x6_1) == 41) x182000_1 x182001_1)) else (none)) else (none)) else (tachographref10_Pred.j2 kj6 a0 x5_1 x6_1 false x182000_1 x182001_1)) = some (r1,r2,r3):=by rw [if_neg (show ¬ (false = true) by decide)] at H;exact H
       clear H
       have H:=H1
       clear H1
       have HC16:=Aside0.mk H
       clear H
       go_upto_region 9 with (fail)
       go_cut [41] (fun v41 wc => ∃ (kq : Nat) (x41_15 : Bool),v41 = .bool x41_15 ∧ Aside0 (tachographref10_Pred.j2 kq a0 x5_1 x6_1 x41_15 x182000_1 x182001_1 = some (r1,r2,r3)) ∧ Aside0 (kq ≤ kj6) ∧ Aside0 (Kd.R (Kd.int .i64) 3 wc w.heap.size (fun _ => True) u182001 x182001_1) ∧ Aside0 (wc.heap[gb180]? = some (.cells #[.string (⟨#[]⟩ : ByteArray),(.slice none 0 0)] 41 (0,0))) ∧ Aside0 (wc.heap[gb181]? = some (.cells #[.string x182000_1,u182001] 41 (0,0))) ∧ Aside0 (Below w.heap.size w wc))
       case first =>
        have H:=HC16.out
        clear HC16
        by_cases c17 : x5_1 ≥ 0
        ·rw [if_pos c17] at H
         have c17b0 : decide (0 ≤ x5_1) = true:=decide_eq_true c17
         clear c17
         (first | rw [c17b0] | (simp only [i64_w,i32_w];rw [c17b0]) | skip)
         by_cases c18 : 0 ≤ x6_1
         ·rw [if_pos c18] at H
          have c18b0 : decide (0 ≤ x6_1) = true:=decide_eq_true c18
          clear c18
          by_cases c19 : x6_1 < (a0.size : Int)
          ·rw [if_pos c19] at H
           have c19b0 : decide (x6_1 < (a0.size : Int)) = true:=decide_eq_true c19
           clear c19
           by_cases c21 : (bt a0 x6_1) = 44
           ·rw [if_pos c21] at H
            have c21b0 : ((bt a0 x6_1) == 44) = true:=beq_iff_eq.mpr c21
            have c21b1 : ((bt a0 x6_1) != 44) = false:=bne_eq_false_iff_eq.mpr c21
            clear c21
            have H':=Aside0.mk H
            clear H
            have p20 : 0 ≤ (x6_1 : Int):=of_decide_eq_true (by first | (with_reducible assumption) | assumption)
            have q20 : x6_1 < (a0.size : Int):=of_decide_eq_true (by first | (with_reducible assumption) | assumption)
            have hx20:=bt_at a0 x6_1
            replace p20:=eq_true p20
            replace q20:=eq_true q20
            go_wp2
            go_meet
            case rel => exact ⟨_,(true),(by first | rfl | (simp;done) | (simp [*];done)),H',⟨by have:=HK1.out;have:=HJ6.out;first | omega | exact Nat.le_refl _⟩,⟨by (with_reducible repeat (first | apply Kd.R_alloc | apply Kd.R_drewN | apply Kd.R_drew));exact HO_182001.out⟩,⟨by (with_reducible repeat (first | refine blk_drewN ?_ _ | refine blk_drew ?_ | refine blk_alloc ?_ _));exact BK180.out⟩,⟨by (with_reducible repeat (first | refine blk_drewN ?_ _ | refine blk_drew ?_ | refine blk_alloc ?_ _));exact BK181.out⟩,⟨by repeat (first | (with_reducible first | exact HB.out | apply below_alloc | apply pw_below_drewN | apply below_drew1 | refine below_set ?_ GE180.out | refine below_set ?_ GE181.out) | exact HB.out)⟩⟩
           ·rw [if_neg c21] at H
            have c21b0 : ((bt a0 x6_1) == 44) = false:=beq_eq_false_iff_ne.mpr c21
            have c21b1 : ((bt a0 x6_1) != 44) = true:=bne_iff_ne.mpr c21
            have H':=Aside0.mk H
            clear H
            have p20 : 0 ≤ (x6_1 : Int):=of_decide_eq_true (by first | (with_reducible assumption) | assumption)
            have q20 : x6_1 < (a0.size : Int):=of_decide_eq_true (by first | (with_reducible assumption) | assumption)
            have hx20:=bt_at a0 x6_1
            replace p20:=eq_true p20
            replace q20:=eq_true q20
            have p22 : 0 ≤ (x6_1 : Int):=of_decide_eq_true (by first | (with_reducible assumption) | assumption)
            have q22 : x6_1 < (a0.size : Int):=of_decide_eq_true (by first | (with_reducible assumption) | assumption)
            have hx22:=bt_at a0 x6_1
            replace p22:=eq_true p22
            replace q22:=eq_true q22
            go_wp2
            go_meet
            case rel => exact ⟨_,(((bt a0 x6_1) == 41)),(by first | rfl | (simp;done) | (simp [*];done)),H',⟨by have:=HK1.out;have:=HJ6.out;first | omega | exact Nat.le_refl _⟩,⟨by (with_reducible repeat (first | apply Kd.R_alloc | apply Kd.R_drewN | apply Kd.R_drew));exact HO_182001.out⟩,⟨by (with_reducible repeat (first | refine blk_drewN ?_ _ | refine blk_drew ?_ | refine blk_alloc ?_ _));exact BK180.out⟩,⟨by (with_reducible repeat (first | refine blk_drewN ?_ _ | refine blk_drew ?_ | refine blk_alloc ?_ _));exact BK181.out⟩,⟨by repeat (first | (with_reducible first | exact HB.out | apply below_alloc | apply pw_below_drewN | apply below_drew1 | refine below_set ?_ GE180.out | refine below_set ?_ GE181.out) | exact HB.out)⟩⟩
          ·rw [if_neg c19] at H
           exact absurd H (by simp)
         ·rw [if_neg c18] at H
          exact absurd H (by simp)
        ·rw [if_neg c17] at H
         have c17b0 : decide (0 ≤ x5_1) = false:=decide_eq_false c17
         clear c17
         (first | rw [c17b0] | (simp only [i64_w,i32_w];rw [c17b0]) | skip)
         have H':=Aside0.mk H
         clear H
         go_wp2
         go_meet
         case rel => exact ⟨_,(false),(by first | rfl | (simp;done) | (simp [*];done)),H',⟨by have:=HK1.out;have:=HJ6.out;first | omega | exact Nat.le_refl _⟩,⟨by (with_reducible repeat (first | apply Kd.R_alloc | apply Kd.R_drewN | apply Kd.R_drew));exact HO_182001.out⟩,⟨by (with_reducible repeat (first | refine blk_drewN ?_ _ | refine blk_drew ?_ | refine blk_alloc ?_ _));exact BK180.out⟩,⟨by (with_reducible repeat (first | refine blk_drewN ?_ _ | refine blk_drew ?_ | refine blk_alloc ?_ _));exact BK181.out⟩,⟨by repeat (first | (with_reducible first | exact HB.out | apply below_alloc | apply pw_below_drewN | apply below_drew1 | refine below_set ?_ GE180.out | refine below_set ?_ GE181.out) | exact HB.out)⟩⟩
       case rest =>
        clear HC16
        try clear c1
        try clear p1
        try clear q1
        try clear hx1
        try clear c2
        try clear p2
        try clear q2
        try clear hx2
        try clear c4
        try clear c6
        try clear c6b0
        try clear p6
        try clear c8
        try clear c8b0
        try clear c9
        try clear c9b0
        try clear p10
        try clear q10
        try clear hx10
        try clear c11
        try clear c12
        try clear c12b0
        try clear c12b1
        try clear c13
        try clear c13b0
        try clear c13b1
        try clear c14
        try clear c17
        try clear c17b0
        try clear c18
        try clear c18b0
        try clear c19
        try clear c19b0
        try clear p20
        try clear q20
        try clear hx20
        try clear c21
        try clear c21b0
        try clear c21b1
        try clear p22
        try clear q22
        try clear hx22
        try clear hcz15_0
        try clear hcz15_1
        try clear hcz5_0
        try clear hcz5_1
        try clear hfz15_0
        try clear hfz15_1
        try clear hfz5_0
        try clear hfz5_1
        try clear p1
        try clear p10
        try clear p2
        try clear p20
        try clear p22
        try clear q1
        try clear q10
        try clear q20
        try clear q22
        obtain ⟨kq,x41_15,rfl,HA,HJ15,HO_182001,BK180,BK181,HB⟩:=hcut
        cases kq with
        | zero => exact absurd HA.out (by simp [tachographref10_Pred.j2])
        | succ kj15 =>
         have H:=HA.out
         clear HA
         simp only [tachographref10_Pred.j2] at H
         by_cases c23 : x41_15 = true
         ·subst c23
          have H1 : (if 0 ≤ x5_1 then (if x5_1 ≤ x6_1 then (if x6_1 ≤ (a0.size : Int) then (if (a0.extract (x5_1 : Int).toNat (x6_1 : Int).toNat).toList = ([105,110,116] : List UInt8) then (if x182001_1.length < 17592186044416 then (tachographref10_Pred.l0 kj15 a0 (wrap64 (x6_1 + 1)) (wrap64 (x6_1 + 1)) x182000_1 (x182001_1 ++ [1])) else (none)) else (if (a0.extract (x5_1 : Int).toNat (x6_1 : Int).toNat).toList = ([115,116,114,105,110,103] : List UInt8) then (if x182001_1.length < 17592186044416 then (tachographref10_Pred.l0 kj15 a0 (wrap64 (x6_1 + 1)) (wrap64 (x6_1 + 1)) x182000_1 (x182001_1 ++ [2])) else (none)) else (tachographref10_Pred.l0 kj15 a0 (wrap64 (x6_1 + 1)) (wrap64 (x6_1 + 1)) x182000_1 x182001_1))) else (none)) else (none)) else (none)) = some (r1,r2,r3):=by rw [if_pos rfl] at H;exact H
          clear H
          have H:=H1
          clear H1
          by_cases c24 : 0 ≤ x5_1
          ·rw [if_pos c24] at H
           have c24b0:=eq_true c24
           have c24b1 : decide (0 ≤ x5_1) = true:=decide_eq_true c24
           clear c24
           by_cases c25 : x5_1 ≤ x6_1
           ·rw [if_pos c25] at H
            have c25b0:=eq_true c25
            have c25b1 : decide (x5_1 ≤ x6_1) = true:=decide_eq_true c25
            clear c25
            by_cases c26 : x6_1 ≤ (a0.size : Int)
            ·rw [if_pos c26] at H
             have c26b0:=eq_true c26
             have c26b1 : decide (x6_1 ≤ (a0.size : Int)) = true:=decide_eq_true c26
             clear c26
             by_cases c27 : (a0.extract (x5_1 : Int).toNat (x6_1 : Int).toNat).toList = ([105,110,116] : List UInt8)
             ·rw [if_pos c27] at H
              have c27b0 : ((a0.extract (x5_1 : Int).toNat (x6_1 : Int).toNat).toList == ([105,110,116] : List UInt8)) = true:=beq_iff_eq.mpr c27
              have c27b1 : ((a0.extract (x5_1 : Int).toNat (x6_1 : Int).toNat).toList != ([105,110,116] : List UInt8)) = false:=bne_eq_false_iff_eq.mpr c27
              clear c27
              by_cases c28 : x182001_1.length < 17592186044416
              ·rw [if_pos c28] at H
               have LMc28:=Aside0.mk c28
               clear c28
               obtain ⟨y184,hy184⟩ : ∃ y_ : List Int,y_ = (x182001_1 ++ [1]):=⟨_,rfl⟩
               replace H : (tachographref10_Pred.l0 kj15 a0 (wrap64 (x6_1 + 1)) (wrap64 (x6_1 + 1)) x182000_1 y184) = some (r1,r2,r3):=by first | (rw [hy184];with_reducible exact H) | (have H2_:=(Option.bind_some _ _).symm.trans H;rw [hy184];with_reducible exact H2_) | (have H2_:=(Option.bind_some _ _).symm.trans H;with_reducible exact H2_) | with_reducible exact H | (rw [hy184];exact H) | exact H
               have Ny184:=Aside0.mk hy184
               clear hy184
               have H':=Aside0.mk H
               clear H
               have hnb29:=NB181_180.out
               have hnc29:=NB180_181.out
               have hcz30_0 : wc.cell? ⟨gb181,0,none⟩ = some (.string x182000_1):=(blk_cell BK181.out 0).trans rfl
               have hcz30_1 : wc.cell? ⟨gb181,1,none⟩ = some (u182001):=(blk_cell BK181.out 1).trans rfl
               have hfz30_0:=blk_frozen BK181.out 0
               have hfz30_1:=blk_frozen BK181.out 1
               go_wp2_with (first | ((with_reducible refine gate_builtin (b:=.append) (xs:=#[.tmp 49,.tmp 50]) rfl ?_);at_builtin;refine Kd.R_append (Kd.int .i64) (w0:=w) w.heap.size rfl (.tmp 49) (.tmp 50) 39 3 (.int .i64 0) 8 rfl Tryd.underlying39 info3 rfl (by decide) (by omega) u182001 x182001_1 1 [.int .i64 1] (fun _ => True) (fun _ => False) rfl rfl ?aP (fun _ hk => hk.elim) ?aF ?aO ?aB ?aS ?aL ?_;(case aP => exact rfl);(case aB => exact (by repeat (first | (with_reducible first | exact HB.out | apply below_alloc | apply pw_below_drewN | apply below_drew1 | refine below_set ?_ GE180.out | refine below_set ?_ GE181.out) | exact HB.out)));(case aF => exact (fun _ _ => trivial));(case aO => exact (by (with_reducible repeat (first | apply Kd.R_alloc | apply Kd.R_drewN | apply Kd.R_drew));exact HO_182001.out));(case aS => exact (below_size (by repeat (first | (with_reducible first | exact HB.out | apply below_alloc | apply pw_below_drewN | apply below_drew1 | refine below_set ?_ GE180.out | refine below_set ?_ GE181.out) | exact HB.out))));(case aL => have:=LMc28.out;omega);intro v185 w31 ho hb hg hat;rw [← Ny184.out] at ho;have n0_:=Aside0.mk (blk_grown (g:=gb180) (o:=.cells #[.string (⟨#[]⟩ : ByteArray),.slice none 0 0] 41 (0,0)) (by (with_reducible repeat (first | refine blk_drewN ?_ _ | refine blk_drew ?_ | refine blk_alloc ?_ _));exact BK180.out) hg (Kd.R_ne HO_182001.out BK180.out (by decide)));have n1_:=Aside0.mk (blk_grown (g:=gb181) (o:=.cells #[.string x182000_1,u182001] 41 (0,0)) (by (with_reducible repeat (first | refine blk_drewN ?_ _ | refine blk_drew ?_ | refine blk_alloc ?_ _));exact BK181.out) hg (Kd.R_ne HO_182001.out BK181.out (by decide)));have n2_:=Aside0.mk (hb);have n3_:=Aside0.mk (ho);clear BK180;clear BK181;clear HB;clear HO_182001;have BK180:=n0_;have BK181:=n1_;have HB:=n2_;have HO186:=n3_;clear n0_ n1_ n2_ n3_;clear ho hb hg hat;obtain ⟨Ao32,co32,eo32⟩:=Kd.R_slice HO186.out;subst eo32;have hcz33_0 : w31.cell? ⟨gb181,0,none⟩ = some (.string x182000_1):=(blk_cell BK181.out 0).trans rfl;have hcz33_1 : w31.cell? ⟨gb181,1,none⟩ = some (u182001):=(blk_cell BK181.out 1).trans rfl;have hfz33_0:=blk_frozen BK181.out 0;have hfz33_1:=blk_frozen BK181.out 1))
               go_roundg kj15
               case measure => have:=HK1.out;have:=HJ6.out;have:=HJ15.out;omega
               case rel => exact ⟨(wrap64 (x6_1 + 1)),(wrap64 (x6_1 + 1)),(x182000_1),(y184),(.slice Ao32 y184.length co32),(by first | rfl | (simp;done) | (simp [*];done)),(by first | rfl | (simp;done) | (simp [*];done)),H',⟨by have:=HK1.out;have:=HJ6.out;have:=HJ15.out;omega⟩,⟨by (with_reducible repeat (first | apply Kd.R_alloc | apply Kd.R_drewN | apply Kd.R_drew));exact Kd.R_mono (Kd.R_far (p:=⟨gb181,1,none⟩) (Kd.R_types HO186.out BK181.out (by decide)) (fun _ hk => hk.2) (.slice Ao32 y184.length co32)) (fun _ hk => trivial)⟩,⟨by (with_reducible repeat (first | refine blk_drewN ?_ _ | refine blk_drew ?_ | refine blk_alloc ?_ _));refine blk_far ?_ NB180_181.out _;(with_reducible repeat (first | refine blk_drewN ?_ _ | refine blk_drew ?_ | refine blk_alloc ?_ _));exact BK180.out⟩,⟨by (with_reducible repeat (first | refine blk_drewN ?_ _ | refine blk_drew ?_ | refine blk_alloc ?_ _));refine blk_put (cs:=#[.string x182000_1,u182001]) ?_ 1 _ rfl;(with_reducible repeat (first | refine blk_drewN ?_ _ | refine blk_drew ?_ | refine blk_alloc ?_ _));exact BK181.out⟩,⟨by repeat (first | (with_reducible first | exact HB.out | apply below_alloc | apply pw_below_drewN | apply below_drew1 | refine below_set ?_ GE180.out | refine below_set ?_ GE181.out) | exact HB.out)⟩⟩
              ·rw [if_neg c28] at H
               exact absurd H (by simp)
             ·rw [if_neg c27] at H
              have c27b0 : ((a0.extract (x5_1 : Int).toNat (x6_1 : Int).toNat).toList == ([105,110,116] : List UInt8)) = false:=beq_eq_false_iff_ne.mpr c27
              have c27b1 : ((a0.extract (x5_1 : Int).toNat (x6_1 : Int).toNat).toList != ([105,110,116] : List UInt8)) = true:=bne_iff_ne.mpr c27
              by_cases c34 : (a0.extract (x5_1 : Int).toNat (x6_1 : Int).toNat).toList = ([115,116,114,105,110,103] : List UInt8)
              ·rw [if_pos c34] at H
               have c34b0 : ((a0.extract (x5_1 : Int).toNat (x6_1 : Int).toNat).toList == ([115,116,114,105,110,103] : List UInt8)) = true:=beq_iff_eq.mpr c34
               have c34b1 : ((a0.extract (x5_1 : Int).toNat (x6_1 : Int).toNat).toList != ([115,116,114,105,110,103] : List UInt8)) = false:=bne_eq_false_iff_eq.mpr c34
               clear c34
               by_cases c35 : x182001_1.length < 17592186044416
               ·rw [if_pos c35] at H
                have LMc35:=Aside0.mk c35
                clear c35
                obtain ⟨y187,hy187⟩ : ∃ y_ : List Int,y_ = (x182001_1 ++ [2]):=⟨_,rfl⟩
                replace H : (tachographref10_Pred.l0 kj15 a0 (wrap64 (x6_1 + 1)) (wrap64 (x6_1 + 1)) x182000_1 y187) = some (r1,r2,r3):=by first | (rw [hy187];with_reducible exact H) | (have H2_:=(Option.bind_some _ _).symm.trans H;rw [hy187];with_reducible exact H2_) | (have H2_:=(Option.bind_some _ _).symm.trans H;with_reducible exact H2_) | with_reducible exact H | (rw [hy187];exact H) | exact H
                have Ny187:=Aside0.mk hy187
                clear hy187
                have H':=Aside0.mk H
                clear H
                have hnb36:=NB181_180.out
                have hnc36:=NB180_181.out
                have hcz37_0 : wc.cell? ⟨gb181,0,none⟩ = some (.string x182000_1):=(blk_cell BK181.out 0).trans rfl
                have hcz37_1 : wc.cell? ⟨gb181,1,none⟩ = some (u182001):=(blk_cell BK181.out 1).trans rfl
                have hfz37_0:=blk_frozen BK181.out 0
                have hfz37_1:=blk_frozen BK181.out 1
                go_wp2_with (first | ((with_reducible refine gate_builtin (b:=.append) (xs:=#[.tmp 56,.tmp 57]) rfl ?_);at_builtin;refine Kd.R_append (Kd.int .i64) (w0:=w) w.heap.size rfl (.tmp 56) (.tmp 57) 39 3 (.int .i64 0) 8 rfl Tryd.underlying39 info3 rfl (by decide) (by omega) u182001 x182001_1 2 [.int .i64 2] (fun _ => True) (fun _ => False) rfl rfl ?aP (fun _ hk => hk.elim) ?aF ?aO ?aB ?aS ?aL ?_;(case aP => exact rfl);(case aB => exact (by repeat (first | (with_reducible first | exact HB.out | apply below_alloc | apply pw_below_drewN | apply below_drew1 | refine below_set ?_ GE180.out | refine below_set ?_ GE181.out) | exact HB.out)));(case aF => exact (fun _ _ => trivial));(case aO => exact (by (with_reducible repeat (first | apply Kd.R_alloc | apply Kd.R_drewN | apply Kd.R_drew));exact HO_182001.out));(case aS => exact (below_size (by repeat (first | (with_reducible first | exact HB.out | apply below_alloc | apply pw_below_drewN | apply below_drew1 | refine below_set ?_ GE180.out | refine below_set ?_ GE181.out) | exact HB.out))));(case aL => have:=LMc35.out;omega);intro v188 w38 ho hb hg hat;rw [← Ny187.out] at ho;have n0_:=Aside0.mk (blk_grown (g:=gb180) (o:=.cells #[.string (⟨#[]⟩ : ByteArray),.slice none 0 0] 41 (0,0)) (by (with_reducible repeat (first | refine blk_drewN ?_ _ | refine blk_drew ?_ | refine blk_alloc ?_ _));exact BK180.out) hg (Kd.R_ne HO_182001.out BK180.out (by decide)));have n1_:=Aside0.mk (blk_grown (g:=gb181) (o:=.cells #[.string x182000_1,u182001] 41 (0,0)) (by (with_reducible repeat (first | refine blk_drewN ?_ _ | refine blk_drew ?_ | refine blk_alloc ?_ _));exact BK181.out) hg (Kd.R_ne HO_182001.out BK181.out (by decide)));have n2_:=Aside0.mk (hb);have n3_:=Aside0.mk (ho);clear BK180;clear BK181;clear HB;clear HO_182001;have BK180:=n0_;have BK181:=n1_;have HB:=n2_;have HO189:=n3_;clear n0_ n1_ n2_ n3_;clear ho hb hg hat;obtain ⟨Ao39,co39,eo39⟩:=Kd.R_slice HO189.out;subst eo39;have hcz40_0 : w38.cell? ⟨gb181,0,none⟩ = some (.string x182000_1):=(blk_cell BK181.out 0).trans rfl;have hcz40_1 : w38.cell? ⟨gb181,1,none⟩ = some (u182001):=(blk_cell BK181.out 1).trans rfl;have hfz40_0:=blk_frozen BK181.out 0;have hfz40_1:=blk_frozen BK181.out 1))
                go_roundg kj15
                case measure => have:=HK1.out;have:=HJ6.out;have:=HJ15.out;omega
                case rel => exact ⟨(wrap64 (x6_1 + 1)),(wrap64 (x6_1 + 1)),(x182000_1),(y187),(.slice Ao39 y187.length co39),(by first | rfl | (simp;done) | (simp [*];done)),(by first | rfl | (simp;done) | (simp [*];done)),H',⟨by have:=HK1.out;have:=HJ6.out;have:=HJ15.out;omega⟩,⟨by (with_reducible repeat (first | apply Kd.R_alloc | apply Kd.R_drewN | apply Kd.R_drew));exact Kd.R_mono (Kd.R_far (p:=⟨gb181,1,none⟩) (Kd.R_types HO189.out BK181.out (by decide)) (fun _ hk => hk.2) (.slice Ao39 y187.length co39)) (fun _ hk => trivial)⟩,⟨by (with_reducible repeat (first | refine blk_drewN ?_ _ | refine blk_drew ?_ | refine blk_alloc ?_ _));refine blk_far ?_ NB180_181.out _;(with_reducible repeat (first | refine blk_drewN ?_ _ | refine blk_drew ?_ | refine blk_alloc ?_ _));exact BK180.out⟩,⟨by (with_reducible repeat (first | refine blk_drewN ?_ _ | refine blk_drew ?_ | refine blk_alloc ?_ _));refine blk_put (cs:=#[.string x182000_1,u182001]) ?_ 1 _ rfl;(with_reducible repeat (first | refine blk_drewN ?_ _ | refine blk_drew ?_ | refine blk_alloc ?_ _));exact BK181.out⟩,⟨by repeat (first | (with_reducible first | exact HB.out | apply below_alloc | apply pw_below_drewN | apply below_drew1 | refine below_set ?_ GE180.out | refine below_set ?_ GE181.out) | exact HB.out)⟩⟩
               ·rw [if_neg c35] at H
                exact absurd H (by simp)
              ·rw [if_neg c34] at H
               have c34b0 : ((a0.extract (x5_1 : Int).toNat (x6_1 : Int).toNat).toList == ([115,116,114,105,110,103] : List UInt8)) = false:=beq_eq_false_iff_ne.mpr c34
               have c34b1 : ((a0.extract (x5_1 : Int).toNat (x6_1 : Int).toNat).toList != ([115,116,114,105,110,103] : List UInt8)) = true:=bne_iff_ne.mpr c34
               have H':=Aside0.mk H
               clear H
               go_wp2
               go_roundg kj15
               case measure => have:=HK1.out;have:=HJ6.out;have:=HJ15.out;omega
               case rel => exact ⟨(wrap64 (x6_1 + 1)),(wrap64 (x6_1 + 1)),(x182000_1),(x182001_1),(u182001),(by first | rfl | (simp;done) | (simp [*];done)),(by first | rfl | (simp;done) | (simp [*];done)),H',⟨by have:=HK1.out;have:=HJ6.out;have:=HJ15.out;omega⟩,⟨by (with_reducible repeat (first | apply Kd.R_alloc | apply Kd.R_drewN | apply Kd.R_drew));exact HO_182001.out⟩,⟨by (with_reducible repeat (first | refine blk_drewN ?_ _ | refine blk_drew ?_ | refine blk_alloc ?_ _));exact BK180.out⟩,⟨by (with_reducible repeat (first | refine blk_drewN ?_ _ | refine blk_drew ?_ | refine blk_alloc ?_ _));exact BK181.out⟩,⟨by repeat (first | (with_reducible first | exact HB.out | apply below_alloc | apply pw_below_drewN | apply below_drew1 | refine below_set ?_ GE180.out | refine below_set ?_ GE181.out) | exact HB.out)⟩⟩
            ·rw [if_neg c26] at H
             exact absurd H (by simp)
           ·rw [if_neg c25] at H
            exact absurd H (by simp)
          ·rw [if_neg c24] at H
           exact absurd H (by simp)
         ·replace c23:=Bool.eq_false_iff.mpr c23
          subst c23
          have H1 : (tachographref10_Pred.l0 kj15 a0 x5_1 (wrap64 (x6_1 + 1)) x182000_1 x182001_1) = some (r1,r2,r3):=by rw [if_neg (show ¬ (false = true) by decide)] at H;exact H
          clear H
          have H:=H1
          clear H1
          have H':=Aside0.mk H
          clear H
          go_wp2
          go_roundg kj15
          case measure => have:=HK1.out;have:=HJ6.out;have:=HJ15.out;omega
          case rel => exact ⟨(x5_1),(wrap64 (x6_1 + 1)),(x182000_1),(x182001_1),(u182001),(by first | rfl | (simp;done) | (simp [*];done)),(by first | rfl | (simp;done) | (simp [*];done)),H',⟨by have:=HK1.out;have:=HJ6.out;have:=HJ15.out;omega⟩,⟨by (with_reducible repeat (first | apply Kd.R_alloc | apply Kd.R_drewN | apply Kd.R_drew));exact HO_182001.out⟩,⟨by (with_reducible repeat (first | refine blk_drewN ?_ _ | refine blk_drew ?_ | refine blk_alloc ?_ _));exact BK180.out⟩,⟨by (with_reducible repeat (first | refine blk_drewN ?_ _ | refine blk_drew ?_ | refine blk_alloc ?_ _));exact BK181.out⟩,⟨by repeat (first | (with_reducible first | exact HB.out | apply below_alloc | apply pw_below_drewN | apply below_drew1 | refine below_set ?_ GE180.out | refine below_set ?_ GE181.out) | exact HB.out)⟩⟩
   ·rw [if_neg c6] at H
    have c6b0 : decide (x6_1 < (a0.size : Int)) = false:=decide_eq_false c6
    clear c6
    replace H:=Option.bind_eq_some_iff.mp H
    obtain ⟨t182,A410,H⟩:=H
    replace H : (if t182 = true then ((tachographref10_Line.f k1 x182000_1 x182001_1).bind fun t183 => (some (x182000_1,x182001_1,(t183.toList == a0.toList)))) else (some (x182000_1,x182001_1,false))) = some (r1,r2,r3):=H
    have A41:=Aside0.mk A410
    clear A410
    by_cases c42 : t182 = true
    ·subst c42
     have H1 : ((tachographref10_Line.f k1 x182000_1 x182001_1).bind fun t183 => (some (x182000_1,x182001_1,(t183.toList == a0.toList)))) = some (r1,r2,r3):=by rw [if_pos rfl] at H;exact H
     clear H
     have H:=H1
     clear H1
     replace H:=Option.bind_eq_some_iff.mp H
     obtain ⟨t183,A430,H⟩:=H
     replace H : (some (x182000_1,x182001_1,(t183.toList == a0.toList))) = some (r1,r2,r3):=H
     have A43:=Aside0.mk A430
     clear A430
     simp only [Option.some.injEq,Prod.mk.injEq] at H
     obtain ⟨rfl,rfl,rfl⟩:=H
     try go_wp2
     have n0_:=Aside0.mk (Kd.R_drew HO_182001.out)
     have n1_:=Aside0.mk (blk_drew BK180.out)
     have n2_:=Aside0.mk (blk_drew BK181.out)
     have n3_:=Aside0.mk (below_drew1 HB.out)
     clear HO_182001
     clear BK180
     clear BK181
     clear HB
     have HO_182001:=n0_
     have BK180:=n1_
     have BK181:=n2_
     have HB:=n3_
     clear n0_ n1_ n2_ n3_
     refine start_ (n:=12) (S:=fun w' => w'.cell? ⟨gb181,0,none⟩ = some (.string x182000_1) ∧ w'.cell? ⟨gb181,1,none⟩ = some (u182001)) (ds:=[]) #[n_,n_,n_,n_,n_,n_,n_,n_,n_,n_,n_,n_] (by kernel_rfl) rfl rfl ⟨(blk_cell BK181.out 0).trans rfl,(blk_cell BK181.out 1).trans rfl⟩ (fun hHeld => ?_);refine with_tabW tachographref10_Pred.tab16 tachographref10_Pred.bits16 (fun HT_ HW_ => ?_)
     generalize wr.drew = w44 at HO_182001 BK180 BK181 HB hHeld ⊢
     refine pure_ (i:=1) (N:=some 63) (v:=?_) (a':=?_) #[n_,y_,n_,n_,n_,n_,n_,n_,n_,n_,n_,n_] rfl rfl (any_of HT_.out (by kernel_rfl)) (fun _ _ _ h => h) (Or.inl ⟨by rfl,?_⟩) ?_ ?_
     rotate_left
     ·intro w'
      go_simp
      with_reducible rfl
     rotate_left
     ·simp only [Act.put,sA_,sB_,sC_,i64_w,i32_w]
      rfl
     refine take_ (i:=0) (N:=some 62) (v:=?_) (a':=?_) #[y_,y_,n_,n_,n_,n_,n_,n_,n_,n_,n_,n_] rfl rfl (take_ofW HT_.out HW_.out (by kernel_rfl)) (fun _ _ _ h => h) (Or.inl ⟨by rfl,?_⟩) hHeld ?_ ?_
     rotate_left
     ·rintro w' ⟨s0,s1⟩
      go_simp
      with_reducible rfl
     rotate_left
     ·simp only [Act.put,sA_,sB_,sC_,i64_w,i32_w]
      rfl
     refine take_ (i:=2) (N:=some 64) (v:=?_) (a':=?_) #[y_,y_,y_,n_,n_,n_,n_,n_,n_,n_,n_,n_] rfl rfl (take_ofW HT_.out HW_.out (by kernel_rfl)) (fun _ _ _ h => h) (Or.inl ⟨by rfl,?_⟩) hHeld ?_ ?_
     rotate_left
     ·rintro w' ⟨s0,s1⟩
      go_simp
      with_reducible rfl
     rotate_left
     ·simp only [Act.put,sA_,sB_,sC_,i64_w,i32_w]
      rfl
     refine one_ (i:=3) (N:=some 65) #[y_,y_,y_,y_,n_,n_,n_,n_,n_,n_,n_,n_] rfl rfl (one_of HT_.out (by kernel_rfl)) (by decide) (fun K hK => ?_)
     refine goes_ Tryd.func26 (by kernel_rfl) rfl #[.string x182000_1] (by rfl) rfl rfl (by (try simp only [List.map_toArray,List.map_cons,List.map_nil]);first | done | rfl | (simp only [List.length_drop,List.length_take];rfl)) ?_
     with_reducible refine (tachographref09_Name.calls k1 x182000_1 true _ A41.out).mono ?_
     rintro e w' ⟨rfl,⟨nd,rfl⟩⟩
     refine ⟨_,rfl,?_⟩
     obtain ⟨Ao45,co45,eo45⟩:=Kd.R_slice HO_182001.out
     (first | subst eo45 | (injection eo45 with f1_ f2_ f3_;have f4_:=f1_.symm;have f5_:=f3_.symm;clear f1_ f2_ f3_;subst f4_;subst f5_))
     refine hK.out _ _ ⟨(blk_cell BK181.out 0).trans rfl,(blk_cell BK181.out 1).trans rfl⟩ (fun hHeld => ?_)
     clear hK K
     refine norm_ (a':=?_) ?_ ?_
     rotate_left
     ·show Act.put _ (some 65) _ = _
      simp only [Act.put,sA_,sB_,sC_,i64_w,i32_w]
      rfl
     refine pure_ (i:=4) (N:=some 66) (v:=?_) (a':=?_) #[y_,y_,y_,y_,y_,n_,n_,n_,n_,n_,n_,n_] rfl rfl (any_of HT_.out (by kernel_rfl)) (fun _ _ _ h => h) (Or.inl ⟨by rfl,?_⟩) ?_ ?_
     rotate_left
     ·intro w'
      go_simp
      with_reducible rfl
     rotate_left
     ·simp only [Act.put,sA_,sB_,sC_,i64_w,i32_w]
      rfl
     refine pure_ (i:=7) (N:=some 69) (v:=?_) (a':=?_) #[y_,y_,y_,y_,y_,n_,n_,y_,n_,n_,n_,n_] rfl rfl (any_of HT_.out (by kernel_rfl)) (fun _ _ _ h => h) (Or.inl ⟨by rfl,?_⟩) ?_ ?_
     rotate_left
     ·intro w'
      go_simp
      with_reducible rfl
     rotate_left
     ·simp only [Act.put,sA_,sB_,sC_,i64_w,i32_w]
      rfl
     refine take_ (i:=5) (N:=some 67) (v:=?_) (a':=?_) #[y_,y_,y_,y_,y_,y_,n_,y_,n_,n_,n_,n_] rfl rfl (take_ofW HT_.out HW_.out (by kernel_rfl)) (fun _ _ _ h => h) (Or.inl ⟨by rfl,?_⟩) hHeld ?_ ?_
     rotate_left
     ·rintro w' ⟨s0,s1⟩
      go_simp
      with_reducible rfl
     rotate_left
     ·simp only [Act.put,sA_,sB_,sC_,i64_w,i32_w]
      rfl
     refine one_ (i:=6) (N:=some 68) #[y_,y_,y_,y_,y_,y_,y_,y_,n_,n_,n_,n_] rfl rfl (one_of HT_.out (by kernel_rfl)) (by decide) (fun K hK => ?_)
     refine goes_ Tryd.func15 (by kernel_rfl) rfl #[.agg #[.string x182000_1,.slice Ao45 x182001_1.length co45]] (by rfl) rfl rfl (by (try simp only [List.map_toArray,List.map_cons,List.map_nil]);first | done | rfl | (simp only [List.length_drop,List.length_take];rfl)) ?_
     with_reducible refine (tachographref10_Line.calls k1 x182000_1 _ _ x182001_1 t183 _ ?side1 ?side2 A43.out).mono ?_
     (case side1 => repeat (first | exact (Kd.R_reads' HO_182001.out).2.2 | (with_reducible refine Kd.C_alloc ?_ _) | (with_reducible refine Kd.C_drewN ?_ _) | (with_reducible refine Kd.C_drew ?_)))
     (case side2 => exact (Kd.R_reads' HO_182001.out).2.1)
     rintro e w46 ⟨rfl,hb⟩
     refine ⟨_,rfl,?_⟩
     have n0_:=Aside0.mk (Kd.R_below (by (with_reducible repeat (first | apply Kd.R_alloc | apply Kd.R_drewN | apply Kd.R_drew));exact HO_182001.out) hb)
     have n1_:=Aside0.mk (blk_below (g:=gb180) (o:=.cells #[.string (⟨#[]⟩ : ByteArray),.slice none 0 0] 41 (0,0)) (by (with_reducible repeat (first | refine blk_drewN ?_ _ | refine blk_drew ?_ | refine blk_alloc ?_ _));exact BK180.out) hb)
     have n2_:=Aside0.mk (blk_below (g:=gb181) (o:=.cells #[.string x182000_1,.slice Ao45 x182001_1.length co45] 41 (0,0)) (by (with_reducible repeat (first | refine blk_drewN ?_ _ | refine blk_drew ?_ | refine blk_alloc ?_ _));exact BK181.out) hb)
     have n3_:=Aside0.mk (below_step (by repeat (first | (with_reducible first | exact HB.out | apply below_alloc | apply pw_below_drewN | apply below_drew1 | refine below_set ?_ GE180.out | refine below_set ?_ GE181.out) | exact HB.out)) hb)
     clear HO_182001
     clear BK180
     clear BK181
     clear HB
     have HO_182001:=n0_
     have BK180:=n1_
     have BK181:=n2_
     have HB:=n3_
     clear n0_ n1_ n2_ n3_
     (try clear hb)
     (try clear hb2)
     (try clear hk)
     (try clear hi)
     refine hK.out _ _ ⟨(blk_cell BK181.out 0).trans rfl,(blk_cell BK181.out 1).trans rfl⟩ (fun hHeld => ?_)
     clear hK K
     refine norm_ (a':=?_) ?_ ?_
     rotate_left
     ·show Act.put _ (some 68) _ = _
      simp only [Act.put,sA_,sB_,sC_,i64_w,i32_w]
      rfl
     refine pure_ (i:=8) (N:=some 70) (v:=?_) (a':=?_) #[y_,y_,y_,y_,y_,y_,y_,y_,y_,n_,n_,n_] rfl rfl (any_of HT_.out (by kernel_rfl)) (fun _ _ _ h => h) (Or.inl ⟨by rfl,?_⟩) ?_ ?_
     rotate_left
     ·intro w'
      go_simp
      with_reducible rfl
     rotate_left
     ·simp only [Act.put,sA_,sB_,sC_,i64_w,i32_w]
      rfl
     refine pure_ (i:=9) (N:=some 71) (v:=?_) (a':=?_) #[y_,y_,y_,y_,y_,y_,y_,y_,y_,y_,n_,n_] rfl rfl (any_of HT_.out (by kernel_rfl)) (fun _ _ _ h => h) (Or.inl ⟨by rfl,?_⟩) ?_ ?_
     rotate_left
     ·intro w'
      go_simp
      with_reducible rfl
     rotate_left
     ·simp only [Act.put,sA_,sB_,sC_,i64_w,i32_w]
      rfl
     refine one_ (i:=10) (N:=none) #[y_,y_,y_,y_,y_,y_,y_,y_,y_,y_,y_,n_] rfl rfl (one_of HT_.out (by kernel_rfl)) (by decide) (fun K hK => ?_)
     have hs47 : w46.cell? ⟨gb180,0,none⟩ = some (.string (⟨#[]⟩ : ByteArray)):=(blk_cell BK180.out 0).trans rfl
     have hfs47:=blk_frozen BK180.out 0
     have hns47_1:=NB181_180.out
     have hms47_1:=NB180_181.out
     have hs48 : w46.cell? ⟨gb180,1,none⟩ = some (.slice none 0 0):=(blk_cell BK180.out 1).trans rfl
     have hfs48:=blk_frozen BK180.out 1
     have hns48_1:=NB181_180.out
     have hms48_1:=NB180_181.out
     refine skip_ (w1:=?_) (by rfl) rfl ?_ ?_
     rotate_left
     ·go_simp
      rfl
     refine hK.out _ _ ⟨((cell_far (p:=⟨gb180,_,none⟩) NB181_180.out _).trans (((cell_far (p:=⟨gb180,_,none⟩) NB181_180.out _).trans (hHeld.1)))),((cell_far (p:=⟨gb180,_,none⟩) NB181_180.out _).trans (((cell_far (p:=⟨gb180,_,none⟩) NB181_180.out _).trans (hHeld.2))))⟩ (fun hHeld => ?_)
     clear hK K
     refine pure_ (i:=11) (N:=some 3) (v:=?_) (a':=?_) #[y_,y_,y_,y_,y_,y_,y_,y_,y_,y_,y_,y_] rfl rfl (any_of HT_.out (by kernel_rfl)) (fun _ _ _ h => h) (Or.inl ⟨by rfl,?_⟩) ?_ ?_
     rotate_left
     ·intro w'
      go_simp
      with_reducible rfl
     rotate_left
     ·simp only [Act.put,sA_,sB_,sC_,i64_w,i32_w]
      rfl
     refine done_ (done_of HT_.out (by kernel_rfl)) ?_
     try go_wp2
     refine bodyPost_ret (results_ct rfl _ _ gb180 41 #[.string x182000_1,.slice Ao45 x182001_1.length co45] (0,0) _ rfl (by (with_reducible repeat (first | refine blk_drewN ?_ _ | refine blk_drew ?_ | refine blk_alloc ?_ _));refine blk_put (cs:=#[.string x182000_1,.slice none 0 0]) ?_ 1 _ rfl;(with_reducible repeat (first | refine blk_drewN ?_ _ | refine blk_drew ?_ | refine blk_alloc ?_ _));refine blk_put (cs:=#[.string (⟨#[]⟩ : ByteArray),.slice none 0 0]) ?_ 0 _ rfl;(with_reducible repeat (first | refine blk_drewN ?_ _ | refine blk_drew ?_ | refine blk_alloc ?_ _));exact BK180.out) Tryd.underlying41 rfl (by kernel_rfl)) rfl ?_
     exact ⟨_,by first | rfl | (simp [errW_none,errW_some] <;> rfl) | (simp [*,errW_none,errW_some] <;> rfl),by (with_reducible repeat (first | apply Kd.R_alloc | apply Kd.R_drewN | apply Kd.R_drew));exact Kd.R_mono (Kd.R_far (p:=⟨gb180,1,none⟩) (Kd.R_far (p:=⟨gb180,0,none⟩) (Kd.R_types HO_182001.out BK180.out (by decide)) (fun _ hk => hk.2) (.string x182000_1)) (fun _ hk => hk.2) (.slice Ao45 x182001_1.length co45)) (fun _ hk => trivial),by repeat (first | (with_reducible first | exact HB.out | apply below_alloc | apply pw_below_drewN | apply below_drew1 | refine below_set ?_ GE180.out | refine below_set ?_ GE181.out) | exact HB.out)⟩
    ·replace c42:=Bool.eq_false_iff.mpr c42
     subst c42
     have H1 : (some (x182000_1,x182001_1,false)) = some (r1,r2,r3):=by rw [if_neg (show ¬ (false = true) by decide)] at H;exact H
     clear H
     have H:=H1
     clear H1
     simp only [Option.some.injEq,Prod.mk.injEq] at H
     obtain ⟨rfl,rfl,rfl⟩:=H
     try go_wp2
     have n0_:=Aside0.mk (Kd.R_drew HO_182001.out)
     have n1_:=Aside0.mk (blk_drew BK180.out)
     have n2_:=Aside0.mk (blk_drew BK181.out)
     have n3_:=Aside0.mk (below_drew1 HB.out)
     clear HO_182001
     clear BK180
     clear BK181
     clear HB
     have HO_182001:=n0_
     have BK180:=n1_
     have BK181:=n2_
     have HB:=n3_
     clear n0_ n1_ n2_ n3_
     refine start_ (n:=12) (S:=fun w' => w'.cell? ⟨gb181,0,none⟩ = some (.string x182000_1) ∧ w'.cell? ⟨gb181,1,none⟩ = some (u182001)) (ds:=[]) #[n_,n_,n_,n_,n_,n_,n_,n_,n_,n_,n_,n_] (by kernel_rfl) rfl rfl ⟨(blk_cell BK181.out 0).trans rfl,(blk_cell BK181.out 1).trans rfl⟩ (fun hHeld => ?_);refine with_tabW tachographref10_Pred.tab16 tachographref10_Pred.bits16 (fun HT_ HW_ => ?_)
     generalize wr.drew = w49 at HO_182001 BK180 BK181 HB hHeld ⊢
     refine pure_ (i:=1) (N:=some 63) (v:=?_) (a':=?_) #[n_,y_,n_,n_,n_,n_,n_,n_,n_,n_,n_,n_] rfl rfl (any_of HT_.out (by kernel_rfl)) (fun _ _ _ h => h) (Or.inl ⟨by rfl,?_⟩) ?_ ?_
     rotate_left
     ·intro w'
      go_simp
      with_reducible rfl
     rotate_left
     ·simp only [Act.put,sA_,sB_,sC_,i64_w,i32_w]
      rfl
     refine take_ (i:=0) (N:=some 62) (v:=?_) (a':=?_) #[y_,y_,n_,n_,n_,n_,n_,n_,n_,n_,n_,n_] rfl rfl (take_ofW HT_.out HW_.out (by kernel_rfl)) (fun _ _ _ h => h) (Or.inl ⟨by rfl,?_⟩) hHeld ?_ ?_
     rotate_left
     ·rintro w' ⟨s0,s1⟩
      go_simp
      with_reducible rfl
     rotate_left
     ·simp only [Act.put,sA_,sB_,sC_,i64_w,i32_w]
      rfl
     refine take_ (i:=2) (N:=some 64) (v:=?_) (a':=?_) #[y_,y_,y_,n_,n_,n_,n_,n_,n_,n_,n_,n_] rfl rfl (take_ofW HT_.out HW_.out (by kernel_rfl)) (fun _ _ _ h => h) (Or.inl ⟨by rfl,?_⟩) hHeld ?_ ?_
     rotate_left
     ·rintro w' ⟨s0,s1⟩
      go_simp
      with_reducible rfl
     rotate_left
     ·simp only [Act.put,sA_,sB_,sC_,i64_w,i32_w]
      rfl
     refine one_ (i:=3) (N:=some 65) #[y_,y_,y_,y_,n_,n_,n_,n_,n_,n_,n_,n_] rfl rfl (one_of HT_.out (by kernel_rfl)) (by decide) (fun K hK => ?_)
     refine goes_ Tryd.func26 (by kernel_rfl) rfl #[.string x182000_1] (by rfl) rfl rfl (by (try simp only [List.map_toArray,List.map_cons,List.map_nil]);first | done | rfl | (simp only [List.length_drop,List.length_take];rfl)) ?_
     with_reducible refine (tachographref09_Name.calls k1 x182000_1 false _ A41.out).mono ?_
     rintro e w' ⟨rfl,⟨nd,rfl⟩⟩
     refine ⟨_,rfl,?_⟩
     obtain ⟨Ao51,co51,eo51⟩:=Kd.R_slice HO_182001.out
     (first | subst eo51 | (injection eo51 with f1_ f2_ f3_;have f4_:=f1_.symm;have f5_:=f3_.symm;clear f1_ f2_ f3_;subst f4_;subst f5_))
     refine hK.out _ _ ⟨(blk_cell BK181.out 0).trans rfl,(blk_cell BK181.out 1).trans rfl⟩ (fun hHeld => ?_)
     clear hK K
     refine norm_ (a':=?_) ?_ ?_
     rotate_left
     ·show Act.put _ (some 65) _ = _
      simp only [Act.put,sA_,sB_,sC_,i64_w,i32_w]
      rfl
     refine pure_ (i:=4) (N:=some 66) (v:=?_) (a':=?_) #[y_,y_,y_,y_,y_,n_,n_,n_,n_,n_,n_,n_] rfl rfl (any_of HT_.out (by kernel_rfl)) (fun _ _ _ h => h) (Or.inl ⟨by rfl,?_⟩) ?_ ?_
     rotate_left
     ·intro w'
      go_simp
      with_reducible rfl
     rotate_left
     ·simp only [Act.put,sA_,sB_,sC_,i64_w,i32_w]
      rfl
     refine pure_ (i:=5) (N:=some 67) (v:=undef) (a':=?_) #[y_,y_,y_,y_,y_,y_,n_,n_,n_,n_,n_,n_] rfl rfl (any_of HT_.out (by kernel_rfl)) (fun _ _ _ h => h) (Or.inr ⟨by rfl,rfl⟩) ?_ ?_
     rotate_left
     ·simp only [Act.put,sA_,sB_,sC_,i64_w,i32_w]
      rfl
     refine pure_ (i:=6) (N:=some 68) (v:=undef) (a':=?_) #[y_,y_,y_,y_,y_,y_,y_,n_,n_,n_,n_,n_] rfl rfl (any_of HT_.out (by kernel_rfl)) (fun _ _ _ h => h) (Or.inr ⟨by rfl,rfl⟩) ?_ ?_
     rotate_left
     ·simp only [Act.put,sA_,sB_,sC_,i64_w,i32_w]
      rfl
     refine pure_ (i:=7) (N:=some 69) (v:=undef) (a':=?_) #[y_,y_,y_,y_,y_,y_,y_,y_,n_,n_,n_,n_] rfl rfl (any_of HT_.out (by kernel_rfl)) (fun _ _ _ h => h) (Or.inr ⟨by rfl,rfl⟩) ?_ ?_
     rotate_left
     ·simp only [Act.put,sA_,sB_,sC_,i64_w,i32_w]
      rfl
     refine pure_ (i:=8) (N:=some 70) (v:=undef) (a':=?_) #[y_,y_,y_,y_,y_,y_,y_,y_,y_,n_,n_,n_] rfl rfl (any_of HT_.out (by kernel_rfl)) (fun _ _ _ h => h) (Or.inr ⟨by rfl,rfl⟩) ?_ ?_
     rotate_left
     ·simp only [Act.put,sA_,sB_,sC_,i64_w,i32_w]
      rfl
     refine pure_ (i:=9) (N:=some 71) (v:=?_) (a':=?_) #[y_,y_,y_,y_,y_,y_,y_,y_,y_,y_,n_,n_] rfl rfl (any_of HT_.out (by kernel_rfl)) (fun _ _ _ h => h) (Or.inl ⟨by rfl,?_⟩) ?_ ?_
     rotate_left
     ·intro w'
      go_simp
      with_reducible rfl
     rotate_left
     ·simp only [Act.put,sA_,sB_,sC_,i64_w,i32_w]
      rfl
     refine one_ (i:=10) (N:=none) #[y_,y_,y_,y_,y_,y_,y_,y_,y_,y_,y_,n_] rfl rfl (one_of HT_.out (by kernel_rfl)) (by decide) (fun K hK => ?_)
     have hs50 : w49.cell? ⟨gb180,0,none⟩ = some (.string (⟨#[]⟩ : ByteArray)):=(blk_cell BK180.out 0).trans rfl
     have hfs50:=blk_frozen BK180.out 0
     have hns50_1:=NB181_180.out
     have hms50_1:=NB180_181.out
     have hs52 : w49.cell? ⟨gb180,1,none⟩ = some (.slice none 0 0):=(blk_cell BK180.out 1).trans rfl
     have hfs52:=blk_frozen BK180.out 1
     have hns52_1:=NB181_180.out
     have hms52_1:=NB180_181.out
     refine skip_ (w1:=?_) (by rfl) rfl ?_ ?_
     rotate_left
     ·go_simp
      rfl
     refine hK.out _ _ ⟨((cell_far (p:=⟨gb180,_,none⟩) NB181_180.out _).trans (((cell_far (p:=⟨gb180,_,none⟩) NB181_180.out _).trans (hHeld.1)))),((cell_far (p:=⟨gb180,_,none⟩) NB181_180.out _).trans (((cell_far (p:=⟨gb180,_,none⟩) NB181_180.out _).trans (hHeld.2))))⟩ (fun hHeld => ?_)
     clear hK K
     refine pure_ (i:=11) (N:=some 3) (v:=?_) (a':=?_) #[y_,y_,y_,y_,y_,y_,y_,y_,y_,y_,y_,y_] rfl rfl (any_of HT_.out (by kernel_rfl)) (fun _ _ _ h => h) (Or.inl ⟨by rfl,?_⟩) ?_ ?_
     rotate_left
     ·intro w'
      go_simp
      with_reducible rfl
     rotate_left
     ·simp only [Act.put,sA_,sB_,sC_,i64_w,i32_w]
      rfl
     refine done_ (done_of HT_.out (by kernel_rfl)) ?_
     try go_wp2
     refine bodyPost_ret (results_ct rfl _ _ gb180 41 #[.string x182000_1,.slice Ao51 x182001_1.length co51] (0,0) _ rfl (by (with_reducible repeat (first | refine blk_drewN ?_ _ | refine blk_drew ?_ | refine blk_alloc ?_ _));refine blk_put (cs:=#[.string x182000_1,.slice none 0 0]) ?_ 1 _ rfl;(with_reducible repeat (first | refine blk_drewN ?_ _ | refine blk_drew ?_ | refine blk_alloc ?_ _));refine blk_put (cs:=#[.string (⟨#[]⟩ : ByteArray),.slice none 0 0]) ?_ 0 _ rfl;(with_reducible repeat (first | refine blk_drewN ?_ _ | refine blk_drew ?_ | refine blk_alloc ?_ _));exact BK180.out) Tryd.underlying41 rfl (by kernel_rfl)) rfl ?_
     exact ⟨_,by first | rfl | (simp [errW_none,errW_some] <;> rfl) | (simp [*,errW_none,errW_some] <;> rfl),by (with_reducible repeat (first | apply Kd.R_alloc | apply Kd.R_drewN | apply Kd.R_drew));exact Kd.R_mono (Kd.R_far (p:=⟨gb180,1,none⟩) (Kd.R_far (p:=⟨gb180,0,none⟩) (Kd.R_types HO_182001.out BK180.out (by decide)) (fun _ hk => hk.2) (.string x182000_1)) (fun _ hk => hk.2) (.slice Ao51 x182001_1.length co51)) (fun _ hk => trivial),by repeat (first | (with_reducible first | exact HB.out | apply below_alloc | apply pw_below_drewN | apply below_drew1 | refine below_set ?_ GE180.out | refine below_set ?_ GE181.out) | exact HB.out)⟩

/-! ### tachographref10_bad: function 20 -/
def tachographref10_bad.f (a0 : Int) (a1 : Int) (a2 : Int) : Option ((List (S41)) × Int × Int × Int) := some (([] : List (S41)), a0, a1, a2)
set_option maxHeartbeats 8000000 in
set_option maxRecDepth 100000 in
theorem tachographref10_bad.calls (a0 : Int) (a1 : Int) (a2 : Int) (r1 : List (S41)) (r2 : Int) (r3 : Int) (r4 : Int) (w : World) (h : tachographref10_bad.f a0 a1 a2 = some (r1,r2,r3,r4)) :
  Calls Tryd.prog 20 #[.int .i64 a0,.int .i64 a1,.int .i64 a2] w fun e w' => ∃ v0_ : Value,e = .returned (.agg #[v0_,.int .i64 r2,.int .i64 r3,.int .i64 r4]) ∧ Kd.S k41 41 w' w.heap.size (fun _ => True) v0_ r1 ∧ Below w.heap.size w w':=by
 have hu31:=Tryd.underlying31
 have hu26:=Tryd.underlying26
 have HB:=Aside0.mk (Below.refl w.heap.size w)
 have H : (some (([] : List (S41)),a0,a1,a2)) = some (r1,r2,r3,r4):=h
 clear h
 simp only [Option.some.injEq,Prod.mk.injEq] at H
 obtain ⟨rfl,rfl,rfl,rfl⟩:=H
 go_enter Tryd.func20,Tryd.ntmps20
 go_wp2_with (first | ((with_reducible refine gate_dst (N:=6) rfl ?_);refine box_event ?hg (N:=6) ?hd (cs:=#[.slice none 0 0,.int .i64 0,.int .i64 0,.int .i64 0]) (t:=31) ?hr ?_;(case hd => rfl);(case hg => rfl);(case hr => first | (go_simp;done) | (go_simp;rfl));intro gb190 hg w4 hbox hb;have n0_:=Aside0.mk (below_step (by repeat (first | (with_reducible first | exact HB.out | apply below_alloc | apply pw_below_drewN | apply below_drew1) | exact HB.out)) hb);have n1_:=Aside0.mk (hbox);have n2_:=Aside0.mk ((by rw [hg];exact (below_size (by repeat (first | (with_reducible first | exact HB.out | apply below_alloc | apply pw_below_drewN | apply below_drew1) | exact HB.out))) : w.heap.size ≤ gb190));have n3_:=Aside0.mk ((by rw [hg];exact (below_size (by repeat (first | (with_reducible first | exact HB.out | apply below_alloc | apply pw_below_drewN | apply below_drew1) | exact HB.out))) : w.heap.size ≤ gb190));clear HB;have HB:=n0_;have BK190:=n1_;have GW190:=n2_;have GE190:=n3_;clear n0_ n1_ n2_ n3_;clear hb hbox hg;have hcz5_0 : w4.cell? ⟨gb190,0,none⟩ = some (.slice none 0 0):=(blk_cell BK190.out 0).trans rfl;have hcz5_1 : w4.cell? ⟨gb190,1,none⟩ = some (.int .i64 0):=(blk_cell BK190.out 1).trans rfl;have hcz5_2 : w4.cell? ⟨gb190,2,none⟩ = some (.int .i64 0):=(blk_cell BK190.out 2).trans rfl;have hcz5_3 : w4.cell? ⟨gb190,3,none⟩ = some (.int .i64 0):=(blk_cell BK190.out 3).trans rfl;have hfz5_0:=blk_frozen BK190.out 0;have hfz5_1:=blk_frozen BK190.out 1;have hfz5_2:=blk_frozen BK190.out 2;have hfz5_3:=blk_frozen BK190.out 3))
 refine bodyPost_ret (results_cell_row rfl _ _ gb190 31 #[.slice none 0 0,.int .i64 a0,.int .i64 a1,.int .i64 a2] (0,0) _ rfl (by (with_reducible repeat (first | refine blk_drewN ?_ _ | refine blk_drew ?_ | refine blk_alloc ?_ _));refine blk_put (cs:=#[.slice none 0 0,.int .i64 a0,.int .i64 a1,.int .i64 0]) ?_ 3 _ rfl;(with_reducible repeat (first | refine blk_drewN ?_ _ | refine blk_drew ?_ | refine blk_alloc ?_ _));refine blk_put (cs:=#[.slice none 0 0,.int .i64 a0,.int .i64 0,.int .i64 0]) ?_ 2 _ rfl;(with_reducible repeat (first | refine blk_drewN ?_ _ | refine blk_drew ?_ | refine blk_alloc ?_ _));refine blk_put (cs:=#[.slice none 0 0,.int .i64 0,.int .i64 0,.int .i64 0]) ?_ 1 _ rfl;(with_reducible repeat (first | refine blk_drewN ?_ _ | refine blk_drew ?_ | refine blk_alloc ?_ _));refine blk_put (cs:=#[.slice none 0 0,.int .i64 0,.int .i64 0,.int .i64 0]) ?_ 0 _ rfl;(with_reducible repeat (first | refine blk_drewN ?_ _ | refine blk_drew ?_ | refine blk_alloc ?_ _));exact BK190.out) Tryd.underlying31 rfl (by kernel_rfl)) rfl ?_
 exact ⟨_,by first | rfl | (simp [errW_none,errW_some] <;> rfl) | (simp [*,errW_none,errW_some] <;> rfl),by first | exact Kd.S_nil _ _ _ _ _ | exact Kd.N_nil _ _ _ _ _ | exact Kd.V_nil _ _ _ _ _ | exact Kd.Q_nil _ _ _ _ _ | exact Kd.R_nil _ _ _ _ _,by repeat (first | (with_reducible first | exact HB.out | apply below_alloc | apply pw_below_drewN | apply below_drew1 | refine below_set ?_ GE190.out) | exact HB.out)⟩

end Go.Proofs.YtmmfakdncjeoeacDoor.PE
