-- Contracts of Go functions, each with its plain Lean function: written by wip/tools/myprint.py of this work (the kit's print, with contracts proved by hand spliced in).
import Derived.Test.YtmmfakdncjeoeacDoorPEx0
import Derived.Test.YtmmfakdncjeoeacDoorPEx1
import Derived.Test.YtmmfakdncjeoeacDoorPEx4
import Derived.Test.YtmmfakdncjeoeacDoorPEx5
namespace Go.Proofs.YtmmfakdncjeoeacDoor.PE
open Go.RowKit Go.Proofs.YtmmfakdncjeoeacDoorW.PrintWords Go.Proofs.YtmmfakdncjeoeacDoorW.PrintLast Go.Proofs.YtmmfakdncjeoeacDoorW.PrintMore
attribute [local go_sem] max2_int min2_int max_two min_two max_three min_three max_four min_four   -- for this text's walks alone
set_option linter.unusedVariables false
set_option linter.unusedSimpArgs false

attribute [local go_sem high] eqA26
/-! ### tachographlaw10_SigtextPlaces: function 3 -/
mutual
def tachographlaw10_SigtextPlaces.l0 : Nat → ByteArray → Int → Int → Int → Int → Int → Int → Option (Bool)
 | 0, _, _, _, _, _, _, _ => none
 | k + 1, x0, x6, x7, x28, x29, x170000, x170001 => if x29 < x28 then (if x6 = x170000 then (if x7 = x170001 then (tachographlaw10_SigtextPlaces.j1 k x0 x6 x7 x29 x28 x29 true x170000 x170001) else (if 0 ≤ x29 then (if x29 < (x0.size : Int) then (if (bt x0 x29) = 10 then (tachographlaw10_SigtextPlaces.j1 k x0 x6 x7 x29 x28 x29 (decide (x7 ≥ x170001)) x170000 x170001) else (tachographlaw10_SigtextPlaces.j1 k x0 x6 x7 x29 x28 x29 false x170000 x170001)) else (none)) else (none))) else (tachographlaw10_SigtextPlaces.j1 k x0 x6 x7 x29 x28 x29 false x170000 x170001)) else ((tachographlaw10_fixed.f k).bind fun t171 => (if t171 = true then (if x6 = x170000 then (if x7 ≥ x170001 then (some (decide (x170001 ≥ 1))) else (some false)) else (some false)) else (some false)))
def tachographlaw10_SigtextPlaces.j1 : Nat → ByteArray → Int → Int → Int → Int → Int → Bool → Int → Int → Option (Bool)
 | 0, _, _, _, _, _, _, _, _, _ => none
 | k + 1, x0, x6, x7, x8, x28, x29, x53, x170000, x170001 => if x53 = true then ((tachographlaw10_fixed.f k).bind fun t172 => (if t172 = true then (some (decide (x170001 ≥ 1))) else (some false))) else (if 0 ≤ x8 then (if x8 < (x0.size : Int) then (if (bt x0 x8) = 10 then (tachographlaw10_SigtextPlaces.l0 k x0 (wrap64 (x6 + 1)) 1 x28 (wrap64 (x29 + 1)) x170000 x170001) else (tachographlaw10_SigtextPlaces.l0 k x0 x6 (wrap64 (x7 + 1)) x28 (wrap64 (x29 + 1)) x170000 x170001)) else (none)) else (none))
end
def tachographlaw10_SigtextPlaces.f (k : Nat) (a0 : ByteArray) : Option (Bool) := if (a0.size : Int) > 3000 then ((tachographlaw10_fixed.f k).bind fun t162 => (some t162)) else ((sigtext_Parse.f k a0).bind fun bt163 => (if bt163.2.1 = 0 then ((tachographlaw10_fixed.f k).bind fun t170 => (if t170 = true then (some (bt163.2.2.1 == 0 && (bt163.2.2.2 == 0))) else (some false))) else (tachographlaw10_SigtextPlaces.l0 k a0 1 1 (a0.size : Int) 0 bt163.2.2.1 bt163.2.2.2)))
theorem tachographlaw10_SigtextPlaces.mono_l : ∀ k, (∀ y0 y1 y2 y3 y4 y5 y6, LeO (tachographlaw10_SigtextPlaces.l0 k y0 y1 y2 y3 y4 y5 y6) (tachographlaw10_SigtextPlaces.l0 (k + 1) y0 y1 y2 y3 y4 y5 y6)) ∧ (∀ y0 y1 y2 y3 y4 y5 y6 y7 y8, LeO (tachographlaw10_SigtextPlaces.j1 k y0 y1 y2 y3 y4 y5 y6 y7 y8) (tachographlaw10_SigtextPlaces.j1 (k + 1) y0 y1 y2 y3 y4 y5 y6 y7 y8))
 | 0 => ⟨fun _ _ _ _ _ _ _ r h => by simp [tachographlaw10_SigtextPlaces.l0] at h, fun _ _ _ _ _ _ _ _ _ r h => by simp [tachographlaw10_SigtextPlaces.j1] at h⟩
 | k + 1 => by
  obtain ⟨ih0, ih1⟩ := tachographlaw10_SigtextPlaces.mono_l k
  refine ⟨?_, ?_⟩
  ·intro y0 y1 y2 y3 y4 y5 y6
   unfold tachographlaw10_SigtextPlaces.l0
   repeat' first
   | (with_reducible exact ih0 _ _ _ _ _ _ _)
   | (with_reducible exact ih1 _ _ _ _ _ _ _ _ _)
   | (with_reducible exact sigtext_Parse.mono _ _)
   | (with_reducible exact tachographlaw10_fixed.mono _)
   | (with_reducible exact LeO.refl _)
   | (with_reducible exact LeO.none _)
   | (with_reducible refine LeO.ite ?_ ?_)
   | (with_reducible refine LeO.bind ?_ (fun _ => ?_))
   | exact ih0 _ _ _ _ _ _ _
   | exact ih1 _ _ _ _ _ _ _ _ _
   | exact sigtext_Parse.mono _ _
   | exact tachographlaw10_fixed.mono _
   | exact LeO.none _
   | refine LeO.ite ?_ ?_
   | refine LeO.bind ?_ (fun _ => ?_)
  ·intro y0 y1 y2 y3 y4 y5 y6 y7 y8
   unfold tachographlaw10_SigtextPlaces.j1
   repeat' first
   | (with_reducible exact ih0 _ _ _ _ _ _ _)
   | (with_reducible exact ih1 _ _ _ _ _ _ _ _ _)
   | (with_reducible exact sigtext_Parse.mono _ _)
   | (with_reducible exact tachographlaw10_fixed.mono _)
   | (with_reducible exact LeO.refl _)
   | (with_reducible exact LeO.none _)
   | (with_reducible refine LeO.ite ?_ ?_)
   | (with_reducible refine LeO.bind ?_ (fun _ => ?_))
   | exact ih0 _ _ _ _ _ _ _
   | exact ih1 _ _ _ _ _ _ _ _ _
   | exact sigtext_Parse.mono _ _
   | exact tachographlaw10_fixed.mono _
   | exact LeO.none _
   | refine LeO.ite ?_ ?_
   | refine LeO.bind ?_ (fun _ => ?_)
theorem tachographlaw10_SigtextPlaces.mono : ∀ a0 k, LeO (tachographlaw10_SigtextPlaces.f k a0) (tachographlaw10_SigtextPlaces.f (k + 1) a0) := by
 intro a0 k
 obtain ⟨ih0, ih1⟩ := tachographlaw10_SigtextPlaces.mono_l k
 unfold tachographlaw10_SigtextPlaces.f
 repeat' first
   | (with_reducible exact ih0 _ _ _ _ _ _ _)
   | (with_reducible exact ih1 _ _ _ _ _ _ _ _ _)
   | (with_reducible exact sigtext_Parse.mono _ _)
   | (with_reducible exact tachographlaw10_fixed.mono _)
   | (with_reducible exact LeO.refl _)
   | (with_reducible exact LeO.none _)
   | (with_reducible refine LeO.ite ?_ ?_)
   | (with_reducible refine LeO.bind ?_ (fun _ => ?_))
   | exact ih0 _ _ _ _ _ _ _
   | exact ih1 _ _ _ _ _ _ _ _ _
   | exact sigtext_Parse.mono _ _
   | exact tachographlaw10_fixed.mono _
   | exact LeO.none _
   | refine LeO.ite ?_ ?_
   | refine LeO.bind ?_ (fun _ => ?_)
set_option maxHeartbeats 8000000 in
set_option maxRecDepth 100000 in
theorem tachographlaw10_SigtextPlaces.calls (k : Nat) (a0 : ByteArray) (r : Bool) (w : World) (h : tachographlaw10_SigtextPlaces.f k a0 = some r) (hg : Go.Proofs.YtmmfakdncjeoeacDoorAid.Glob w) :
  Calls Tryd.prog 3 #[.string a0] w fun e w' => e = .returned (.bool r) ∧ Below w.heap.size w w':=by
 have hu26:=Tryd.underlying26
 have HB:=Aside0.mk (Below.refl w.heap.size w)
 have HG:=Aside0.mk hg
 clear hg
 have H : (if (a0.size : Int) > 3000 then ((tachographlaw10_fixed.f k).bind fun t162 => (some t162)) else ((sigtext_Parse.f k a0).bind fun bt163 => (if bt163.2.1 = 0 then ((tachographlaw10_fixed.f k).bind fun t170 => (if t170 = true then (some (bt163.2.2.1 == 0 && (bt163.2.2.2 == 0))) else (some false))) else (tachographlaw10_SigtextPlaces.l0 k a0 1 1 (a0.size : Int) 0 bt163.2.2.1 bt163.2.2.2)))) = some r:=h
 clear h
 by_cases c2 : (a0.size : Int) > 3000
 ·rw [if_pos c2] at H
  have c2b0 : decide (3000 < (a0.size : Int)) = true:=decide_eq_true c2
  have c2b1 : decide (3000 < a0.size) = true:=decide_eq_true (by omega)
  clear c2
  replace H:=Option.bind_eq_some_iff.mp H
  obtain ⟨t162,A30,H⟩:=H
  replace H : (some t162) = some r:=H
  have A3:=Aside0.mk A30
  clear A30
  obtain rfl:=Option.some.inj H
  go_enter Tryd.func3,Tryd.ntmps3
  go_wp2_with (first | ((with_reducible refine gate_callee (f:=6) rfl ?_);refine goesL_ (some 12) rfl rfl Tryd.func6 (by kernel_rfl) rfl #[] rfl (by (try simp only [List.map_toArray,List.map_cons,List.map_nil]);first | done | rfl | (simp only [List.length_drop,List.length_take];rfl)) ?_;(with_reducible refine (tachographlaw10_fixed.calls k  t162 _ A3.out (HG.out.below (by repeat (first | (with_reducible first | exact HB.out | apply below_alloc | apply pw_below_drewN | apply below_drew1 | refine below_set ?_ GE169.out) | exact HB.out)))).mono ?_);rintro e w4 ⟨rfl,hb⟩;refine ⟨_,rfl,?_⟩;have n0_:=Aside0.mk (below_step (by repeat (first | (with_reducible first | exact HB.out | apply below_alloc | apply pw_below_drewN | apply below_drew1) | exact HB.out)) hb);clear HB;have HB:=n0_;clear n0_;(try clear hb);(try clear hb2);(try clear hk);(try clear hi)))
  go_ret
  exact ⟨by first | rfl | (simp [errW_none,errW_some] <;> rfl) | (simp [*,errW_none,errW_some] <;> rfl),by repeat (first | (with_reducible first | exact HB.out | apply below_alloc | apply pw_below_drewN | apply below_drew1) | exact HB.out)⟩
 ·rw [if_neg c2] at H
  have c2b0 : decide (3000 < (a0.size : Int)) = false:=decide_eq_false c2
  have c2b1 : decide (3000 < a0.size) = false:=decide_eq_false (by omega)
  clear c2
  replace H:=Option.bind_eq_some_iff.mp H
  obtain ⟨⟨t163,t166,t167,t168⟩,A50,H⟩:=H
  replace H : (if t166 = 0 then ((tachographlaw10_fixed.f k).bind fun t170 => (if t170 = true then (some (t167 == 0 && (t168 == 0))) else (some false))) else (tachographlaw10_SigtextPlaces.l0 k a0 1 1 (a0.size : Int) 0 t167 t168)) = some r:=H
  have A5:=Aside0.mk A50
  clear A50
  by_cases c6 : t166 = 0
  ·rw [if_pos c6] at H
   have c6b0 : (t166 == 0) = true:=beq_iff_eq.mpr c6
   have c6b1 : (t166 != 0) = false:=bne_eq_false_iff_eq.mpr c6
   clear c6
   replace H:=Option.bind_eq_some_iff.mp H
   obtain ⟨t170,A70,H⟩:=H
   replace H : (if t170 = true then (some (t167 == 0 && (t168 == 0))) else (some false)) = some r:=H
   have A7:=Aside0.mk A70
   clear A70
   by_cases c8 : t170 = true
   ·subst c8
    have H1 : (some (t167 == 0 && (t168 == 0))) = some r:=by rw [if_pos rfl] at H;exact H
    clear H
    have H:=H1
    clear H1
    obtain rfl:=Option.some.inj H
    go_enter Tryd.func3,Tryd.ntmps3
    go_wp2_with (first | ((with_reducible refine gate_callee (f:=7) rfl ?_);refine goesL_ (some 15) rfl rfl Tryd.func7 (by kernel_rfl) rfl #[.string a0] rfl (by (try simp only [List.map_toArray,List.map_cons,List.map_nil]);first | done | rfl | (simp only [List.length_drop,List.length_take];rfl)) ?_;(with_reducible refine (sigtext_Parse.calls k a0 t163 t166 t167 t168 _ A5.out (HG.out.below (by repeat (first | (with_reducible first | exact HB.out | apply below_alloc | apply pw_below_drewN | apply below_drew1 | refine below_set ?_ GE169.out) | exact HB.out)))).mono ?_);rintro e w9 ⟨v164,rfl,ho0,hb⟩;refine ⟨_,rfl,?_⟩;have n0_:=Aside0.mk (Kd.S_lower ho0 (below_size (by repeat (first | (with_reducible first | exact HB.out | apply below_alloc | apply pw_below_drewN | apply below_drew1) | exact HB.out))));have n1_:=Aside0.mk (below_step (by repeat (first | (with_reducible first | exact HB.out | apply below_alloc | apply pw_below_drewN | apply below_drew1) | exact HB.out)) hb);clear HB;have HO165:=n0_;have HB:=n1_;clear n0_ n1_;(try clear hb);(try clear hb2);(try clear hk);(try clear hi);(try clear ho0)) | ((with_reducible refine gate_dst (N:=5) rfl ?_);refine box_event ?hg (N:=5) ?hd (cs:=#[.int .i64 0,.int .i64 0]) (t:=26) ?hr ?_;(case hd => rfl);(case hg => rfl);(case hr => first | (go_simp;done) | (go_simp;rfl));intro gb169 hg w10 hbox hb;have n0_:=Aside0.mk (Kd.S_below (by (with_reducible repeat (first | apply Kd.S_alloc | apply Kd.S_drewN | apply Kd.S_drew));exact HO165.out) hb);have n1_:=Aside0.mk (below_step (by repeat (first | (with_reducible first | exact HB.out | apply below_alloc | apply pw_below_drewN | apply below_drew1) | exact HB.out)) hb);have n2_:=Aside0.mk (hbox);have n3_:=Aside0.mk ((by rw [hg];exact (below_size (by repeat (first | (with_reducible first | exact HB.out | apply below_alloc | apply pw_below_drewN | apply below_drew1) | exact HB.out))) : w.heap.size ≤ gb169));have n4_:=Aside0.mk ((by rw [hg];exact (below_size (by repeat (first | (with_reducible first | exact HB.out | apply below_alloc | apply pw_below_drewN | apply below_drew1) | exact HB.out))) : w.heap.size ≤ gb169));clear HO165;clear HB;have HO165:=n0_;have HB:=n1_;have BK169:=n2_;have GW169:=n3_;have GE169:=n4_;clear n0_ n1_ n2_ n3_ n4_;clear hb hbox hg;have hcz11_0 : w10.cell? ⟨gb169,0,none⟩ = some (.int .i64 0):=(blk_cell BK169.out 0).trans rfl;have hcz11_1 : w10.cell? ⟨gb169,1,none⟩ = some (.int .i64 0):=(blk_cell BK169.out 1).trans rfl;have hfz11_0:=blk_frozen BK169.out 0;have hfz11_1:=blk_frozen BK169.out 1) | ((with_reducible refine gate_callee (f:=6) rfl ?_);refine goesL_ (some 21) rfl rfl Tryd.func6 (by kernel_rfl) rfl #[] rfl (by (try simp only [List.map_toArray,List.map_cons,List.map_nil]);first | done | rfl | (simp only [List.length_drop,List.length_take];rfl)) ?_;(with_reducible refine (tachographlaw10_fixed.calls k  true _ A7.out (HG.out.below (by repeat (first | (with_reducible first | exact HB.out | apply below_alloc | apply pw_below_drewN | apply below_drew1 | refine below_set ?_ GE169.out) | exact HB.out)))).mono ?_);rintro e w12 ⟨rfl,hb⟩;refine ⟨_,rfl,?_⟩;have n0_:=Aside0.mk (Kd.S_below (by (with_reducible repeat (first | apply Kd.S_alloc | apply Kd.S_drewN | apply Kd.S_drew));exact (Kd.S_mono (Kd.S_far (p:=⟨gb169,1,none⟩) (Kd.S_far (p:=⟨gb169,0,none⟩) (Kd.S_types HO165.out BK169.out (by decide)) (fun _ hk => hk.2) (.int .i64 t167)) (fun _ hk => hk.2) (.int .i64 t168)) (fun _ h_ => h_.1))) hb);have n1_:=Aside0.mk (blk_below (g:=gb169) (o:=.cells #[.int .i64 t167,.int .i64 t168] 26 (0,0)) (by (with_reducible repeat (first | refine blk_drewN ?_ _ | refine blk_drew ?_ | refine blk_alloc ?_ _));refine blk_put (cs:=#[.int .i64 t167,.int .i64 0]) ?_ 1 _ rfl;(with_reducible repeat (first | refine blk_drewN ?_ _ | refine blk_drew ?_ | refine blk_alloc ?_ _));refine blk_put (cs:=#[.int .i64 0,.int .i64 0]) ?_ 0 _ rfl;(with_reducible repeat (first | refine blk_drewN ?_ _ | refine blk_drew ?_ | refine blk_alloc ?_ _));exact BK169.out) hb);have n2_:=Aside0.mk (below_step (by repeat (first | (with_reducible first | exact HB.out | apply below_alloc | apply pw_below_drewN | apply below_drew1 | refine below_set ?_ GE169.out) | exact HB.out)) hb);clear HO165;clear BK169;clear HB;have HO165:=n0_;have BK169:=n1_;have HB:=n2_;clear n0_ n1_ n2_;(try clear hb);(try clear hb2);(try clear hk);(try clear hi);have hcz13_0 : w12.cell? ⟨gb169,0,none⟩ = some (.int .i64 t167):=(blk_cell BK169.out 0).trans rfl;have hcz13_1 : w12.cell? ⟨gb169,1,none⟩ = some (.int .i64 t168):=(blk_cell BK169.out 1).trans rfl;have hfz13_0:=blk_frozen BK169.out 0;have hfz13_1:=blk_frozen BK169.out 1))
    go_ret
    exact ⟨by first | rfl | (simp [errW_none,errW_some] <;> rfl) | (simp [*,errW_none,errW_some] <;> rfl),by repeat (first | (with_reducible first | exact HB.out | apply below_alloc | apply pw_below_drewN | apply below_drew1 | refine below_set ?_ GE169.out) | exact HB.out)⟩
   ·replace c8:=Bool.eq_false_iff.mpr c8
    subst c8
    have H1 : (some false) = some r:=by rw [if_neg (show ¬ (false = true) by decide)] at H;exact H
    clear H
    have H:=H1
    clear H1
    obtain rfl:=Option.some.inj H
    go_enter Tryd.func3,Tryd.ntmps3
    go_wp2_with (first | ((with_reducible refine gate_callee (f:=7) rfl ?_);refine goesL_ (some 15) rfl rfl Tryd.func7 (by kernel_rfl) rfl #[.string a0] rfl (by (try simp only [List.map_toArray,List.map_cons,List.map_nil]);first | done | rfl | (simp only [List.length_drop,List.length_take];rfl)) ?_;(with_reducible refine (sigtext_Parse.calls k a0 t163 t166 t167 t168 _ A5.out (HG.out.below (by repeat (first | (with_reducible first | exact HB.out | apply below_alloc | apply pw_below_drewN | apply below_drew1 | refine below_set ?_ GE169.out) | exact HB.out)))).mono ?_);rintro e w14 ⟨v164,rfl,ho0,hb⟩;refine ⟨_,rfl,?_⟩;have n0_:=Aside0.mk (Kd.S_lower ho0 (below_size (by repeat (first | (with_reducible first | exact HB.out | apply below_alloc | apply pw_below_drewN | apply below_drew1) | exact HB.out))));have n1_:=Aside0.mk (below_step (by repeat (first | (with_reducible first | exact HB.out | apply below_alloc | apply pw_below_drewN | apply below_drew1) | exact HB.out)) hb);clear HB;have HO165:=n0_;have HB:=n1_;clear n0_ n1_;(try clear hb);(try clear hb2);(try clear hk);(try clear hi);(try clear ho0)) | ((with_reducible refine gate_dst (N:=5) rfl ?_);refine box_event ?hg (N:=5) ?hd (cs:=#[.int .i64 0,.int .i64 0]) (t:=26) ?hr ?_;(case hd => rfl);(case hg => rfl);(case hr => first | (go_simp;done) | (go_simp;rfl));intro gb169 hg w15 hbox hb;have n0_:=Aside0.mk (Kd.S_below (by (with_reducible repeat (first | apply Kd.S_alloc | apply Kd.S_drewN | apply Kd.S_drew));exact HO165.out) hb);have n1_:=Aside0.mk (below_step (by repeat (first | (with_reducible first | exact HB.out | apply below_alloc | apply pw_below_drewN | apply below_drew1) | exact HB.out)) hb);have n2_:=Aside0.mk (hbox);have n3_:=Aside0.mk ((by rw [hg];exact (below_size (by repeat (first | (with_reducible first | exact HB.out | apply below_alloc | apply pw_below_drewN | apply below_drew1) | exact HB.out))) : w.heap.size ≤ gb169));have n4_:=Aside0.mk ((by rw [hg];exact (below_size (by repeat (first | (with_reducible first | exact HB.out | apply below_alloc | apply pw_below_drewN | apply below_drew1) | exact HB.out))) : w.heap.size ≤ gb169));clear HO165;clear HB;have HO165:=n0_;have HB:=n1_;have BK169:=n2_;have GW169:=n3_;have GE169:=n4_;clear n0_ n1_ n2_ n3_ n4_;clear hb hbox hg;have hcz16_0 : w15.cell? ⟨gb169,0,none⟩ = some (.int .i64 0):=(blk_cell BK169.out 0).trans rfl;have hcz16_1 : w15.cell? ⟨gb169,1,none⟩ = some (.int .i64 0):=(blk_cell BK169.out 1).trans rfl;have hfz16_0:=blk_frozen BK169.out 0;have hfz16_1:=blk_frozen BK169.out 1) | ((with_reducible refine gate_callee (f:=6) rfl ?_);refine goesL_ (some 21) rfl rfl Tryd.func6 (by kernel_rfl) rfl #[] rfl (by (try simp only [List.map_toArray,List.map_cons,List.map_nil]);first | done | rfl | (simp only [List.length_drop,List.length_take];rfl)) ?_;(with_reducible refine (tachographlaw10_fixed.calls k  false _ A7.out (HG.out.below (by repeat (first | (with_reducible first | exact HB.out | apply below_alloc | apply pw_below_drewN | apply below_drew1 | refine below_set ?_ GE169.out) | exact HB.out)))).mono ?_);rintro e w17 ⟨rfl,hb⟩;refine ⟨_,rfl,?_⟩;have n0_:=Aside0.mk (Kd.S_below (by (with_reducible repeat (first | apply Kd.S_alloc | apply Kd.S_drewN | apply Kd.S_drew));exact (Kd.S_mono (Kd.S_far (p:=⟨gb169,1,none⟩) (Kd.S_far (p:=⟨gb169,0,none⟩) (Kd.S_types HO165.out BK169.out (by decide)) (fun _ hk => hk.2) (.int .i64 t167)) (fun _ hk => hk.2) (.int .i64 t168)) (fun _ h_ => h_.1))) hb);have n1_:=Aside0.mk (blk_below (g:=gb169) (o:=.cells #[.int .i64 t167,.int .i64 t168] 26 (0,0)) (by (with_reducible repeat (first | refine blk_drewN ?_ _ | refine blk_drew ?_ | refine blk_alloc ?_ _));refine blk_put (cs:=#[.int .i64 t167,.int .i64 0]) ?_ 1 _ rfl;(with_reducible repeat (first | refine blk_drewN ?_ _ | refine blk_drew ?_ | refine blk_alloc ?_ _));refine blk_put (cs:=#[.int .i64 0,.int .i64 0]) ?_ 0 _ rfl;(with_reducible repeat (first | refine blk_drewN ?_ _ | refine blk_drew ?_ | refine blk_alloc ?_ _));exact BK169.out) hb);have n2_:=Aside0.mk (below_step (by repeat (first | (with_reducible first | exact HB.out | apply below_alloc | apply pw_below_drewN | apply below_drew1 | refine below_set ?_ GE169.out) | exact HB.out)) hb);clear HO165;clear BK169;clear HB;have HO165:=n0_;have BK169:=n1_;have HB:=n2_;clear n0_ n1_ n2_;(try clear hb);(try clear hb2);(try clear hk);(try clear hi)))
    go_ret
    exact ⟨by first | rfl | (simp [errW_none,errW_some] <;> rfl) | (simp [*,errW_none,errW_some] <;> rfl),by repeat (first | (with_reducible first | exact HB.out | apply below_alloc | apply pw_below_drewN | apply below_drew1 | refine below_set ?_ GE169.out) | exact HB.out)⟩
  ·rw [if_neg c6] at H
   have c6b0 : (t166 == 0) = false:=beq_eq_false_iff_ne.mpr c6
   have c6b1 : (t166 != 0) = true:=bne_iff_ne.mpr c6
   have H':=Aside0.mk H
   clear H
   go_enter Tryd.func3,Tryd.ntmps3
   go_wp2_with (first | ((with_reducible refine gate_callee (f:=7) rfl ?_);refine goesL_ (some 15) rfl rfl Tryd.func7 (by kernel_rfl) rfl #[.string a0] rfl (by (try simp only [List.map_toArray,List.map_cons,List.map_nil]);first | done | rfl | (simp only [List.length_drop,List.length_take];rfl)) ?_;(with_reducible refine (sigtext_Parse.calls k a0 t163 t166 t167 t168 _ A5.out (HG.out.below (by repeat (first | (with_reducible first | exact HB.out | apply below_alloc | apply pw_below_drewN | apply below_drew1 | refine below_set ?_ GE169.out) | exact HB.out)))).mono ?_);rintro e w18 ⟨v164,rfl,ho0,hb⟩;refine ⟨_,rfl,?_⟩;have n0_:=Aside0.mk (Kd.S_lower ho0 (below_size (by repeat (first | (with_reducible first | exact HB.out | apply below_alloc | apply pw_below_drewN | apply below_drew1) | exact HB.out))));have n1_:=Aside0.mk (below_step (by repeat (first | (with_reducible first | exact HB.out | apply below_alloc | apply pw_below_drewN | apply below_drew1) | exact HB.out)) hb);clear HB;have HO165:=n0_;have HB:=n1_;clear n0_ n1_;(try clear hb);(try clear hb2);(try clear hk);(try clear hi);(try clear ho0)) | ((with_reducible refine gate_dst (N:=5) rfl ?_);refine box_event ?hg (N:=5) ?hd (cs:=#[.int .i64 0,.int .i64 0]) (t:=26) ?hr ?_;(case hd => rfl);(case hg => rfl);(case hr => first | (go_simp;done) | (go_simp;rfl));intro gb169 hg w19 hbox hb;have n0_:=Aside0.mk (Kd.S_below (by (with_reducible repeat (first | apply Kd.S_alloc | apply Kd.S_drewN | apply Kd.S_drew));exact HO165.out) hb);have n1_:=Aside0.mk (below_step (by repeat (first | (with_reducible first | exact HB.out | apply below_alloc | apply pw_below_drewN | apply below_drew1) | exact HB.out)) hb);have n2_:=Aside0.mk (hbox);have n3_:=Aside0.mk ((by rw [hg];exact (below_size (by repeat (first | (with_reducible first | exact HB.out | apply below_alloc | apply pw_below_drewN | apply below_drew1) | exact HB.out))) : w.heap.size ≤ gb169));have n4_:=Aside0.mk ((by rw [hg];exact (below_size (by repeat (first | (with_reducible first | exact HB.out | apply below_alloc | apply pw_below_drewN | apply below_drew1) | exact HB.out))) : w.heap.size ≤ gb169));clear HO165;clear HB;have HO165:=n0_;have HB:=n1_;have BK169:=n2_;have GW169:=n3_;have GE169:=n4_;clear n0_ n1_ n2_ n3_ n4_;clear hb hbox hg;have hcz20_0 : w19.cell? ⟨gb169,0,none⟩ = some (.int .i64 0):=(blk_cell BK169.out 0).trans rfl;have hcz20_1 : w19.cell? ⟨gb169,1,none⟩ = some (.int .i64 0):=(blk_cell BK169.out 1).trans rfl;have hfz20_0:=blk_frozen BK169.out 0;have hfz20_1:=blk_frozen BK169.out 1))
   go_loopg [6,7,29] k (fun kq v6 v7 v29 w' => ∃ (x6_1 : Int) (x7_1 : Int) (x29_1 : Int),v6 = .int .i64 x6_1 ∧ v7 = .int .i64 x7_1 ∧ v29 = .int .i64 x29_1 ∧ Aside0 (tachographlaw10_SigtextPlaces.l0 kq a0 x6_1 x7_1 (a0.size : Int) x29_1 t167 t168 = some r) ∧ Aside0 (kq ≤ k) ∧ Aside0 (w'.heap[gb169]? = some (.cells #[.int .i64 t167,.int .i64 t168] 26 (0,0))) ∧ Aside0 (Below w.heap.size w w'))
   case atStart => exact ⟨(1),(1),(0),(by first | rfl | (simp;done) | (simp [*];done)),(by first | rfl | (simp;done) | (simp [*];done)),(by first | rfl | (simp;done) | (simp [*];done)),H',⟨Nat.le_refl _⟩,⟨by (with_reducible repeat (first | refine blk_drewN ?_ _ | refine blk_drew ?_ | refine blk_alloc ?_ _));refine blk_put (cs:=#[.int .i64 t167,.int .i64 0]) ?_ 1 _ rfl;(with_reducible repeat (first | refine blk_drewN ?_ _ | refine blk_drew ?_ | refine blk_alloc ?_ _));refine blk_put (cs:=#[.int .i64 0,.int .i64 0]) ?_ 0 _ rfl;(with_reducible repeat (first | refine blk_drewN ?_ _ | refine blk_drew ?_ | refine blk_alloc ?_ _));exact BK169.out⟩,⟨by repeat (first | (with_reducible first | exact HB.out | apply below_alloc | apply pw_below_drewN | apply below_drew1 | refine below_set ?_ GE169.out) | exact HB.out)⟩⟩
   case round =>
    clear H'
    try clear c2
    try clear c2b0
    try clear c2b1
    try clear p2
    try clear c3
    try clear c6
    try clear c6b0
    try clear c6b1
    try clear c7
    try clear c8
    try clear hcz11_0
    try clear hcz11_1
    try clear hcz13_0
    try clear hcz13_1
    try clear hcz16_0
    try clear hcz16_1
    try clear hcz20_0
    try clear hcz20_1
    try clear hfz11_0
    try clear hfz11_1
    try clear hfz13_0
    try clear hfz13_1
    try clear hfz16_0
    try clear hfz16_1
    try clear hfz20_0
    try clear hfz20_1
    obtain ⟨x6_1,x7_1,x29_1,rfl,rfl,rfl,HA,HK1,BK169,HB⟩:=hrel
    cases gk with
    | zero => exact absurd HA.out (by simp [tachographlaw10_SigtextPlaces.l0])
    | succ k1 =>
     have H:=HA.out
     clear HA
     simp only [tachographlaw10_SigtextPlaces.l0] at H
     by_cases c21 : x29_1 < (a0.size : Int)
     ·rw [if_pos c21] at H
      have c21b0 : decide (x29_1 < (a0.size : Int)) = true:=decide_eq_true c21
      clear c21
      have HC22:=Aside0.mk H
      clear H
      go_upto_region 10 with (fail)
      go_cut [53] (fun v53 wc => ∃ (kq : Nat) (x53_21 : Bool),v53 = .bool x53_21 ∧ Aside0 (tachographlaw10_SigtextPlaces.j1 kq a0 x6_1 x7_1 x29_1 (a0.size : Int) x29_1 x53_21 t167 t168 = some r) ∧ Aside0 (kq ≤ k1) ∧ Aside0 (wc.heap[gb169]? = some (.cells #[.int .i64 t167,.int .i64 t168] 26 (0,0))) ∧ Aside0 (Below w.heap.size w wc))
      case first =>
       have H:=HC22.out
       clear HC22
       by_cases c23 : x6_1 = t167
       ·rw [if_pos c23] at H
        have c23b0 : (x6_1 == t167) = true:=beq_iff_eq.mpr c23
        have c23b1 : (x6_1 != t167) = false:=bne_eq_false_iff_eq.mpr c23
        clear c23
        (first | rw [c23b0] | (simp only [i64_w,i32_w];rw [c23b0]) | skip)
        by_cases c24 : x7_1 = t168
        ·rw [if_pos c24] at H
         have c24b0 : (x7_1 == t168) = true:=beq_iff_eq.mpr c24
         have c24b1 : (x7_1 != t168) = false:=bne_eq_false_iff_eq.mpr c24
         clear c24
         have H':=Aside0.mk H
         clear H
         have hcz25_0 : wr.cell? ⟨gb169,0,none⟩ = some (.int .i64 t167):=(blk_cell BK169.out 0).trans rfl
         have hcz25_1 : wr.cell? ⟨gb169,1,none⟩ = some (.int .i64 t168):=(blk_cell BK169.out 1).trans rfl
         have hfz25_0:=blk_frozen BK169.out 0
         have hfz25_1:=blk_frozen BK169.out 1
         go_wp2
         go_meet
         case rel => exact ⟨_,(true),(by first | rfl | (simp;done) | (simp [*];done)),H',⟨by have:=HK1.out;first | omega | exact Nat.le_refl _⟩,⟨by (with_reducible repeat (first | refine blk_drewN ?_ _ | refine blk_drew ?_ | refine blk_alloc ?_ _));exact BK169.out⟩,⟨by repeat (first | (with_reducible first | exact HB.out | apply below_alloc | apply pw_below_drewN | apply below_drew1 | refine below_set ?_ GE169.out) | exact HB.out)⟩⟩
        ·rw [if_neg c24] at H
         have c24b0 : (x7_1 == t168) = false:=beq_eq_false_iff_ne.mpr c24
         have c24b1 : (x7_1 != t168) = true:=bne_iff_ne.mpr c24
         by_cases c26 : 0 ≤ x29_1
         ·rw [if_pos c26] at H
          have c26b0 : decide (0 ≤ x29_1) = true:=decide_eq_true c26
          clear c26
          by_cases c27 : x29_1 < (a0.size : Int)
          ·rw [if_pos c27] at H
           have c27b0 : decide (x29_1 < (a0.size : Int)) = true:=decide_eq_true c27
           clear c27
           by_cases c29 : (bt a0 x29_1) = 10
           ·rw [if_pos c29] at H
            have c29b0 : ((bt a0 x29_1) == 10) = true:=beq_iff_eq.mpr c29
            have c29b1 : ((bt a0 x29_1) != 10) = false:=bne_eq_false_iff_eq.mpr c29
            clear c29
            have H':=Aside0.mk H
            clear H
            have hcz30_0 : wr.cell? ⟨gb169,0,none⟩ = some (.int .i64 t167):=(blk_cell BK169.out 0).trans rfl
            have hcz30_1 : wr.cell? ⟨gb169,1,none⟩ = some (.int .i64 t168):=(blk_cell BK169.out 1).trans rfl
            have hfz30_0:=blk_frozen BK169.out 0
            have hfz30_1:=blk_frozen BK169.out 1
            have p28 : 0 ≤ (x29_1 : Int):=of_decide_eq_true (by first | (with_reducible assumption) | assumption)
            have q28 : x29_1 < (a0.size : Int):=of_decide_eq_true (by first | (with_reducible assumption) | assumption)
            have hx28:=bt_at a0 x29_1
            replace p28:=eq_true p28
            replace q28:=eq_true q28
            go_wp2
            go_meet
            case rel => exact ⟨_,(decide (x7_1 ≥ t168)),(by first | rfl | (simp;done) | (simp [*];done)),H',⟨by have:=HK1.out;first | omega | exact Nat.le_refl _⟩,⟨by (with_reducible repeat (first | refine blk_drewN ?_ _ | refine blk_drew ?_ | refine blk_alloc ?_ _));exact BK169.out⟩,⟨by repeat (first | (with_reducible first | exact HB.out | apply below_alloc | apply pw_below_drewN | apply below_drew1 | refine below_set ?_ GE169.out) | exact HB.out)⟩⟩
           ·rw [if_neg c29] at H
            have c29b0 : ((bt a0 x29_1) == 10) = false:=beq_eq_false_iff_ne.mpr c29
            have c29b1 : ((bt a0 x29_1) != 10) = true:=bne_iff_ne.mpr c29
            have H':=Aside0.mk H
            clear H
            have hcz31_0 : wr.cell? ⟨gb169,0,none⟩ = some (.int .i64 t167):=(blk_cell BK169.out 0).trans rfl
            have hcz31_1 : wr.cell? ⟨gb169,1,none⟩ = some (.int .i64 t168):=(blk_cell BK169.out 1).trans rfl
            have hfz31_0:=blk_frozen BK169.out 0
            have hfz31_1:=blk_frozen BK169.out 1
            have p28 : 0 ≤ (x29_1 : Int):=of_decide_eq_true (by first | (with_reducible assumption) | assumption)
            have q28 : x29_1 < (a0.size : Int):=of_decide_eq_true (by first | (with_reducible assumption) | assumption)
            have hx28:=bt_at a0 x29_1
            replace p28:=eq_true p28
            replace q28:=eq_true q28
            go_wp2
            go_meet
            case rel => exact ⟨_,(false),(by first | rfl | (simp;done) | (simp [*];done)),H',⟨by have:=HK1.out;first | omega | exact Nat.le_refl _⟩,⟨by (with_reducible repeat (first | refine blk_drewN ?_ _ | refine blk_drew ?_ | refine blk_alloc ?_ _));exact BK169.out⟩,⟨by repeat (first | (with_reducible first | exact HB.out | apply below_alloc | apply pw_below_drewN | apply below_drew1 | refine below_set ?_ GE169.out) | exact HB.out)⟩⟩
          ·rw [if_neg c27] at H
           exact absurd H (by simp)
         ·rw [if_neg c26] at H
          exact absurd H (by simp)
       ·rw [if_neg c23] at H
        have c23b0 : (x6_1 == t167) = false:=beq_eq_false_iff_ne.mpr c23
        have c23b1 : (x6_1 != t167) = true:=bne_iff_ne.mpr c23
        (first | rw [c23b0] | (simp only [i64_w,i32_w];rw [c23b0]) | skip)
        have H':=Aside0.mk H
        clear H
        have hcz32_0 : wr.cell? ⟨gb169,0,none⟩ = some (.int .i64 t167):=(blk_cell BK169.out 0).trans rfl
        have hcz32_1 : wr.cell? ⟨gb169,1,none⟩ = some (.int .i64 t168):=(blk_cell BK169.out 1).trans rfl
        have hfz32_0:=blk_frozen BK169.out 0
        have hfz32_1:=blk_frozen BK169.out 1
        go_wp2
        go_meet
        case rel => exact ⟨_,(false),(by first | rfl | (simp;done) | (simp [*];done)),H',⟨by have:=HK1.out;first | omega | exact Nat.le_refl _⟩,⟨by (with_reducible repeat (first | refine blk_drewN ?_ _ | refine blk_drew ?_ | refine blk_alloc ?_ _));exact BK169.out⟩,⟨by repeat (first | (with_reducible first | exact HB.out | apply below_alloc | apply pw_below_drewN | apply below_drew1 | refine below_set ?_ GE169.out) | exact HB.out)⟩⟩
      case rest =>
       clear HC22
       try clear c2
       try clear c2b0
       try clear c2b1
       try clear p2
       try clear q2
       try clear hx2
       try clear c3
       try clear c6
       try clear c6b0
       try clear c6b1
       try clear c7
       try clear c8
       try clear c21
       try clear c21b0
       try clear c23
       try clear c23b0
       try clear c23b1
       try clear c24
       try clear c24b0
       try clear c24b1
       try clear c26
       try clear c26b0
       try clear c27
       try clear c27b0
       try clear p28
       try clear q28
       try clear hx28
       try clear c29
       try clear c29b0
       try clear c29b1
       try clear hcz11_0
       try clear hcz11_1
       try clear hcz13_0
       try clear hcz13_1
       try clear hcz16_0
       try clear hcz16_1
       try clear hcz20_0
       try clear hcz20_1
       try clear hcz25_0
       try clear hcz25_1
       try clear hcz30_0
       try clear hcz30_1
       try clear hcz31_0
       try clear hcz31_1
       try clear hcz32_0
       try clear hcz32_1
       try clear hfz11_0
       try clear hfz11_1
       try clear hfz13_0
       try clear hfz13_1
       try clear hfz16_0
       try clear hfz16_1
       try clear hfz20_0
       try clear hfz20_1
       try clear hfz25_0
       try clear hfz25_1
       try clear hfz30_0
       try clear hfz30_1
       try clear hfz31_0
       try clear hfz31_1
       try clear hfz32_0
       try clear hfz32_1
       try clear p2
       try clear p28
       try clear q28
       obtain ⟨kq,x53_21,rfl,HA,HJ21,BK169,HB⟩:=hcut
       cases kq with
       | zero => exact absurd HA.out (by simp [tachographlaw10_SigtextPlaces.j1])
       | succ kj21 =>
        have H:=HA.out
        clear HA
        simp only [tachographlaw10_SigtextPlaces.j1] at H
        by_cases c33 : x53_21 = true
        ·subst c33
         have H1 : ((tachographlaw10_fixed.f kj21).bind fun t172 => (if t172 = true then (some (decide (t168 ≥ 1))) else (some false))) = some r:=by rw [if_pos rfl] at H;exact H
         clear H
         have H:=H1
         clear H1
         replace H:=Option.bind_eq_some_iff.mp H
         obtain ⟨t172,A340,H⟩:=H
         replace H : (if t172 = true then (some (decide (t168 ≥ 1))) else (some false)) = some r:=H
         have A34:=Aside0.mk A340
         clear A340
         by_cases c35 : t172 = true
         ·subst c35
          have H1 : (some (decide (t168 ≥ 1))) = some r:=by rw [if_pos rfl] at H;exact H
          clear H
          have H:=H1
          clear H1
          obtain rfl:=Option.some.inj H
          go_wp2_with (first | ((with_reducible refine gate_callee (f:=6) rfl ?_);refine goesL_ (some 54) rfl rfl Tryd.func6 (by kernel_rfl) rfl #[] rfl (by (try simp only [List.map_toArray,List.map_cons,List.map_nil]);first | done | rfl | (simp only [List.length_drop,List.length_take];rfl)) ?_;(with_reducible refine (tachographlaw10_fixed.calls kj21  true _ A34.out (HG.out.below (by repeat (first | (with_reducible first | exact HB.out | apply below_alloc | apply pw_below_drewN | apply below_drew1 | refine below_set ?_ GE169.out) | exact HB.out)))).mono ?_);rintro e w36 ⟨rfl,hb⟩;refine ⟨_,rfl,?_⟩;have n0_:=Aside0.mk (blk_below (g:=gb169) (o:=.cells #[.int .i64 t167,.int .i64 t168] 26 (0,0)) (by (with_reducible repeat (first | refine blk_drewN ?_ _ | refine blk_drew ?_ | refine blk_alloc ?_ _));exact BK169.out) hb);have n1_:=Aside0.mk (below_step (by repeat (first | (with_reducible first | exact HB.out | apply below_alloc | apply pw_below_drewN | apply below_drew1 | refine below_set ?_ GE169.out) | exact HB.out)) hb);clear BK169;clear HB;have BK169:=n0_;have HB:=n1_;clear n0_ n1_;(try clear hb);(try clear hb2);(try clear hk);(try clear hi);have hcz37_0 : w36.cell? ⟨gb169,0,none⟩ = some (.int .i64 t167):=(blk_cell BK169.out 0).trans rfl;have hcz37_1 : w36.cell? ⟨gb169,1,none⟩ = some (.int .i64 t168):=(blk_cell BK169.out 1).trans rfl;have hfz37_0:=blk_frozen BK169.out 0;have hfz37_1:=blk_frozen BK169.out 1))
          go_ret
          exact ⟨by first | rfl | (simp [errW_none,errW_some] <;> rfl) | (simp [*,errW_none,errW_some] <;> rfl),by repeat (first | (with_reducible first | exact HB.out | apply below_alloc | apply pw_below_drewN | apply below_drew1 | refine below_set ?_ GE169.out) | exact HB.out)⟩
         ·replace c35:=Bool.eq_false_iff.mpr c35
          subst c35
          have H1 : (some false) = some r:=by rw [if_neg (show ¬ (false = true) by decide)] at H;exact H
          clear H
          have H:=H1
          clear H1
          obtain rfl:=Option.some.inj H
          go_wp2_with (first | ((with_reducible refine gate_callee (f:=6) rfl ?_);refine goesL_ (some 54) rfl rfl Tryd.func6 (by kernel_rfl) rfl #[] rfl (by (try simp only [List.map_toArray,List.map_cons,List.map_nil]);first | done | rfl | (simp only [List.length_drop,List.length_take];rfl)) ?_;(with_reducible refine (tachographlaw10_fixed.calls kj21  false _ A34.out (HG.out.below (by repeat (first | (with_reducible first | exact HB.out | apply below_alloc | apply pw_below_drewN | apply below_drew1 | refine below_set ?_ GE169.out) | exact HB.out)))).mono ?_);rintro e w38 ⟨rfl,hb⟩;refine ⟨_,rfl,?_⟩;have n0_:=Aside0.mk (blk_below (g:=gb169) (o:=.cells #[.int .i64 t167,.int .i64 t168] 26 (0,0)) (by (with_reducible repeat (first | refine blk_drewN ?_ _ | refine blk_drew ?_ | refine blk_alloc ?_ _));exact BK169.out) hb);have n1_:=Aside0.mk (below_step (by repeat (first | (with_reducible first | exact HB.out | apply below_alloc | apply pw_below_drewN | apply below_drew1 | refine below_set ?_ GE169.out) | exact HB.out)) hb);clear BK169;clear HB;have BK169:=n0_;have HB:=n1_;clear n0_ n1_;(try clear hb);(try clear hb2);(try clear hk);(try clear hi)))
          go_ret
          exact ⟨by first | rfl | (simp [errW_none,errW_some] <;> rfl) | (simp [*,errW_none,errW_some] <;> rfl),by repeat (first | (with_reducible first | exact HB.out | apply below_alloc | apply pw_below_drewN | apply below_drew1 | refine below_set ?_ GE169.out) | exact HB.out)⟩
        ·replace c33:=Bool.eq_false_iff.mpr c33
         subst c33
         have H1 : (if 0 ≤ x29_1 then (if x29_1 < (a0.size : Int) then (if (bt a0 x29_1) = 10 then (tachographlaw10_SigtextPlaces.l0 kj21 a0 (wrap64 (x6_1 + 1)) 1 (a0.size : Int) (wrap64 (x29_1 + 1)) t167 t168) else (tachographlaw10_SigtextPlaces.l0 kj21 a0 x6_1 (wrap64 (x7_1 + 1)) (a0.size : Int) (wrap64 (x29_1 + 1)) t167 t168)) else (none)) else (none)) = some r:=by rw [if_neg (show ¬ (false = true) by decide)] at H;exact H
         clear H
         have H:=H1
         clear H1
         by_cases c39 : 0 ≤ x29_1
         ·rw [if_pos c39] at H
          have c39b0 : decide (0 ≤ x29_1) = true:=decide_eq_true c39
          clear c39
          by_cases c40 : x29_1 < (a0.size : Int)
          ·rw [if_pos c40] at H
           have c40b0 : decide (x29_1 < (a0.size : Int)) = true:=decide_eq_true c40
           clear c40
           by_cases c42 : (bt a0 x29_1) = 10
           ·rw [if_pos c42] at H
            have c42b0 : ((bt a0 x29_1) == 10) = true:=beq_iff_eq.mpr c42
            have c42b1 : ((bt a0 x29_1) != 10) = false:=bne_eq_false_iff_eq.mpr c42
            clear c42
            have H':=Aside0.mk H
            clear H
            have p41 : 0 ≤ (x29_1 : Int):=of_decide_eq_true (by first | (with_reducible assumption) | assumption)
            have q41 : x29_1 < (a0.size : Int):=of_decide_eq_true (by first | (with_reducible assumption) | assumption)
            have hx41:=bt_at a0 x29_1
            replace p41:=eq_true p41
            replace q41:=eq_true q41
            go_wp2
            go_roundg kj21
            case measure => have:=HK1.out;have:=HJ21.out;omega
            case rel => exact ⟨(wrap64 (x6_1 + 1)),(1),(wrap64 (x29_1 + 1)),(by first | rfl | (simp;done) | (simp [*];done)),(by first | rfl | (simp;done) | (simp [*];done)),(by first | rfl | (simp;done) | (simp [*];done)),H',⟨by have:=HK1.out;have:=HJ21.out;omega⟩,⟨by (with_reducible repeat (first | refine blk_drewN ?_ _ | refine blk_drew ?_ | refine blk_alloc ?_ _));exact BK169.out⟩,⟨by repeat (first | (with_reducible first | exact HB.out | apply below_alloc | apply pw_below_drewN | apply below_drew1 | refine below_set ?_ GE169.out) | exact HB.out)⟩⟩
           ·rw [if_neg c42] at H
            have c42b0 : ((bt a0 x29_1) == 10) = false:=beq_eq_false_iff_ne.mpr c42
            have c42b1 : ((bt a0 x29_1) != 10) = true:=bne_iff_ne.mpr c42
            have H':=Aside0.mk H
            clear H
            have p41 : 0 ≤ (x29_1 : Int):=of_decide_eq_true (by first | (with_reducible assumption) | assumption)
            have q41 : x29_1 < (a0.size : Int):=of_decide_eq_true (by first | (with_reducible assumption) | assumption)
            have hx41:=bt_at a0 x29_1
            replace p41:=eq_true p41
            replace q41:=eq_true q41
            go_wp2
            go_roundg kj21
            case measure => have:=HK1.out;have:=HJ21.out;omega
            case rel => exact ⟨(x6_1),(wrap64 (x7_1 + 1)),(wrap64 (x29_1 + 1)),(by first | rfl | (simp;done) | (simp [*];done)),(by first | rfl | (simp;done) | (simp [*];done)),(by first | rfl | (simp;done) | (simp [*];done)),H',⟨by have:=HK1.out;have:=HJ21.out;omega⟩,⟨by (with_reducible repeat (first | refine blk_drewN ?_ _ | refine blk_drew ?_ | refine blk_alloc ?_ _));exact BK169.out⟩,⟨by repeat (first | (with_reducible first | exact HB.out | apply below_alloc | apply pw_below_drewN | apply below_drew1 | refine below_set ?_ GE169.out) | exact HB.out)⟩⟩
          ·rw [if_neg c40] at H
           exact absurd H (by simp)
         ·rw [if_neg c39] at H
          exact absurd H (by simp)
     ·rw [if_neg c21] at H
      have c21b0 : decide (x29_1 < (a0.size : Int)) = false:=decide_eq_false c21
      clear c21
      replace H:=Option.bind_eq_some_iff.mp H
      obtain ⟨t171,A430,H⟩:=H
      replace H : (if t171 = true then (if x6_1 = t167 then (if x7_1 ≥ t168 then (some (decide (t168 ≥ 1))) else (some false)) else (some false)) else (some false)) = some r:=H
      have A43:=Aside0.mk A430
      clear A430
      by_cases c44 : t171 = true
      ·subst c44
       have H1 : (if x6_1 = t167 then (if x7_1 ≥ t168 then (some (decide (t168 ≥ 1))) else (some false)) else (some false)) = some r:=by rw [if_pos rfl] at H;exact H
       clear H
       have H:=H1
       clear H1
       by_cases c45 : x6_1 = t167
       ·rw [if_pos c45] at H
        have c45b0 : (x6_1 == t167) = true:=beq_iff_eq.mpr c45
        have c45b1 : (x6_1 != t167) = false:=bne_eq_false_iff_eq.mpr c45
        clear c45
        by_cases c46 : x7_1 ≥ t168
        ·rw [if_pos c46] at H
         have c46b0 : decide (t168 ≤ x7_1) = true:=decide_eq_true c46
         clear c46
         obtain rfl:=Option.some.inj H
         go_wp2_with (first | ((with_reducible refine gate_callee (f:=6) rfl ?_);refine goesL_ (some 69) rfl rfl Tryd.func6 (by kernel_rfl) rfl #[] rfl (by (try simp only [List.map_toArray,List.map_cons,List.map_nil]);first | done | rfl | (simp only [List.length_drop,List.length_take];rfl)) ?_;(with_reducible refine (tachographlaw10_fixed.calls k1  true _ A43.out (HG.out.below (by repeat (first | (with_reducible first | exact HB.out | apply below_alloc | apply pw_below_drewN | apply below_drew1 | refine below_set ?_ GE169.out) | exact HB.out)))).mono ?_);rintro e w47 ⟨rfl,hb⟩;refine ⟨_,rfl,?_⟩;have n0_:=Aside0.mk (blk_below (g:=gb169) (o:=.cells #[.int .i64 t167,.int .i64 t168] 26 (0,0)) (by (with_reducible repeat (first | refine blk_drewN ?_ _ | refine blk_drew ?_ | refine blk_alloc ?_ _));exact BK169.out) hb);have n1_:=Aside0.mk (below_step (by repeat (first | (with_reducible first | exact HB.out | apply below_alloc | apply pw_below_drewN | apply below_drew1 | refine below_set ?_ GE169.out) | exact HB.out)) hb);clear BK169;clear HB;have BK169:=n0_;have HB:=n1_;clear n0_ n1_;(try clear hb);(try clear hb2);(try clear hk);(try clear hi);have hcz48_0 : w47.cell? ⟨gb169,0,none⟩ = some (.int .i64 t167):=(blk_cell BK169.out 0).trans rfl;have hcz48_1 : w47.cell? ⟨gb169,1,none⟩ = some (.int .i64 t168):=(blk_cell BK169.out 1).trans rfl;have hfz48_0:=blk_frozen BK169.out 0;have hfz48_1:=blk_frozen BK169.out 1))
         go_ret
         exact ⟨by first | rfl | (simp [errW_none,errW_some] <;> rfl) | (simp [*,errW_none,errW_some] <;> rfl),by repeat (first | (with_reducible first | exact HB.out | apply below_alloc | apply pw_below_drewN | apply below_drew1 | refine below_set ?_ GE169.out) | exact HB.out)⟩
        ·rw [if_neg c46] at H
         have c46b0 : decide (t168 ≤ x7_1) = false:=decide_eq_false c46
         clear c46
         obtain rfl:=Option.some.inj H
         go_wp2_with (first | ((with_reducible refine gate_callee (f:=6) rfl ?_);refine goesL_ (some 69) rfl rfl Tryd.func6 (by kernel_rfl) rfl #[] rfl (by (try simp only [List.map_toArray,List.map_cons,List.map_nil]);first | done | rfl | (simp only [List.length_drop,List.length_take];rfl)) ?_;(with_reducible refine (tachographlaw10_fixed.calls k1  true _ A43.out (HG.out.below (by repeat (first | (with_reducible first | exact HB.out | apply below_alloc | apply pw_below_drewN | apply below_drew1 | refine below_set ?_ GE169.out) | exact HB.out)))).mono ?_);rintro e w49 ⟨rfl,hb⟩;refine ⟨_,rfl,?_⟩;have n0_:=Aside0.mk (blk_below (g:=gb169) (o:=.cells #[.int .i64 t167,.int .i64 t168] 26 (0,0)) (by (with_reducible repeat (first | refine blk_drewN ?_ _ | refine blk_drew ?_ | refine blk_alloc ?_ _));exact BK169.out) hb);have n1_:=Aside0.mk (below_step (by repeat (first | (with_reducible first | exact HB.out | apply below_alloc | apply pw_below_drewN | apply below_drew1 | refine below_set ?_ GE169.out) | exact HB.out)) hb);clear BK169;clear HB;have BK169:=n0_;have HB:=n1_;clear n0_ n1_;(try clear hb);(try clear hb2);(try clear hk);(try clear hi);have hcz50_0 : w49.cell? ⟨gb169,0,none⟩ = some (.int .i64 t167):=(blk_cell BK169.out 0).trans rfl;have hcz50_1 : w49.cell? ⟨gb169,1,none⟩ = some (.int .i64 t168):=(blk_cell BK169.out 1).trans rfl;have hfz50_0:=blk_frozen BK169.out 0;have hfz50_1:=blk_frozen BK169.out 1))
         go_ret
         exact ⟨by first | rfl | (simp [errW_none,errW_some] <;> rfl) | (simp [*,errW_none,errW_some] <;> rfl),by repeat (first | (with_reducible first | exact HB.out | apply below_alloc | apply pw_below_drewN | apply below_drew1 | refine below_set ?_ GE169.out) | exact HB.out)⟩
       ·rw [if_neg c45] at H
        have c45b0 : (x6_1 == t167) = false:=beq_eq_false_iff_ne.mpr c45
        have c45b1 : (x6_1 != t167) = true:=bne_iff_ne.mpr c45
        obtain rfl:=Option.some.inj H
        go_wp2_with (first | ((with_reducible refine gate_callee (f:=6) rfl ?_);refine goesL_ (some 69) rfl rfl Tryd.func6 (by kernel_rfl) rfl #[] rfl (by (try simp only [List.map_toArray,List.map_cons,List.map_nil]);first | done | rfl | (simp only [List.length_drop,List.length_take];rfl)) ?_;(with_reducible refine (tachographlaw10_fixed.calls k1  true _ A43.out (HG.out.below (by repeat (first | (with_reducible first | exact HB.out | apply below_alloc | apply pw_below_drewN | apply below_drew1 | refine below_set ?_ GE169.out) | exact HB.out)))).mono ?_);rintro e w51 ⟨rfl,hb⟩;refine ⟨_,rfl,?_⟩;have n0_:=Aside0.mk (blk_below (g:=gb169) (o:=.cells #[.int .i64 t167,.int .i64 t168] 26 (0,0)) (by (with_reducible repeat (first | refine blk_drewN ?_ _ | refine blk_drew ?_ | refine blk_alloc ?_ _));exact BK169.out) hb);have n1_:=Aside0.mk (below_step (by repeat (first | (with_reducible first | exact HB.out | apply below_alloc | apply pw_below_drewN | apply below_drew1 | refine below_set ?_ GE169.out) | exact HB.out)) hb);clear BK169;clear HB;have BK169:=n0_;have HB:=n1_;clear n0_ n1_;(try clear hb);(try clear hb2);(try clear hk);(try clear hi);have hcz52_0 : w51.cell? ⟨gb169,0,none⟩ = some (.int .i64 t167):=(blk_cell BK169.out 0).trans rfl;have hcz52_1 : w51.cell? ⟨gb169,1,none⟩ = some (.int .i64 t168):=(blk_cell BK169.out 1).trans rfl;have hfz52_0:=blk_frozen BK169.out 0;have hfz52_1:=blk_frozen BK169.out 1))
        go_ret
        exact ⟨by first | rfl | (simp [errW_none,errW_some] <;> rfl) | (simp [*,errW_none,errW_some] <;> rfl),by repeat (first | (with_reducible first | exact HB.out | apply below_alloc | apply pw_below_drewN | apply below_drew1 | refine below_set ?_ GE169.out) | exact HB.out)⟩
      ·replace c44:=Bool.eq_false_iff.mpr c44
       subst c44
       have H1 : (some false) = some r:=by rw [if_neg (show ¬ (false = true) by decide)] at H;exact H
       clear H
       have H:=H1
       clear H1
       obtain rfl:=Option.some.inj H
       go_wp2_with (first | ((with_reducible refine gate_callee (f:=6) rfl ?_);refine goesL_ (some 69) rfl rfl Tryd.func6 (by kernel_rfl) rfl #[] rfl (by (try simp only [List.map_toArray,List.map_cons,List.map_nil]);first | done | rfl | (simp only [List.length_drop,List.length_take];rfl)) ?_;(with_reducible refine (tachographlaw10_fixed.calls k1  false _ A43.out (HG.out.below (by repeat (first | (with_reducible first | exact HB.out | apply below_alloc | apply pw_below_drewN | apply below_drew1 | refine below_set ?_ GE169.out) | exact HB.out)))).mono ?_);rintro e w53 ⟨rfl,hb⟩;refine ⟨_,rfl,?_⟩;have n0_:=Aside0.mk (blk_below (g:=gb169) (o:=.cells #[.int .i64 t167,.int .i64 t168] 26 (0,0)) (by (with_reducible repeat (first | refine blk_drewN ?_ _ | refine blk_drew ?_ | refine blk_alloc ?_ _));exact BK169.out) hb);have n1_:=Aside0.mk (below_step (by repeat (first | (with_reducible first | exact HB.out | apply below_alloc | apply pw_below_drewN | apply below_drew1 | refine below_set ?_ GE169.out) | exact HB.out)) hb);clear BK169;clear HB;have BK169:=n0_;have HB:=n1_;clear n0_ n1_;(try clear hb);(try clear hb2);(try clear hk);(try clear hi)))
       go_ret
       exact ⟨by first | rfl | (simp [errW_none,errW_some] <;> rfl) | (simp [*,errW_none,errW_some] <;> rfl),by repeat (first | (with_reducible first | exact HB.out | apply below_alloc | apply pw_below_drewN | apply below_drew1 | refine below_set ?_ GE169.out) | exact HB.out)⟩

/-- THE ONE PURE STATEMENT of tachographlaw10_SigtextPlaces: yours. -/
def tachographlaw10_SigtextPlaces.Pure : Prop:=∀ (a0 : ByteArray),a0.size ≤ 140737488351232 → ∃ k,tachographlaw10_SigtextPlaces.f k a0 = some true
theorem tachographlaw10_SigtextPlaces.walk (P : tachographlaw10_SigtextPlaces.Pure) (a0 : ByteArray) (w : World) (hg : Go.Proofs.YtmmfakdncjeoeacDoorAid.Glob w) (w0 : a0.size ≤ 140737488351232) :
  Calls Tryd.prog 3 #[.string a0] w fun e w' => e = .returned (.bool true) ∧ Below w.heap.size w w':=by
 obtain ⟨k,h⟩:=P a0 w0
 refine (tachographlaw10_SigtextPlaces.calls k a0 true w h hg).mono ?_
 rintro e w' ⟨rfl,hd⟩
 exact ⟨rfl,hd⟩

/-! ### tachographref10_Line: function 15 -/
def tachographref10_Line.l0 : Nat → ByteArray → Int → ByteArray → List Int → Option (ByteArray)
 | 0, _, _, _, _ => none
 | k + 1, x3, x4, x174000, x174001 => if x4 < (x174001.length : Int) then (if x4 > 0 then (if x3.size + 1 ≤ 9223372036854775807 then (if 0 ≤ x4 then (if (rd x174001 x4) = 1 then (if (x3 ++ (⟨#[44]⟩ : ByteArray)).size + 3 ≤ 9223372036854775807 then (tachographref10_Line.l0 k ((x3 ++ (⟨#[44]⟩ : ByteArray)) ++ (⟨#[105, 110, 116]⟩ : ByteArray)) (wrap64 (x4 + 1)) x174000 x174001) else (none)) else (if (x3 ++ (⟨#[44]⟩ : ByteArray)).size + 6 ≤ 9223372036854775807 then (tachographref10_Line.l0 k ((x3 ++ (⟨#[44]⟩ : ByteArray)) ++ (⟨#[115, 116, 114, 105, 110, 103]⟩ : ByteArray)) (wrap64 (x4 + 1)) x174000 x174001) else (none))) else (none)) else (none)) else (if 0 ≤ x4 then (if (rd x174001 x4) = 1 then (if x3.size + 3 ≤ 9223372036854775807 then (tachographref10_Line.l0 k (x3 ++ (⟨#[105, 110, 116]⟩ : ByteArray)) (wrap64 (x4 + 1)) x174000 x174001) else (none)) else (if x3.size + 6 ≤ 9223372036854775807 then (tachographref10_Line.l0 k (x3 ++ (⟨#[115, 116, 114, 105, 110, 103]⟩ : ByteArray)) (wrap64 (x4 + 1)) x174000 x174001) else (none))) else (none))) else (if x3.size + 1 ≤ 9223372036854775807 then (some (x3 ++ (⟨#[41]⟩ : ByteArray))) else (none))
def tachographref10_Line.f (k : Nat) (a0_0 : ByteArray) (l0_1 : List Int) : Option (ByteArray) := if a0_0.size + 1 ≤ 9223372036854775807 then (tachographref10_Line.l0 k (a0_0 ++ (⟨#[40]⟩ : ByteArray)) 0 a0_0 l0_1) else (none)
theorem tachographref10_Line.mono_l : ∀ k, (∀ y0 y1 y2 y3, LeO (tachographref10_Line.l0 k y0 y1 y2 y3) (tachographref10_Line.l0 (k + 1) y0 y1 y2 y3))
 | 0 => fun _ _ _ _ r h => by simp [tachographref10_Line.l0] at h
 | k + 1 => by
  have ih0 := tachographref10_Line.mono_l k
  ·intro y0 y1 y2 y3
   unfold tachographref10_Line.l0
   repeat' first
   | (with_reducible exact ih0 _ _ _ _)
   | (with_reducible exact LeO.refl _)
   | (with_reducible exact LeO.none _)
   | (with_reducible refine LeO.ite ?_ ?_)
   | (with_reducible refine LeO.bind ?_ (fun _ => ?_))
   | exact ih0 _ _ _ _
   | exact LeO.none _
   | refine LeO.ite ?_ ?_
   | refine LeO.bind ?_ (fun _ => ?_)
theorem tachographref10_Line.mono : ∀ a0 a1 k, LeO (tachographref10_Line.f k a0 a1) (tachographref10_Line.f (k + 1) a0 a1) := by
 intro a0 a1 k
 have ih0 := tachographref10_Line.mono_l k
 unfold tachographref10_Line.f
 repeat' first
   | (with_reducible exact ih0 _ _ _ _)
   | (with_reducible exact LeO.refl _)
   | (with_reducible exact LeO.none _)
   | (with_reducible refine LeO.ite ?_ ?_)
   | (with_reducible refine LeO.bind ?_ (fun _ => ?_))
   | exact ih0 _ _ _ _
   | exact LeO.none _
   | refine LeO.ite ?_ ?_
   | refine LeO.bind ?_ (fun _ => ?_)
set_option maxHeartbeats 8000000 in
set_option maxRecDepth 100000 in
theorem tachographref10_Line.calls (k : Nat) (a0_0 : ByteArray) (A0_1 : Option Addr) (c0_1 : Nat) (l0_1 : List Int) (r : ByteArray) (w : World) (hr0_1 : Kd.C (Kd.int .i64) w A0_1 l0_1.length l0_1) (hc0_1 : l0_1.length ≤ c0_1) (h : tachographref10_Line.f k a0_0 l0_1 = some r) :
  Calls Tryd.prog 15 #[.agg #[.string a0_0,.slice A0_1 l0_1.length c0_1]] w fun e w' => e = .returned (.string r) ∧ Below w.heap.size w w':=by
 have hu41:=Tryd.underlying41
 have HR0_1:=Aside0.mk hr0_1
 have HC0_1:=Aside0.mk hc0_1
 clear hr0_1 hc0_1
 have HB:=Aside0.mk (Below.refl w.heap.size w)
 have H : (if a0_0.size + 1 ≤ 9223372036854775807 then (tachographref10_Line.l0 k (a0_0 ++ (⟨#[40]⟩ : ByteArray)) 0 a0_0 l0_1) else (none)) = some r:=h
 clear h
 by_cases c2 : a0_0.size + 1 ≤ 9223372036854775807
 ·rw [if_pos c2] at H
  have c2b0:=eq_true c2
  have c2b1 : decide (a0_0.size + 1 ≤ 9223372036854775807) = true:=decide_eq_true c2
  try have c2b2 : (9223372036854775807 < a0_0.size + 1) = False:=eq_false (Nat.not_lt.2 c2)
  have H':=Aside0.mk H
  clear H
  go_enter Tryd.func15,Tryd.ntmps15
  go_wp2_with (first | ((with_reducible refine gate_dst (N:=1) rfl ?_);refine box_event ?hg (N:=1) ?hd (cs:=#[.string a0_0,.slice A0_1 l0_1.length c0_1]) (t:=41) ?hr ?_;(case hd => rfl);(case hg => rfl);(case hr => first | (go_simp;done) | (go_simp;rfl));intro gb173 hg w3 hbox hb;have n0_:=Aside0.mk (below_step (by repeat (first | (with_reducible first | exact HB.out | apply below_alloc | apply pw_below_drewN | apply below_drew1) | exact HB.out)) hb);have n1_:=Aside0.mk (hbox);have n2_:=Aside0.mk ((by rw [hg];exact (below_size (by repeat (first | (with_reducible first | exact HB.out | apply below_alloc | apply pw_below_drewN | apply below_drew1) | exact HB.out))) : w.heap.size ≤ gb173));have n3_:=Aside0.mk ((by rw [hg];exact (below_size (by repeat (first | (with_reducible first | exact HB.out | apply below_alloc | apply pw_below_drewN | apply below_drew1) | exact HB.out))) : w.heap.size ≤ gb173));clear HB;have HB:=n0_;have BK173:=n1_;have GW173:=n2_;have GE173:=n3_;clear n0_ n1_ n2_ n3_;clear hb hbox hg;have hcz4_0 : w3.cell? ⟨gb173,0,none⟩ = some (.string a0_0):=(blk_cell BK173.out 0).trans rfl;have hcz4_1 : w3.cell? ⟨gb173,1,none⟩ = some (.slice A0_1 l0_1.length c0_1):=(blk_cell BK173.out 1).trans rfl;have hfz4_0:=blk_frozen BK173.out 0;have hfz4_1:=blk_frozen BK173.out 1))
  go_loopg [3,4] k (fun kq v3 v4 w' => ∃ (x3_1 : ByteArray) (x4_1 : Int),v3 = .string x3_1 ∧ v4 = .int .i64 x4_1 ∧ Aside0 (tachographref10_Line.l0 kq x3_1 x4_1 a0_0 l0_1 = some r) ∧ Aside0 (kq ≤ k) ∧ Aside0 (w'.heap[gb173]? = some (.cells #[.string a0_0,(.slice A0_1 l0_1.length c0_1)] 41 (0,0))) ∧ Aside0 (Below w.heap.size w w'))
  case atStart => exact ⟨(a0_0 ++ (⟨#[40]⟩ : ByteArray)),(0),(by first | rfl | (simp;done) | (simp [*];done)),(by first | rfl | (simp;done) | (simp [*];done)),H',⟨Nat.le_refl _⟩,⟨by (with_reducible repeat (first | refine blk_drewN ?_ _ | refine blk_drew ?_ | refine blk_alloc ?_ _));exact BK173.out⟩,⟨by repeat (first | (with_reducible first | exact HB.out | apply below_alloc | apply pw_below_drewN | apply below_drew1 | refine below_set ?_ GE173.out) | exact HB.out)⟩⟩
  case round =>
   clear H'
   try clear c1
   try clear c2
   try clear c2b0
   try clear c2b1
   try clear c2b2
   try clear p2
   try clear hcz4_0
   try clear hcz4_1
   try clear hfz4_0
   try clear hfz4_1
   obtain ⟨x3_1,x4_1,rfl,rfl,HA,HK1,BK173,HB⟩:=hrel
   cases gk with
   | zero => exact absurd HA.out (by simp [tachographref10_Line.l0])
   | succ k1 =>
    have H:=HA.out
    clear HA
    simp only [tachographref10_Line.l0] at H
    by_cases c5 : x4_1 < (l0_1.length : Int)
    ·rw [if_pos c5] at H
     have c5b0 : decide (x4_1 < (l0_1.length : Int)) = true:=decide_eq_true c5
     clear c5
     by_cases c6 : x4_1 > 0
     ·rw [if_pos c6] at H
      have c6b0 : decide (0 < x4_1) = true:=decide_eq_true c6
      clear c6
      by_cases c7 : x3_1.size + 1 ≤ 9223372036854775807
      ·rw [if_pos c7] at H
       have c7b0:=eq_true c7
       have c7b1 : decide (x3_1.size + 1 ≤ 9223372036854775807) = true:=decide_eq_true c7
       try have c7b2 : (9223372036854775807 < x3_1.size + 1) = False:=eq_false (Nat.not_lt.2 c7)
       by_cases c8 : 0 ≤ x4_1
       ·rw [if_pos c8] at H
        have c8b0 : decide (0 ≤ x4_1) = true:=decide_eq_true c8
        clear c8
        by_cases c9 : (rd l0_1 x4_1) = 1
        ·rw [if_pos c9] at H
         have c9b0 : ((rd l0_1 x4_1) == 1) = true:=beq_iff_eq.mpr c9
         have c9b1 : ((rd l0_1 x4_1) != 1) = false:=bne_eq_false_iff_eq.mpr c9
         clear c9
         by_cases c10 : (x3_1 ++ (⟨#[44]⟩ : ByteArray)).size + 3 ≤ 9223372036854775807
         ·rw [if_pos c10] at H
          have c10b0:=eq_true c10
          have c10b1 : decide ((x3_1 ++ (⟨#[44]⟩ : ByteArray)).size + 3 ≤ 9223372036854775807) = true:=decide_eq_true c10
          try have c10b2 : (9223372036854775807 < (x3_1 ++ (⟨#[44]⟩ : ByteArray)).size + 3) = False:=eq_false (Nat.not_lt.2 c10)
          try have c10b3 : (9223372036854775807 < x3_1.size + 1 + 3) = False:=eq_false (by have h_:=c10;simp only [ByteArray.size_append] at h_;(try rw [show (⟨#[44]⟩ : ByteArray).size = 1 from rfl] at h_);omega)
          have H':=Aside0.mk H
          clear H
          have hcz11_0 : wr.cell? ⟨gb173,0,none⟩ = some (.string a0_0):=(blk_cell BK173.out 0).trans rfl
          have hcz11_1 : wr.cell? ⟨gb173,1,none⟩ = some (.slice A0_1 l0_1.length c0_1):=(blk_cell BK173.out 1).trans rfl
          have hfz11_0:=blk_frozen BK173.out 0
          have hfz11_1:=blk_frozen BK173.out 1
          have p174 : 0 ≤ (x4_1 : Int):=of_decide_eq_true (by first | (with_reducible assumption) | assumption)
          have q174 : x4_1 < (l0_1.length : Int):=of_decide_eq_true (by first | (with_reducible assumption) | assumption)
          obtain ⟨ad174,e174,hx174_0⟩:=Kd.at_int HR0_1.out x4_1 p174 q174
          cases e174
          replace hx174_0:=(HB.out.cell (World.block_lt_of_cell? w _ hx174_0)).trans hx174_0
          replace p174:=eq_true p174
          replace q174:=eq_true q174
          go_wp2
          go_roundg k1
          case measure => have:=HK1.out;omega
          case rel => exact ⟨((x3_1 ++ (⟨#[44]⟩ : ByteArray)) ++ (⟨#[105,110,116]⟩ : ByteArray)),(wrap64 (x4_1 + 1)),(by first | rfl | (simp;done) | (simp [*];done)),(by first | rfl | (simp;done) | (simp [*];done)),H',⟨by have:=HK1.out;omega⟩,⟨by (with_reducible repeat (first | refine blk_drewN ?_ _ | refine blk_drew ?_ | refine blk_alloc ?_ _));exact BK173.out⟩,⟨by repeat (first | (with_reducible first | exact HB.out | apply below_alloc | apply pw_below_drewN | apply below_drew1 | refine below_set ?_ GE173.out) | exact HB.out)⟩⟩
         ·rw [if_neg c10] at H
          exact absurd H (by simp)
        ·rw [if_neg c9] at H
         have c9b0 : ((rd l0_1 x4_1) == 1) = false:=beq_eq_false_iff_ne.mpr c9
         have c9b1 : ((rd l0_1 x4_1) != 1) = true:=bne_iff_ne.mpr c9
         by_cases c12 : (x3_1 ++ (⟨#[44]⟩ : ByteArray)).size + 6 ≤ 9223372036854775807
         ·rw [if_pos c12] at H
          have c12b0:=eq_true c12
          have c12b1 : decide ((x3_1 ++ (⟨#[44]⟩ : ByteArray)).size + 6 ≤ 9223372036854775807) = true:=decide_eq_true c12
          try have c12b2 : (9223372036854775807 < (x3_1 ++ (⟨#[44]⟩ : ByteArray)).size + 6) = False:=eq_false (Nat.not_lt.2 c12)
          try have c12b3 : (9223372036854775807 < x3_1.size + 1 + 6) = False:=eq_false (by have h_:=c12;simp only [ByteArray.size_append] at h_;(try rw [show (⟨#[44]⟩ : ByteArray).size = 1 from rfl] at h_);omega)
          have H':=Aside0.mk H
          clear H
          have hcz13_0 : wr.cell? ⟨gb173,0,none⟩ = some (.string a0_0):=(blk_cell BK173.out 0).trans rfl
          have hcz13_1 : wr.cell? ⟨gb173,1,none⟩ = some (.slice A0_1 l0_1.length c0_1):=(blk_cell BK173.out 1).trans rfl
          have hfz13_0:=blk_frozen BK173.out 0
          have hfz13_1:=blk_frozen BK173.out 1
          have p174 : 0 ≤ (x4_1 : Int):=of_decide_eq_true (by first | (with_reducible assumption) | assumption)
          have q174 : x4_1 < (l0_1.length : Int):=of_decide_eq_true (by first | (with_reducible assumption) | assumption)
          obtain ⟨ad174,e174,hx174_0⟩:=Kd.at_int HR0_1.out x4_1 p174 q174
          cases e174
          replace hx174_0:=(HB.out.cell (World.block_lt_of_cell? w _ hx174_0)).trans hx174_0
          replace p174:=eq_true p174
          replace q174:=eq_true q174
          go_wp2
          go_roundg k1
          case measure => have:=HK1.out;omega
          case rel => exact ⟨((x3_1 ++ (⟨#[44]⟩ : ByteArray)) ++ (⟨#[115,116,114,105,110,103]⟩ : ByteArray)),(wrap64 (x4_1 + 1)),(by first | rfl | (simp;done) | (simp [*];done)),(by first | rfl | (simp;done) | (simp [*];done)),H',⟨by have:=HK1.out;omega⟩,⟨by (with_reducible repeat (first | refine blk_drewN ?_ _ | refine blk_drew ?_ | refine blk_alloc ?_ _));exact BK173.out⟩,⟨by repeat (first | (with_reducible first | exact HB.out | apply below_alloc | apply pw_below_drewN | apply below_drew1 | refine below_set ?_ GE173.out) | exact HB.out)⟩⟩
         ·rw [if_neg c12] at H
          exact absurd H (by simp)
       ·rw [if_neg c8] at H
        exact absurd H (by simp)
      ·rw [if_neg c7] at H
       exact absurd H (by simp)
     ·rw [if_neg c6] at H
      have c6b0 : decide (0 < x4_1) = false:=decide_eq_false c6
      clear c6
      by_cases c14 : 0 ≤ x4_1
      ·rw [if_pos c14] at H
       have c14b0 : decide (0 ≤ x4_1) = true:=decide_eq_true c14
       clear c14
       by_cases c15 : (rd l0_1 x4_1) = 1
       ·rw [if_pos c15] at H
        have c15b0 : ((rd l0_1 x4_1) == 1) = true:=beq_iff_eq.mpr c15
        have c15b1 : ((rd l0_1 x4_1) != 1) = false:=bne_eq_false_iff_eq.mpr c15
        clear c15
        by_cases c16 : x3_1.size + 3 ≤ 9223372036854775807
        ·rw [if_pos c16] at H
         have c16b0:=eq_true c16
         have c16b1 : decide (x3_1.size + 3 ≤ 9223372036854775807) = true:=decide_eq_true c16
         try have c16b2 : (9223372036854775807 < x3_1.size + 3) = False:=eq_false (Nat.not_lt.2 c16)
         have H':=Aside0.mk H
         clear H
         have hcz17_0 : wr.cell? ⟨gb173,0,none⟩ = some (.string a0_0):=(blk_cell BK173.out 0).trans rfl
         have hcz17_1 : wr.cell? ⟨gb173,1,none⟩ = some (.slice A0_1 l0_1.length c0_1):=(blk_cell BK173.out 1).trans rfl
         have hfz17_0:=blk_frozen BK173.out 0
         have hfz17_1:=blk_frozen BK173.out 1
         have p175 : 0 ≤ (x4_1 : Int):=of_decide_eq_true (by first | (with_reducible assumption) | assumption)
         have q175 : x4_1 < (l0_1.length : Int):=of_decide_eq_true (by first | (with_reducible assumption) | assumption)
         obtain ⟨ad175,e175,hx175_0⟩:=Kd.at_int HR0_1.out x4_1 p175 q175
         cases e175
         replace hx175_0:=(HB.out.cell (World.block_lt_of_cell? w _ hx175_0)).trans hx175_0
         replace p175:=eq_true p175
         replace q175:=eq_true q175
         go_wp2
         go_roundg k1
         case measure => have:=HK1.out;omega
         case rel => exact ⟨(x3_1 ++ (⟨#[105,110,116]⟩ : ByteArray)),(wrap64 (x4_1 + 1)),(by first | rfl | (simp;done) | (simp [*];done)),(by first | rfl | (simp;done) | (simp [*];done)),H',⟨by have:=HK1.out;omega⟩,⟨by (with_reducible repeat (first | refine blk_drewN ?_ _ | refine blk_drew ?_ | refine blk_alloc ?_ _));exact BK173.out⟩,⟨by repeat (first | (with_reducible first | exact HB.out | apply below_alloc | apply pw_below_drewN | apply below_drew1 | refine below_set ?_ GE173.out) | exact HB.out)⟩⟩
        ·rw [if_neg c16] at H
         exact absurd H (by simp)
       ·rw [if_neg c15] at H
        have c15b0 : ((rd l0_1 x4_1) == 1) = false:=beq_eq_false_iff_ne.mpr c15
        have c15b1 : ((rd l0_1 x4_1) != 1) = true:=bne_iff_ne.mpr c15
        by_cases c18 : x3_1.size + 6 ≤ 9223372036854775807
        ·rw [if_pos c18] at H
         have c18b0:=eq_true c18
         have c18b1 : decide (x3_1.size + 6 ≤ 9223372036854775807) = true:=decide_eq_true c18
         try have c18b2 : (9223372036854775807 < x3_1.size + 6) = False:=eq_false (Nat.not_lt.2 c18)
         have H':=Aside0.mk H
         clear H
         have hcz19_0 : wr.cell? ⟨gb173,0,none⟩ = some (.string a0_0):=(blk_cell BK173.out 0).trans rfl
         have hcz19_1 : wr.cell? ⟨gb173,1,none⟩ = some (.slice A0_1 l0_1.length c0_1):=(blk_cell BK173.out 1).trans rfl
         have hfz19_0:=blk_frozen BK173.out 0
         have hfz19_1:=blk_frozen BK173.out 1
         have p175 : 0 ≤ (x4_1 : Int):=of_decide_eq_true (by first | (with_reducible assumption) | assumption)
         have q175 : x4_1 < (l0_1.length : Int):=of_decide_eq_true (by first | (with_reducible assumption) | assumption)
         obtain ⟨ad175,e175,hx175_0⟩:=Kd.at_int HR0_1.out x4_1 p175 q175
         cases e175
         replace hx175_0:=(HB.out.cell (World.block_lt_of_cell? w _ hx175_0)).trans hx175_0
         replace p175:=eq_true p175
         replace q175:=eq_true q175
         go_wp2
         go_roundg k1
         case measure => have:=HK1.out;omega
         case rel => exact ⟨(x3_1 ++ (⟨#[115,116,114,105,110,103]⟩ : ByteArray)),(wrap64 (x4_1 + 1)),(by first | rfl | (simp;done) | (simp [*];done)),(by first | rfl | (simp;done) | (simp [*];done)),H',⟨by have:=HK1.out;omega⟩,⟨by (with_reducible repeat (first | refine blk_drewN ?_ _ | refine blk_drew ?_ | refine blk_alloc ?_ _));exact BK173.out⟩,⟨by repeat (first | (with_reducible first | exact HB.out | apply below_alloc | apply pw_below_drewN | apply below_drew1 | refine below_set ?_ GE173.out) | exact HB.out)⟩⟩
        ·rw [if_neg c18] at H
         exact absurd H (by simp)
      ·rw [if_neg c14] at H
       exact absurd H (by simp)
    ·rw [if_neg c5] at H
     have c5b0 : decide (x4_1 < (l0_1.length : Int)) = false:=decide_eq_false c5
     clear c5
     by_cases c20 : x3_1.size + 1 ≤ 9223372036854775807
     ·rw [if_pos c20] at H
      have c20b0:=eq_true c20
      have c20b1 : decide (x3_1.size + 1 ≤ 9223372036854775807) = true:=decide_eq_true c20
      try have c20b2 : (9223372036854775807 < x3_1.size + 1) = False:=eq_false (Nat.not_lt.2 c20)
      obtain rfl:=Option.some.inj H
      have hcz21_0 : wr.cell? ⟨gb173,0,none⟩ = some (.string a0_0):=(blk_cell BK173.out 0).trans rfl
      have hcz21_1 : wr.cell? ⟨gb173,1,none⟩ = some (.slice A0_1 l0_1.length c0_1):=(blk_cell BK173.out 1).trans rfl
      have hfz21_0:=blk_frozen BK173.out 0
      have hfz21_1:=blk_frozen BK173.out 1
      go_wp2
      go_ret
      exact ⟨by first | rfl | (simp [errW_none,errW_some] <;> rfl) | (simp [*,errW_none,errW_some] <;> rfl),by repeat (first | (with_reducible first | exact HB.out | apply below_alloc | apply pw_below_drewN | apply below_drew1 | refine below_set ?_ GE173.out) | exact HB.out)⟩
     ·rw [if_neg c20] at H
      exact absurd H (by simp)
 ·rw [if_neg c2] at H
  exact absurd H (by simp)

/-! ### tachographref09_in: function 34 -/
def tachographref09_in.f (a0 : Int) (a1 : Int) (a2 : Int) : Option (Bool) := if a0 ≥ a1 then (some (decide (a0 ≤ a2))) else (some false)
set_option maxHeartbeats 8000000 in
set_option maxRecDepth 100000 in
theorem tachographref09_in.calls (a0 : Int) (a1 : Int) (a2 : Int) (r : Bool) (w : World) (h : tachographref09_in.f a0 a1 a2 = some r) :
    Calls Tryd.prog 34 #[.int .u8 a0, .int .u8 a1, .int .u8 a2] w fun e w' => e = .returned (.bool r) ∧ Drawn0 w w' := by
  have H : (if a0 ≥ a1 then (some (decide (a0 ≤ a2))) else (some false)) = some r := h
  clear h
  by_cases c4 : a0 ≥ a1
  · rw [if_pos c4] at H
    have c4b0 : decide (a1 ≤ a0) = true := decide_eq_true c4
    clear c4
    obtain rfl := Option.some.inj H
    go_enter Tryd.func34, Tryd.ntmps34
    go_wp2
    go_ret
    exact ⟨by first | rfl | (simp; done) | (simp [*]; done), by repeat (first | exact Drawn0.refl _ | apply Drawn0.step)⟩
  · rw [if_neg c4] at H
    have c4b0 : decide (a1 ≤ a0) = false := decide_eq_false c4
    clear c4
    obtain rfl := Option.some.inj H
    go_enter Tryd.func34, Tryd.ntmps34
    go_wp2
    go_ret
    exact ⟨by first | rfl | (simp; done) | (simp [*]; done), by repeat (first | exact Drawn0.refl _ | apply Drawn0.step)⟩

end Go.Proofs.YtmmfakdncjeoeacDoor.PE
