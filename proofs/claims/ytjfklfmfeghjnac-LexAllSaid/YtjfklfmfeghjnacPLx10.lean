-- Contracts of Go functions, each with its plain Lean function: written by wip/tools/myprint.py of this work (the kit's print, with contracts proved by hand spliced in).
import Derived.Test.YtjfklfmfeghjnacPLx0
import Derived.Test.YtjfklfmfeghjnacPLx1
import Derived.Test.YtjfklfmfeghjnacPLx3
import Derived.Test.YtjfklfmfeghjnacPLx5
import Derived.Test.YtjfklfmfeghjnacPLx6
import Derived.Test.YtjfklfmfeghjnacPLx7
import Derived.Test.YtjfklfmfeghjnacPLx9
namespace Go.Proofs.Ytjfklfmfeghjnac.PL
open Go.RowKit Go.Proofs.YtjfklfmfeghjnacW.PrintWords Go.Proofs.YtjfklfmfeghjnacW.PrintLast Go.Proofs.YtjfklfmfeghjnacW.PrintMore
attribute [local go_sem] max2_int min2_int max_two min_two max_three min_three max_four min_four   -- for this text's walks alone
set_option linter.unusedVariables false
set_option linter.unusedSimpArgs false

attribute [local go_sem high] eqA36
/-! ### tachographlaw21_LexAll: function 6 -/
mutual
def tachographlaw21_LexAll.j0 : Nat → List (S46) → Bool → List (S47) → Int → Int → Int → Option (Bool)
 | 0, _, _, _, _, _, _ => none
 | k + 1, x3, x59, x235000, x235001, x235002, x235003 => if x59 = true then (some false) else (tachographlaw21_LexAll.l0 k x3 (x3.length : Int) 0 x235000 x235001 x235002 x235003)
def tachographlaw21_LexAll.l0 : Nat → List (S46) → Int → Int → List (S47) → Int → Int → Int → Option (Bool)
 | 0, _, _, _, _, _, _, _ => none
 | k + 1, x3, x61, x62, x235000, x235001, x235002, x235003 => if x62 < x61 then (if 0 ≤ x62 then (if x62 < (x3.length : Int) then (if x62 < (x235000.length : Int) then (if ((rd_T46 x3 x62).f0) = ((rd_T47 x235000 x62).f0) then (if ((rd_T46 x3 x62).f1).toList = ((rd_T47 x235000 x62).f1).toList then (if (!(((rd_T46 x3 x62).f2.f0) == ((rd_T47 x235000 x62).f2.f0)) || (!(((rd_T46 x3 x62).f2.f1) == ((rd_T47 x235000 x62).f2.f1)))) = true then (some false) else (tachographlaw21_LexAll.l0 k x3 x61 (wrap64 (x62 + 1)) x235000 x235001 x235002 x235003)) else (some false)) else (some false)) else (none)) else (none)) else (none)) else ((tachographlaw21_fixed.f k).bind fun t249 => (some t249))
end
def tachographlaw21_LexAll.f (k : Nat) (a0 : ByteArray) : Option (Bool) := if (a0.size : Int) > 2000 then ((tachographlaw21_fixed.f k).bind fun t220 => (some t220)) else ((lex_Lex.f k a0).bind fun bt221 => ((tachographref21_Lex.f k a0).bind fun bt228 => (if bt221.2.1 = bt228.2.1 then (if (!(bt221.2.2.1 == bt228.2.2.1) || (!(bt221.2.2.2 == bt228.2.2.2))) = true then (tachographlaw21_LexAll.j0 k bt221.1 true bt228.1 bt228.2.1 bt228.2.2.1 bt228.2.2.2) else (if bt221.2.1 = 0 then (if (bt221.1.length : Int) = (bt228.1.length : Int) then ((lex_End.f a0).bind fun bt235 => ((tachographref21_Place.f k a0 (a0.size : Int)).bind fun bt237 => (tachographlaw21_LexAll.j0 k bt221.1 (!(bt235.1 == bt237.1) || (!(bt235.2 == bt237.2))) bt228.1 bt228.2.1 bt228.2.2.1 bt228.2.2.2))) else (tachographlaw21_LexAll.j0 k bt221.1 true bt228.1 bt228.2.1 bt228.2.2.1 bt228.2.2.2)) else (if (bt221.1.length : Int) = 0 then ((lex_End.f a0).bind fun bt239 => ((tachographref21_Place.f k a0 (a0.size : Int)).bind fun bt241 => (tachographlaw21_LexAll.j0 k bt221.1 (!(bt239.1 == bt241.1) || (!(bt239.2 == bt241.2))) bt228.1 bt228.2.1 bt228.2.2.1 bt228.2.2.2))) else (tachographlaw21_LexAll.j0 k bt221.1 true bt228.1 bt228.2.1 bt228.2.2.1 bt228.2.2.2)))) else (tachographlaw21_LexAll.j0 k bt221.1 true bt228.1 bt228.2.1 bt228.2.2.1 bt228.2.2.2))))
theorem tachographlaw21_LexAll.mono_l : ∀ k, (∀ y0 y1 y2 y3 y4 y5, LeO (tachographlaw21_LexAll.j0 k y0 y1 y2 y3 y4 y5) (tachographlaw21_LexAll.j0 (k + 1) y0 y1 y2 y3 y4 y5)) ∧ (∀ y0 y1 y2 y3 y4 y5 y6, LeO (tachographlaw21_LexAll.l0 k y0 y1 y2 y3 y4 y5 y6) (tachographlaw21_LexAll.l0 (k + 1) y0 y1 y2 y3 y4 y5 y6))
 | 0 => ⟨fun _ _ _ _ _ _ r h => by simp [tachographlaw21_LexAll.j0] at h, fun _ _ _ _ _ _ _ r h => by simp [tachographlaw21_LexAll.l0] at h⟩
 | k + 1 => by
  obtain ⟨ih0, ih1⟩ := tachographlaw21_LexAll.mono_l k
  refine ⟨?_, ?_⟩
  ·intro y0 y1 y2 y3 y4 y5
   unfold tachographlaw21_LexAll.j0
   repeat' first
   | (with_reducible exact ih0 _ _ _ _ _ _)
   | (with_reducible exact ih1 _ _ _ _ _ _ _)
   | (with_reducible exact lex_Lex.mono _ _)
   | (with_reducible exact tachographlaw21_fixed.mono _)
   | (with_reducible exact tachographref21_Lex.mono _ _)
   | (with_reducible exact tachographref21_Place.mono _ _ _)
   | (with_reducible exact LeO.refl _)
   | (with_reducible exact LeO.none _)
   | (with_reducible refine LeO.ite ?_ ?_)
   | (with_reducible refine LeO.bind ?_ (fun _ => ?_))
   | exact ih0 _ _ _ _ _ _
   | exact ih1 _ _ _ _ _ _ _
   | exact lex_Lex.mono _ _
   | exact tachographlaw21_fixed.mono _
   | exact tachographref21_Lex.mono _ _
   | exact tachographref21_Place.mono _ _ _
   | exact LeO.none _
   | refine LeO.ite ?_ ?_
   | refine LeO.bind ?_ (fun _ => ?_)
  ·intro y0 y1 y2 y3 y4 y5 y6
   unfold tachographlaw21_LexAll.l0
   repeat' first
   | (with_reducible exact ih0 _ _ _ _ _ _)
   | (with_reducible exact ih1 _ _ _ _ _ _ _)
   | (with_reducible exact lex_Lex.mono _ _)
   | (with_reducible exact tachographlaw21_fixed.mono _)
   | (with_reducible exact tachographref21_Lex.mono _ _)
   | (with_reducible exact tachographref21_Place.mono _ _ _)
   | (with_reducible exact LeO.refl _)
   | (with_reducible exact LeO.none _)
   | (with_reducible refine LeO.ite ?_ ?_)
   | (with_reducible refine LeO.bind ?_ (fun _ => ?_))
   | exact ih0 _ _ _ _ _ _
   | exact ih1 _ _ _ _ _ _ _
   | exact lex_Lex.mono _ _
   | exact tachographlaw21_fixed.mono _
   | exact tachographref21_Lex.mono _ _
   | exact tachographref21_Place.mono _ _ _
   | exact LeO.none _
   | refine LeO.ite ?_ ?_
   | refine LeO.bind ?_ (fun _ => ?_)
theorem tachographlaw21_LexAll.mono : ∀ a0 k, LeO (tachographlaw21_LexAll.f k a0) (tachographlaw21_LexAll.f (k + 1) a0) := by
 intro a0 k
 obtain ⟨ih0, ih1⟩ := tachographlaw21_LexAll.mono_l k
 unfold tachographlaw21_LexAll.f
 repeat' first
   | (with_reducible exact ih0 _ _ _ _ _ _)
   | (with_reducible exact ih1 _ _ _ _ _ _ _)
   | (with_reducible exact lex_Lex.mono _ _)
   | (with_reducible exact tachographlaw21_fixed.mono _)
   | (with_reducible exact tachographref21_Lex.mono _ _)
   | (with_reducible exact tachographref21_Place.mono _ _ _)
   | (with_reducible exact LeO.refl _)
   | (with_reducible exact LeO.none _)
   | (with_reducible refine LeO.ite ?_ ?_)
   | (with_reducible refine LeO.bind ?_ (fun _ => ?_))
   | exact ih0 _ _ _ _ _ _
   | exact ih1 _ _ _ _ _ _ _
   | exact lex_Lex.mono _ _
   | exact tachographlaw21_fixed.mono _
   | exact tachographref21_Lex.mono _ _
   | exact tachographref21_Place.mono _ _ _
   | exact LeO.none _
   | refine LeO.ite ?_ ?_
   | refine LeO.bind ?_ (fun _ => ?_)
set_option maxHeartbeats 8000000 in
set_option maxRecDepth 100000 in
theorem tachographlaw21_LexAll.calls (k : Nat) (a0 : ByteArray) (r : Bool) (w : World) (h : tachographlaw21_LexAll.f k a0 = some r) :
  Calls Try.prog 6 #[.string a0] w fun e w' => e = .returned (.bool r) ∧ Below w.heap.size w w':=by
 have hu36:=Try.underlying36
 have hu41:=Try.underlying41
 have HB:=Aside0.mk (Below.refl w.heap.size w)
 have H : (if (a0.size : Int) > 2000 then ((tachographlaw21_fixed.f k).bind fun t220 => (some t220)) else ((lex_Lex.f k a0).bind fun bt221 => ((tachographref21_Lex.f k a0).bind fun bt228 => (if bt221.2.1 = bt228.2.1 then (if (!(bt221.2.2.1 == bt228.2.2.1) || (!(bt221.2.2.2 == bt228.2.2.2))) = true then (tachographlaw21_LexAll.j0 k bt221.1 true bt228.1 bt228.2.1 bt228.2.2.1 bt228.2.2.2) else (if bt221.2.1 = 0 then (if (bt221.1.length : Int) = (bt228.1.length : Int) then ((lex_End.f a0).bind fun bt235 => ((tachographref21_Place.f k a0 (a0.size : Int)).bind fun bt237 => (tachographlaw21_LexAll.j0 k bt221.1 (!(bt235.1 == bt237.1) || (!(bt235.2 == bt237.2))) bt228.1 bt228.2.1 bt228.2.2.1 bt228.2.2.2))) else (tachographlaw21_LexAll.j0 k bt221.1 true bt228.1 bt228.2.1 bt228.2.2.1 bt228.2.2.2)) else (if (bt221.1.length : Int) = 0 then ((lex_End.f a0).bind fun bt239 => ((tachographref21_Place.f k a0 (a0.size : Int)).bind fun bt241 => (tachographlaw21_LexAll.j0 k bt221.1 (!(bt239.1 == bt241.1) || (!(bt239.2 == bt241.2))) bt228.1 bt228.2.1 bt228.2.2.1 bt228.2.2.2))) else (tachographlaw21_LexAll.j0 k bt221.1 true bt228.1 bt228.2.1 bt228.2.2.1 bt228.2.2.2)))) else (tachographlaw21_LexAll.j0 k bt221.1 true bt228.1 bt228.2.1 bt228.2.2.1 bt228.2.2.2))))) = some r:=h
 clear h
 by_cases c2 : (a0.size : Int) > 2000
 ·rw [if_pos c2] at H
  have c2b0 : decide (2000 < (a0.size : Int)) = true:=decide_eq_true c2
  have c2b1 : decide (2000 < a0.size) = true:=decide_eq_true (by omega)
  clear c2
  replace H:=Option.bind_eq_some_iff.mp H
  obtain ⟨t220,A30,H⟩:=H
  replace H : (some t220) = some r:=H
  have A3:=Aside0.mk A30
  clear A30
  obtain rfl:=Option.some.inj H
  go_enter Try.func6,Try.ntmps6
  go_wp2_with (first | (go_at_call 16;(with_reducible refine (tachographlaw21_fixed.calls k  t220 _ A3.out).mono ?_);rintro e w4 ⟨rfl,hb⟩;have n0_:=Aside0.mk (below_step (by repeat (first | (with_reducible first | exact HB.out | apply below_alloc | apply pw_below_drewN | apply below_drew1) | exact HB.out)) hb);clear HB;have HB:=n0_;clear n0_;(try clear hb);(try clear hb2);(try clear hk);(try clear hi)))
  repeat (go_quiet (first | (go_at_call 16;(with_reducible refine (tachographlaw21_fixed.calls k  t220 _ A3.out).mono ?_);rintro e w4 ⟨rfl,hb⟩;have n0_:=Aside0.mk (below_step (by repeat (first | (with_reducible first | exact HB.out | apply below_alloc | apply pw_below_drewN | apply below_drew1) | exact HB.out)) hb);clear HB;have HB:=n0_;clear n0_;(try clear hb);(try clear hb2);(try clear hk);(try clear hi)));try go_wp2_with (first | (go_at_call 16;(with_reducible refine (tachographlaw21_fixed.calls k  t220 _ A3.out).mono ?_);rintro e w4 ⟨rfl,hb⟩;have n0_:=Aside0.mk (below_step (by repeat (first | (with_reducible first | exact HB.out | apply below_alloc | apply pw_below_drewN | apply below_drew1) | exact HB.out)) hb);clear HB;have HB:=n0_;clear n0_;(try clear hb);(try clear hb2);(try clear hk);(try clear hi))))
  go_ret
  exact ⟨by first | rfl | (simp [errW_none,errW_some] <;> rfl) | (simp [*,errW_none,errW_some] <;> rfl),by repeat (first | (with_reducible first | exact HB.out | apply below_alloc | apply pw_below_drewN | apply below_drew1) | exact HB.out)⟩
 ·rw [if_neg c2] at H
  have c2b0 : decide (2000 < (a0.size : Int)) = false:=decide_eq_false c2
  have c2b1 : decide (2000 < a0.size) = false:=decide_eq_false (by omega)
  clear c2
  replace H:=Option.bind_eq_some_iff.mp H
  obtain ⟨⟨t221,t224,t225,t226⟩,A50,H⟩:=H
  replace H : ((tachographref21_Lex.f k a0).bind fun bt228 => (if t224 = bt228.2.1 then (if (!(t225 == bt228.2.2.1) || (!(t226 == bt228.2.2.2))) = true then (tachographlaw21_LexAll.j0 k t221 true bt228.1 bt228.2.1 bt228.2.2.1 bt228.2.2.2) else (if t224 = 0 then (if (t221.length : Int) = (bt228.1.length : Int) then ((lex_End.f a0).bind fun bt235 => ((tachographref21_Place.f k a0 (a0.size : Int)).bind fun bt237 => (tachographlaw21_LexAll.j0 k t221 (!(bt235.1 == bt237.1) || (!(bt235.2 == bt237.2))) bt228.1 bt228.2.1 bt228.2.2.1 bt228.2.2.2))) else (tachographlaw21_LexAll.j0 k t221 true bt228.1 bt228.2.1 bt228.2.2.1 bt228.2.2.2)) else (if (t221.length : Int) = 0 then ((lex_End.f a0).bind fun bt239 => ((tachographref21_Place.f k a0 (a0.size : Int)).bind fun bt241 => (tachographlaw21_LexAll.j0 k t221 (!(bt239.1 == bt241.1) || (!(bt239.2 == bt241.2))) bt228.1 bt228.2.1 bt228.2.2.1 bt228.2.2.2))) else (tachographlaw21_LexAll.j0 k t221 true bt228.1 bt228.2.1 bt228.2.2.1 bt228.2.2.2)))) else (tachographlaw21_LexAll.j0 k t221 true bt228.1 bt228.2.1 bt228.2.2.1 bt228.2.2.2))) = some r:=H
  have A5:=Aside0.mk A50
  clear A50
  replace H:=Option.bind_eq_some_iff.mp H
  obtain ⟨⟨t228,t231,t232,t233⟩,A60,H⟩:=H
  replace H : (if t224 = t231 then (if (!(t225 == t232) || (!(t226 == t233))) = true then (tachographlaw21_LexAll.j0 k t221 true t228 t231 t232 t233) else (if t224 = 0 then (if (t221.length : Int) = (t228.length : Int) then ((lex_End.f a0).bind fun bt235 => ((tachographref21_Place.f k a0 (a0.size : Int)).bind fun bt237 => (tachographlaw21_LexAll.j0 k t221 (!(bt235.1 == bt237.1) || (!(bt235.2 == bt237.2))) t228 t231 t232 t233))) else (tachographlaw21_LexAll.j0 k t221 true t228 t231 t232 t233)) else (if (t221.length : Int) = 0 then ((lex_End.f a0).bind fun bt239 => ((tachographref21_Place.f k a0 (a0.size : Int)).bind fun bt241 => (tachographlaw21_LexAll.j0 k t221 (!(bt239.1 == bt241.1) || (!(bt239.2 == bt241.2))) t228 t231 t232 t233))) else (tachographlaw21_LexAll.j0 k t221 true t228 t231 t232 t233)))) else (tachographlaw21_LexAll.j0 k t221 true t228 t231 t232 t233)) = some r:=H
  have A6:=Aside0.mk A60
  clear A60
  have HC7:=Aside0.mk H
  clear H
  go_enter Try.func6,Try.ntmps6
  go_upto_region 5 with (first | (go_at_call 17;(with_reducible refine (lex_Lex.calls k a0 t221 t224 t225 t226 _ A5.out).mono ?_);rintro e w8 ⟨v222,rfl,ho0,hb⟩;have n0_:=Aside0.mk (Kd.R_lower ho0 (below_size (by repeat (first | (with_reducible first | exact HB.out | apply below_alloc | apply pw_below_drewN | apply below_drew1) | exact HB.out))));have n1_:=Aside0.mk (below_step (by repeat (first | (with_reducible first | exact HB.out | apply below_alloc | apply pw_below_drewN | apply below_drew1) | exact HB.out)) hb);clear HB;have HO223:=n0_;have HB:=n1_;clear n0_ n1_;(try clear hb);(try clear hb2);(try clear hk);(try clear hi);(try clear ho0)) | ((with_reducible refine gate_dst (N:=5) rfl ?_);(try (refine gate_guard (by rfl) ?_;dsimp only));refine box_event ?hg (N:=5) ?hd (cs:=#[.int .i64 0,.int .i64 0]) (t:=36) ?hr ?_;(case hd => rfl);(case hg => rfl);(case hr => first | (go_simp;done) | (go_simp;rfl));intro gb227 hg w9 hbox hb;have n0_:=Aside0.mk (Kd.R_below (by (with_reducible repeat (first | apply Kd.R_alloc | apply Kd.R_drewN | apply Kd.R_drew));exact HO223.out) hb);have n1_:=Aside0.mk (below_step (by repeat (first | (with_reducible first | exact HB.out | apply below_alloc | apply pw_below_drewN | apply below_drew1) | exact HB.out)) hb);have n2_:=Aside0.mk (hbox);have n3_:=Aside0.mk ((by rw [hg];exact (below_size (by repeat (first | (with_reducible first | exact HB.out | apply below_alloc | apply pw_below_drewN | apply below_drew1) | exact HB.out))) : w.heap.size ≤ gb227));have n4_:=Aside0.mk ((by rw [hg];exact (below_size (by repeat (first | (with_reducible first | exact HB.out | apply below_alloc | apply pw_below_drewN | apply below_drew1) | exact HB.out))) : w.heap.size ≤ gb227));clear HO223;clear HB;have HO223:=n0_;have HB:=n1_;have BK227:=n2_;have GW227:=n3_;have GE227:=n4_;clear n0_ n1_ n2_ n3_ n4_;clear hb hbox hg;have hcz10_0 : w9.cell? ⟨gb227,0,none⟩ = some (.int .i64 0):=(blk_cell BK227.out 0).trans rfl;have hcz10_1 : w9.cell? ⟨gb227,1,none⟩ = some (.int .i64 0):=(blk_cell BK227.out 1).trans rfl;have hfz10_0:=blk_frozen BK227.out 0;have hfz10_1:=blk_frozen BK227.out 1) | (go_at_call 18;(with_reducible refine (tachographref21_Lex.calls k a0 t228 t231 t232 t233 _ A6.out).mono ?_);rintro e w11 ⟨v229,rfl,ho0,hb⟩;have n0_:=Aside0.mk (Kd.R_below (by (with_reducible repeat (first | apply Kd.R_alloc | apply Kd.R_drewN | apply Kd.R_drew));exact (Kd.R_mono (Kd.R_far (p:=⟨gb227,1,none⟩) (Kd.R_far (p:=⟨gb227,0,none⟩) (Kd.R_types HO223.out BK227.out (by decide)) (fun _ hk => hk.2) (.int .i64 t225)) (fun _ hk => hk.2) (.int .i64 t226)) (fun _ h_ => h_.1))) hb);have n1_:=Aside0.mk (Kd.R_lower ho0 (below_size (by repeat (first | (with_reducible first | exact HB.out | apply below_alloc | apply pw_below_drewN | apply below_drew1 | refine below_set ?_ GE227.out) | exact HB.out))));have n2_:=Aside0.mk (blk_below (g:=gb227) (o:=.cells #[.int .i64 t225,.int .i64 t226] 36 (0,0)) (by (with_reducible repeat (first | refine blk_drewN ?_ _ | refine blk_drew ?_ | refine blk_alloc ?_ _));refine blk_put (cs:=#[.int .i64 t225,.int .i64 0]) ?_ 1 _ rfl;(with_reducible repeat (first | refine blk_drewN ?_ _ | refine blk_drew ?_ | refine blk_alloc ?_ _));refine blk_put (cs:=#[.int .i64 0,.int .i64 0]) ?_ 0 _ rfl;(with_reducible repeat (first | refine blk_drewN ?_ _ | refine blk_drew ?_ | refine blk_alloc ?_ _));exact BK227.out) hb);have n3_:=Aside0.mk (below_step (by repeat (first | (with_reducible first | exact HB.out | apply below_alloc | apply pw_below_drewN | apply below_drew1 | refine below_set ?_ GE227.out) | exact HB.out)) hb);clear HO223;clear BK227;clear HB;have HO223:=n0_;have HO230:=n1_;have BK227:=n2_;have HB:=n3_;clear n0_ n1_ n2_ n3_;(try clear hb);(try clear hb2);(try clear hk);(try clear hi);(try clear ho0)) | ((with_reducible refine gate_dst (N:=6) rfl ?_);(try (refine gate_guard (by rfl) ?_;dsimp only));refine box_event ?hg (N:=6) ?hd (cs:=#[.slice none 0 0,.int .i64 0,.int .i64 0,.int .i64 0]) (t:=41) ?hr ?_;(case hd => rfl);(case hg => rfl);(case hr => first | (go_simp;done) | (go_simp;rfl));intro gb234 hg w12 hbox hb;have n0_:=Aside0.mk (Kd.R_below (by (with_reducible repeat (first | apply Kd.R_alloc | apply Kd.R_drewN | apply Kd.R_drew));exact HO223.out) hb);have n1_:=Aside0.mk (Kd.R_below (by (with_reducible repeat (first | apply Kd.R_alloc | apply Kd.R_drewN | apply Kd.R_drew));exact HO230.out) hb);have n2_:=Aside0.mk (blk_below (g:=gb227) (o:=.cells #[.int .i64 t225,.int .i64 t226] 36 (0,0)) (by (with_reducible repeat (first | refine blk_drewN ?_ _ | refine blk_drew ?_ | refine blk_alloc ?_ _));exact BK227.out) hb);have n3_:=Aside0.mk (below_step (by repeat (first | (with_reducible first | exact HB.out | apply below_alloc | apply pw_below_drewN | apply below_drew1 | refine below_set ?_ GE227.out) | exact HB.out)) hb);have n4_:=Aside0.mk (hbox);have n5_:=Aside0.mk ((by rw [hg];exact (below_size (by repeat (first | (with_reducible first | exact HB.out | apply below_alloc | apply pw_below_drewN | apply below_drew1 | refine below_set ?_ GE227.out) | exact HB.out))) : w.heap.size ≤ gb234));have n6_:=Aside0.mk ((by rw [hg];exact (below_size (by repeat (first | (with_reducible first | exact HB.out | apply below_alloc | apply pw_below_drewN | apply below_drew1 | refine below_set ?_ GE227.out) | exact HB.out))) : w.heap.size ≤ gb234));have n7_:=Aside0.mk ((by rw [hg];exact Nat.ne_of_lt (blk_lt (g:=gb227) (o:=.cells #[.int .i64 t225,.int .i64 t226] 36 (0,0)) (by (with_reducible repeat (first | refine blk_drewN ?_ _ | refine blk_drew ?_ | refine blk_alloc ?_ _));exact BK227.out)) : gb227 ≠ gb234));have n8_:=Aside0.mk ((by rw [hg];exact Nat.ne_of_gt (blk_lt (g:=gb227) (o:=.cells #[.int .i64 t225,.int .i64 t226] 36 (0,0)) (by (with_reducible repeat (first | refine blk_drewN ?_ _ | refine blk_drew ?_ | refine blk_alloc ?_ _));exact BK227.out)) : gb234 ≠ gb227));clear HO223;clear HO230;clear BK227;clear HB;have HO223:=n0_;have HO230:=n1_;have BK227:=n2_;have HB:=n3_;have BK234:=n4_;have GW234:=n5_;have GE234:=n6_;have NB227_234:=n7_;have NB234_227:=n8_;clear n0_ n1_ n2_ n3_ n4_ n5_ n6_ n7_ n8_;clear hb hbox hg;obtain ⟨Ao13,co13,eo13⟩:=Kd.R_slice HO230.out;subst eo13;have hnb14:=NB234_227.out;have hnc14:=NB227_234.out;have hcz15_0 : w12.cell? ⟨gb234,0,none⟩ = some (.slice none 0 0):=(blk_cell BK234.out 0).trans rfl;have hcz15_1 : w12.cell? ⟨gb234,1,none⟩ = some (.int .i64 0):=(blk_cell BK234.out 1).trans rfl;have hcz15_2 : w12.cell? ⟨gb234,2,none⟩ = some (.int .i64 0):=(blk_cell BK234.out 2).trans rfl;have hcz15_3 : w12.cell? ⟨gb234,3,none⟩ = some (.int .i64 0):=(blk_cell BK234.out 3).trans rfl;have hfz15_0:=blk_frozen BK234.out 0;have hfz15_1:=blk_frozen BK234.out 1;have hfz15_2:=blk_frozen BK234.out 2;have hfz15_3:=blk_frozen BK234.out 3))
  repeat (go_quiet (first | (go_at_call 17;(with_reducible refine (lex_Lex.calls k a0 t221 t224 t225 t226 _ A5.out).mono ?_);rintro e w8 ⟨v222,rfl,ho0,hb⟩;have n0_:=Aside0.mk (Kd.R_lower ho0 (below_size (by repeat (first | (with_reducible first | exact HB.out | apply below_alloc | apply pw_below_drewN | apply below_drew1) | exact HB.out))));have n1_:=Aside0.mk (below_step (by repeat (first | (with_reducible first | exact HB.out | apply below_alloc | apply pw_below_drewN | apply below_drew1) | exact HB.out)) hb);clear HB;have HO223:=n0_;have HB:=n1_;clear n0_ n1_;(try clear hb);(try clear hb2);(try clear hk);(try clear hi);(try clear ho0)) | ((with_reducible refine gate_dst (N:=5) rfl ?_);(try (refine gate_guard (by rfl) ?_;dsimp only));refine box_event ?hg (N:=5) ?hd (cs:=#[.int .i64 0,.int .i64 0]) (t:=36) ?hr ?_;(case hd => rfl);(case hg => rfl);(case hr => first | (go_simp;done) | (go_simp;rfl));intro gb227 hg w9 hbox hb;have n0_:=Aside0.mk (Kd.R_below (by (with_reducible repeat (first | apply Kd.R_alloc | apply Kd.R_drewN | apply Kd.R_drew));exact HO223.out) hb);have n1_:=Aside0.mk (below_step (by repeat (first | (with_reducible first | exact HB.out | apply below_alloc | apply pw_below_drewN | apply below_drew1) | exact HB.out)) hb);have n2_:=Aside0.mk (hbox);have n3_:=Aside0.mk ((by rw [hg];exact (below_size (by repeat (first | (with_reducible first | exact HB.out | apply below_alloc | apply pw_below_drewN | apply below_drew1) | exact HB.out))) : w.heap.size ≤ gb227));have n4_:=Aside0.mk ((by rw [hg];exact (below_size (by repeat (first | (with_reducible first | exact HB.out | apply below_alloc | apply pw_below_drewN | apply below_drew1) | exact HB.out))) : w.heap.size ≤ gb227));clear HO223;clear HB;have HO223:=n0_;have HB:=n1_;have BK227:=n2_;have GW227:=n3_;have GE227:=n4_;clear n0_ n1_ n2_ n3_ n4_;clear hb hbox hg;have hcz10_0 : w9.cell? ⟨gb227,0,none⟩ = some (.int .i64 0):=(blk_cell BK227.out 0).trans rfl;have hcz10_1 : w9.cell? ⟨gb227,1,none⟩ = some (.int .i64 0):=(blk_cell BK227.out 1).trans rfl;have hfz10_0:=blk_frozen BK227.out 0;have hfz10_1:=blk_frozen BK227.out 1) | (go_at_call 18;(with_reducible refine (tachographref21_Lex.calls k a0 t228 t231 t232 t233 _ A6.out).mono ?_);rintro e w11 ⟨v229,rfl,ho0,hb⟩;have n0_:=Aside0.mk (Kd.R_below (by (with_reducible repeat (first | apply Kd.R_alloc | apply Kd.R_drewN | apply Kd.R_drew));exact (Kd.R_mono (Kd.R_far (p:=⟨gb227,1,none⟩) (Kd.R_far (p:=⟨gb227,0,none⟩) (Kd.R_types HO223.out BK227.out (by decide)) (fun _ hk => hk.2) (.int .i64 t225)) (fun _ hk => hk.2) (.int .i64 t226)) (fun _ h_ => h_.1))) hb);have n1_:=Aside0.mk (Kd.R_lower ho0 (below_size (by repeat (first | (with_reducible first | exact HB.out | apply below_alloc | apply pw_below_drewN | apply below_drew1 | refine below_set ?_ GE227.out) | exact HB.out))));have n2_:=Aside0.mk (blk_below (g:=gb227) (o:=.cells #[.int .i64 t225,.int .i64 t226] 36 (0,0)) (by (with_reducible repeat (first | refine blk_drewN ?_ _ | refine blk_drew ?_ | refine blk_alloc ?_ _));refine blk_put (cs:=#[.int .i64 t225,.int .i64 0]) ?_ 1 _ rfl;(with_reducible repeat (first | refine blk_drewN ?_ _ | refine blk_drew ?_ | refine blk_alloc ?_ _));refine blk_put (cs:=#[.int .i64 0,.int .i64 0]) ?_ 0 _ rfl;(with_reducible repeat (first | refine blk_drewN ?_ _ | refine blk_drew ?_ | refine blk_alloc ?_ _));exact BK227.out) hb);have n3_:=Aside0.mk (below_step (by repeat (first | (with_reducible first | exact HB.out | apply below_alloc | apply pw_below_drewN | apply below_drew1 | refine below_set ?_ GE227.out) | exact HB.out)) hb);clear HO223;clear BK227;clear HB;have HO223:=n0_;have HO230:=n1_;have BK227:=n2_;have HB:=n3_;clear n0_ n1_ n2_ n3_;(try clear hb);(try clear hb2);(try clear hk);(try clear hi);(try clear ho0)) | ((with_reducible refine gate_dst (N:=6) rfl ?_);(try (refine gate_guard (by rfl) ?_;dsimp only));refine box_event ?hg (N:=6) ?hd (cs:=#[.slice none 0 0,.int .i64 0,.int .i64 0,.int .i64 0]) (t:=41) ?hr ?_;(case hd => rfl);(case hg => rfl);(case hr => first | (go_simp;done) | (go_simp;rfl));intro gb234 hg w12 hbox hb;have n0_:=Aside0.mk (Kd.R_below (by (with_reducible repeat (first | apply Kd.R_alloc | apply Kd.R_drewN | apply Kd.R_drew));exact HO223.out) hb);have n1_:=Aside0.mk (Kd.R_below (by (with_reducible repeat (first | apply Kd.R_alloc | apply Kd.R_drewN | apply Kd.R_drew));exact HO230.out) hb);have n2_:=Aside0.mk (blk_below (g:=gb227) (o:=.cells #[.int .i64 t225,.int .i64 t226] 36 (0,0)) (by (with_reducible repeat (first | refine blk_drewN ?_ _ | refine blk_drew ?_ | refine blk_alloc ?_ _));exact BK227.out) hb);have n3_:=Aside0.mk (below_step (by repeat (first | (with_reducible first | exact HB.out | apply below_alloc | apply pw_below_drewN | apply below_drew1 | refine below_set ?_ GE227.out) | exact HB.out)) hb);have n4_:=Aside0.mk (hbox);have n5_:=Aside0.mk ((by rw [hg];exact (below_size (by repeat (first | (with_reducible first | exact HB.out | apply below_alloc | apply pw_below_drewN | apply below_drew1 | refine below_set ?_ GE227.out) | exact HB.out))) : w.heap.size ≤ gb234));have n6_:=Aside0.mk ((by rw [hg];exact (below_size (by repeat (first | (with_reducible first | exact HB.out | apply below_alloc | apply pw_below_drewN | apply below_drew1 | refine below_set ?_ GE227.out) | exact HB.out))) : w.heap.size ≤ gb234));have n7_:=Aside0.mk ((by rw [hg];exact Nat.ne_of_lt (blk_lt (g:=gb227) (o:=.cells #[.int .i64 t225,.int .i64 t226] 36 (0,0)) (by (with_reducible repeat (first | refine blk_drewN ?_ _ | refine blk_drew ?_ | refine blk_alloc ?_ _));exact BK227.out)) : gb227 ≠ gb234));have n8_:=Aside0.mk ((by rw [hg];exact Nat.ne_of_gt (blk_lt (g:=gb227) (o:=.cells #[.int .i64 t225,.int .i64 t226] 36 (0,0)) (by (with_reducible repeat (first | refine blk_drewN ?_ _ | refine blk_drew ?_ | refine blk_alloc ?_ _));exact BK227.out)) : gb234 ≠ gb227));clear HO223;clear HO230;clear BK227;clear HB;have HO223:=n0_;have HO230:=n1_;have BK227:=n2_;have HB:=n3_;have BK234:=n4_;have GW234:=n5_;have GE234:=n6_;have NB227_234:=n7_;have NB234_227:=n8_;clear n0_ n1_ n2_ n3_ n4_ n5_ n6_ n7_ n8_;clear hb hbox hg;obtain ⟨Ao13,co13,eo13⟩:=Kd.R_slice HO230.out;subst eo13;have hnb14:=NB234_227.out;have hnc14:=NB227_234.out;have hcz15_0 : w12.cell? ⟨gb234,0,none⟩ = some (.slice none 0 0):=(blk_cell BK234.out 0).trans rfl;have hcz15_1 : w12.cell? ⟨gb234,1,none⟩ = some (.int .i64 0):=(blk_cell BK234.out 1).trans rfl;have hcz15_2 : w12.cell? ⟨gb234,2,none⟩ = some (.int .i64 0):=(blk_cell BK234.out 2).trans rfl;have hcz15_3 : w12.cell? ⟨gb234,3,none⟩ = some (.int .i64 0):=(blk_cell BK234.out 3).trans rfl;have hfz15_0:=blk_frozen BK234.out 0;have hfz15_1:=blk_frozen BK234.out 1;have hfz15_2:=blk_frozen BK234.out 2;have hfz15_3:=blk_frozen BK234.out 3));go_upto_region 5 with (first | (go_at_call 17;(with_reducible refine (lex_Lex.calls k a0 t221 t224 t225 t226 _ A5.out).mono ?_);rintro e w8 ⟨v222,rfl,ho0,hb⟩;have n0_:=Aside0.mk (Kd.R_lower ho0 (below_size (by repeat (first | (with_reducible first | exact HB.out | apply below_alloc | apply pw_below_drewN | apply below_drew1) | exact HB.out))));have n1_:=Aside0.mk (below_step (by repeat (first | (with_reducible first | exact HB.out | apply below_alloc | apply pw_below_drewN | apply below_drew1) | exact HB.out)) hb);clear HB;have HO223:=n0_;have HB:=n1_;clear n0_ n1_;(try clear hb);(try clear hb2);(try clear hk);(try clear hi);(try clear ho0)) | ((with_reducible refine gate_dst (N:=5) rfl ?_);(try (refine gate_guard (by rfl) ?_;dsimp only));refine box_event ?hg (N:=5) ?hd (cs:=#[.int .i64 0,.int .i64 0]) (t:=36) ?hr ?_;(case hd => rfl);(case hg => rfl);(case hr => first | (go_simp;done) | (go_simp;rfl));intro gb227 hg w9 hbox hb;have n0_:=Aside0.mk (Kd.R_below (by (with_reducible repeat (first | apply Kd.R_alloc | apply Kd.R_drewN | apply Kd.R_drew));exact HO223.out) hb);have n1_:=Aside0.mk (below_step (by repeat (first | (with_reducible first | exact HB.out | apply below_alloc | apply pw_below_drewN | apply below_drew1) | exact HB.out)) hb);have n2_:=Aside0.mk (hbox);have n3_:=Aside0.mk ((by rw [hg];exact (below_size (by repeat (first | (with_reducible first | exact HB.out | apply below_alloc | apply pw_below_drewN | apply below_drew1) | exact HB.out))) : w.heap.size ≤ gb227));have n4_:=Aside0.mk ((by rw [hg];exact (below_size (by repeat (first | (with_reducible first | exact HB.out | apply below_alloc | apply pw_below_drewN | apply below_drew1) | exact HB.out))) : w.heap.size ≤ gb227));clear HO223;clear HB;have HO223:=n0_;have HB:=n1_;have BK227:=n2_;have GW227:=n3_;have GE227:=n4_;clear n0_ n1_ n2_ n3_ n4_;clear hb hbox hg;have hcz10_0 : w9.cell? ⟨gb227,0,none⟩ = some (.int .i64 0):=(blk_cell BK227.out 0).trans rfl;have hcz10_1 : w9.cell? ⟨gb227,1,none⟩ = some (.int .i64 0):=(blk_cell BK227.out 1).trans rfl;have hfz10_0:=blk_frozen BK227.out 0;have hfz10_1:=blk_frozen BK227.out 1) | (go_at_call 18;(with_reducible refine (tachographref21_Lex.calls k a0 t228 t231 t232 t233 _ A6.out).mono ?_);rintro e w11 ⟨v229,rfl,ho0,hb⟩;have n0_:=Aside0.mk (Kd.R_below (by (with_reducible repeat (first | apply Kd.R_alloc | apply Kd.R_drewN | apply Kd.R_drew));exact (Kd.R_mono (Kd.R_far (p:=⟨gb227,1,none⟩) (Kd.R_far (p:=⟨gb227,0,none⟩) (Kd.R_types HO223.out BK227.out (by decide)) (fun _ hk => hk.2) (.int .i64 t225)) (fun _ hk => hk.2) (.int .i64 t226)) (fun _ h_ => h_.1))) hb);have n1_:=Aside0.mk (Kd.R_lower ho0 (below_size (by repeat (first | (with_reducible first | exact HB.out | apply below_alloc | apply pw_below_drewN | apply below_drew1 | refine below_set ?_ GE227.out) | exact HB.out))));have n2_:=Aside0.mk (blk_below (g:=gb227) (o:=.cells #[.int .i64 t225,.int .i64 t226] 36 (0,0)) (by (with_reducible repeat (first | refine blk_drewN ?_ _ | refine blk_drew ?_ | refine blk_alloc ?_ _));refine blk_put (cs:=#[.int .i64 t225,.int .i64 0]) ?_ 1 _ rfl;(with_reducible repeat (first | refine blk_drewN ?_ _ | refine blk_drew ?_ | refine blk_alloc ?_ _));refine blk_put (cs:=#[.int .i64 0,.int .i64 0]) ?_ 0 _ rfl;(with_reducible repeat (first | refine blk_drewN ?_ _ | refine blk_drew ?_ | refine blk_alloc ?_ _));exact BK227.out) hb);have n3_:=Aside0.mk (below_step (by repeat (first | (with_reducible first | exact HB.out | apply below_alloc | apply pw_below_drewN | apply below_drew1 | refine below_set ?_ GE227.out) | exact HB.out)) hb);clear HO223;clear BK227;clear HB;have HO223:=n0_;have HO230:=n1_;have BK227:=n2_;have HB:=n3_;clear n0_ n1_ n2_ n3_;(try clear hb);(try clear hb2);(try clear hk);(try clear hi);(try clear ho0)) | ((with_reducible refine gate_dst (N:=6) rfl ?_);(try (refine gate_guard (by rfl) ?_;dsimp only));refine box_event ?hg (N:=6) ?hd (cs:=#[.slice none 0 0,.int .i64 0,.int .i64 0,.int .i64 0]) (t:=41) ?hr ?_;(case hd => rfl);(case hg => rfl);(case hr => first | (go_simp;done) | (go_simp;rfl));intro gb234 hg w12 hbox hb;have n0_:=Aside0.mk (Kd.R_below (by (with_reducible repeat (first | apply Kd.R_alloc | apply Kd.R_drewN | apply Kd.R_drew));exact HO223.out) hb);have n1_:=Aside0.mk (Kd.R_below (by (with_reducible repeat (first | apply Kd.R_alloc | apply Kd.R_drewN | apply Kd.R_drew));exact HO230.out) hb);have n2_:=Aside0.mk (blk_below (g:=gb227) (o:=.cells #[.int .i64 t225,.int .i64 t226] 36 (0,0)) (by (with_reducible repeat (first | refine blk_drewN ?_ _ | refine blk_drew ?_ | refine blk_alloc ?_ _));exact BK227.out) hb);have n3_:=Aside0.mk (below_step (by repeat (first | (with_reducible first | exact HB.out | apply below_alloc | apply pw_below_drewN | apply below_drew1 | refine below_set ?_ GE227.out) | exact HB.out)) hb);have n4_:=Aside0.mk (hbox);have n5_:=Aside0.mk ((by rw [hg];exact (below_size (by repeat (first | (with_reducible first | exact HB.out | apply below_alloc | apply pw_below_drewN | apply below_drew1 | refine below_set ?_ GE227.out) | exact HB.out))) : w.heap.size ≤ gb234));have n6_:=Aside0.mk ((by rw [hg];exact (below_size (by repeat (first | (with_reducible first | exact HB.out | apply below_alloc | apply pw_below_drewN | apply below_drew1 | refine below_set ?_ GE227.out) | exact HB.out))) : w.heap.size ≤ gb234));have n7_:=Aside0.mk ((by rw [hg];exact Nat.ne_of_lt (blk_lt (g:=gb227) (o:=.cells #[.int .i64 t225,.int .i64 t226] 36 (0,0)) (by (with_reducible repeat (first | refine blk_drewN ?_ _ | refine blk_drew ?_ | refine blk_alloc ?_ _));exact BK227.out)) : gb227 ≠ gb234));have n8_:=Aside0.mk ((by rw [hg];exact Nat.ne_of_gt (blk_lt (g:=gb227) (o:=.cells #[.int .i64 t225,.int .i64 t226] 36 (0,0)) (by (with_reducible repeat (first | refine blk_drewN ?_ _ | refine blk_drew ?_ | refine blk_alloc ?_ _));exact BK227.out)) : gb234 ≠ gb227));clear HO223;clear HO230;clear BK227;clear HB;have HO223:=n0_;have HO230:=n1_;have BK227:=n2_;have HB:=n3_;have BK234:=n4_;have GW234:=n5_;have GE234:=n6_;have NB227_234:=n7_;have NB234_227:=n8_;clear n0_ n1_ n2_ n3_ n4_ n5_ n6_ n7_ n8_;clear hb hbox hg;obtain ⟨Ao13,co13,eo13⟩:=Kd.R_slice HO230.out;subst eo13;have hnb14:=NB234_227.out;have hnc14:=NB227_234.out;have hcz15_0 : w12.cell? ⟨gb234,0,none⟩ = some (.slice none 0 0):=(blk_cell BK234.out 0).trans rfl;have hcz15_1 : w12.cell? ⟨gb234,1,none⟩ = some (.int .i64 0):=(blk_cell BK234.out 1).trans rfl;have hcz15_2 : w12.cell? ⟨gb234,2,none⟩ = some (.int .i64 0):=(blk_cell BK234.out 2).trans rfl;have hcz15_3 : w12.cell? ⟨gb234,3,none⟩ = some (.int .i64 0):=(blk_cell BK234.out 3).trans rfl;have hfz15_0:=blk_frozen BK234.out 0;have hfz15_1:=blk_frozen BK234.out 1;have hfz15_2:=blk_frozen BK234.out 2;have hfz15_3:=blk_frozen BK234.out 3)))
  (try simp only [Act.put,List.setIfInBounds_toArray,List.set_cons_zero,List.set_cons_succ])
  go_cut [59] (fun v59 wc => ∃ (kq : Nat) (x59_6 : Bool),v59 = .bool x59_6 ∧ Aside0 (tachographlaw21_LexAll.j0 kq t221 x59_6 t228 t231 t232 t233 = some r) ∧ Aside0 (kq ≤ k) ∧ Aside0 (Kd.R k46 46 wc w.heap.size (fun _ => True) v222 t221) ∧ Aside0 (Kd.R k47 47 wc w.heap.size (fun _ => True) (.slice Ao13 t228.length co13) t228) ∧ Aside0 (wc.heap[gb227]? = some (.cells #[.int .i64 t225,.int .i64 t226] 36 (0,0))) ∧ Aside0 (wc.heap[gb234]? = some (.cells #[(.slice Ao13 t228.length co13),.int .i64 t231,.int .i64 t232,.int .i64 t233] 41 (0,0))) ∧ Aside0 (Below w.heap.size w wc))
  case first =>
   have H:=HC7.out
   clear HC7
   by_cases c16 : t224 = t231
   ·rw [if_pos c16] at H
    have c16b0 : (t224 == t231) = true:=beq_iff_eq.mpr c16
    have c16b1 : (t224 != t231) = false:=bne_eq_false_iff_eq.mpr c16
    clear c16
    (first | rw [c16b0] | (simp only [i64_w,i32_w];rw [c16b0]) | skip)
    by_cases c17 : (!(t225 == t232) || (!(t226 == t233))) = true
    ·rw [if_pos c17] at H
     have c17b0 : (!(t225 == t232) || (!(t226 == t233))) = true:=c17
     clear c17
     have H':=Aside0.mk H
     clear H
     have hnb18:=NB234_227.out
     have hnc18:=NB227_234.out
     have hcz19_0 : w12.cell? ⟨gb234,0,none⟩ = some (.slice none 0 0):=(blk_cell BK234.out 0).trans rfl
     have hcz19_1 : w12.cell? ⟨gb234,1,none⟩ = some (.int .i64 0):=(blk_cell BK234.out 1).trans rfl
     have hcz19_2 : w12.cell? ⟨gb234,2,none⟩ = some (.int .i64 0):=(blk_cell BK234.out 2).trans rfl
     have hcz19_3 : w12.cell? ⟨gb234,3,none⟩ = some (.int .i64 0):=(blk_cell BK234.out 3).trans rfl
     have hfz19_0:=blk_frozen BK234.out 0
     have hfz19_1:=blk_frozen BK234.out 1
     have hfz19_2:=blk_frozen BK234.out 2
     have hfz19_3:=blk_frozen BK234.out 3
     have hcz20_0 : w12.cell? ⟨gb227,0,none⟩ = some (.int .i64 t225):=(blk_cell BK227.out 0).trans rfl
     have hcz20_1 : w12.cell? ⟨gb227,1,none⟩ = some (.int .i64 t226):=(blk_cell BK227.out 1).trans rfl
     have hfz20_0:=blk_frozen BK227.out 0
     have hfz20_1:=blk_frozen BK227.out 1
     go_wp2
     repeat (go_quiet (fail);try go_wp2)
     go_meet
     case rel => exact ⟨_,(true),(by first | rfl | (simp;done) | (simp [*];done)),H',⟨by first | omega | exact Nat.le_refl _⟩,⟨by (with_reducible repeat (first | apply Kd.R_alloc | apply Kd.R_drewN | apply Kd.R_drew));exact Kd.R_mono (Kd.R_far (p:=⟨gb234,3,none⟩) (Kd.R_far (p:=⟨gb234,2,none⟩) (Kd.R_far (p:=⟨gb234,1,none⟩) (Kd.R_far (p:=⟨gb234,0,none⟩) (Kd.R_types HO223.out BK234.out (by decide)) (fun _ hk => hk.2) (.slice Ao13 t228.length co13)) (fun _ hk => hk.2) (.int .i64 t231)) (fun _ hk => hk.2) (.int .i64 t232)) (fun _ hk => hk.2) (.int .i64 t233)) (fun _ hk => trivial)⟩,⟨by (with_reducible repeat (first | apply Kd.R_alloc | apply Kd.R_drewN | apply Kd.R_drew));exact Kd.R_mono (Kd.R_far (p:=⟨gb234,3,none⟩) (Kd.R_far (p:=⟨gb234,2,none⟩) (Kd.R_far (p:=⟨gb234,1,none⟩) (Kd.R_far (p:=⟨gb234,0,none⟩) (Kd.R_types HO230.out BK234.out (by decide)) (fun _ hk => hk.2) (.slice Ao13 t228.length co13)) (fun _ hk => hk.2) (.int .i64 t231)) (fun _ hk => hk.2) (.int .i64 t232)) (fun _ hk => hk.2) (.int .i64 t233)) (fun _ hk => trivial)⟩,⟨by (with_reducible repeat (first | refine blk_drewN ?_ _ | refine blk_drew ?_ | refine blk_alloc ?_ _));refine blk_far ?_ NB227_234.out _;(with_reducible repeat (first | refine blk_drewN ?_ _ | refine blk_drew ?_ | refine blk_alloc ?_ _));refine blk_far ?_ NB227_234.out _;(with_reducible repeat (first | refine blk_drewN ?_ _ | refine blk_drew ?_ | refine blk_alloc ?_ _));refine blk_far ?_ NB227_234.out _;(with_reducible repeat (first | refine blk_drewN ?_ _ | refine blk_drew ?_ | refine blk_alloc ?_ _));refine blk_far ?_ NB227_234.out _;(with_reducible repeat (first | refine blk_drewN ?_ _ | refine blk_drew ?_ | refine blk_alloc ?_ _));exact BK227.out⟩,⟨by (with_reducible repeat (first | refine blk_drewN ?_ _ | refine blk_drew ?_ | refine blk_alloc ?_ _));refine blk_put (cs:=#[.slice Ao13 t228.length co13,.int .i64 t231,.int .i64 t232,.int .i64 0]) ?_ 3 _ rfl;(with_reducible repeat (first | refine blk_drewN ?_ _ | refine blk_drew ?_ | refine blk_alloc ?_ _));refine blk_put (cs:=#[.slice Ao13 t228.length co13,.int .i64 t231,.int .i64 0,.int .i64 0]) ?_ 2 _ rfl;(with_reducible repeat (first | refine blk_drewN ?_ _ | refine blk_drew ?_ | refine blk_alloc ?_ _));refine blk_put (cs:=#[.slice Ao13 t228.length co13,.int .i64 0,.int .i64 0,.int .i64 0]) ?_ 1 _ rfl;(with_reducible repeat (first | refine blk_drewN ?_ _ | refine blk_drew ?_ | refine blk_alloc ?_ _));refine blk_put (cs:=#[.slice none 0 0,.int .i64 0,.int .i64 0,.int .i64 0]) ?_ 0 _ rfl;(with_reducible repeat (first | refine blk_drewN ?_ _ | refine blk_drew ?_ | refine blk_alloc ?_ _));exact BK234.out⟩,⟨by repeat (first | (with_reducible first | exact HB.out | apply below_alloc | apply pw_below_drewN | apply below_drew1 | refine below_set ?_ GE227.out | refine below_set ?_ GE234.out) | exact HB.out)⟩⟩
    ·rw [if_neg c17] at H
     have c17b0 : (!(t225 == t232) || (!(t226 == t233))) = false:=by simpa using c17
     clear c17
     by_cases c21 : t224 = 0
     ·rw [if_pos c21] at H
      have c21b0 : (t224 == 0) = true:=beq_iff_eq.mpr c21
      have c21b1 : (t224 != 0) = false:=bne_eq_false_iff_eq.mpr c21
      clear c21
      by_cases c22 : (t221.length : Int) = (t228.length : Int)
      ·rw [if_pos c22] at H
       have c22b0 : ((t221.length : Int) == (t228.length : Int)) = true:=beq_iff_eq.mpr c22
       have c22b1 : ((t221.length : Int) != (t228.length : Int)) = false:=bne_eq_false_iff_eq.mpr c22
       have c22b2 : (t221.length == t228.length) = true:=by first | simpa using c22 | (simp at c22 ⊢;omega)
       clear c22
       replace H:=Option.bind_eq_some_iff.mp H
       obtain ⟨⟨t235,t236⟩,A230,H⟩:=H
       replace H : ((tachographref21_Place.f k a0 (a0.size : Int)).bind fun bt237 => (tachographlaw21_LexAll.j0 k t221 (!(t235 == bt237.1) || (!(t236 == bt237.2))) t228 t231 t232 t233)) = some r:=H
       have A23:=Aside0.mk A230
       clear A230
       replace H:=Option.bind_eq_some_iff.mp H
       obtain ⟨⟨t237,t238⟩,A240,H⟩:=H
       replace H : (tachographlaw21_LexAll.j0 k t221 (!(t235 == t237) || (!(t236 == t238))) t228 t231 t232 t233) = some r:=H
       have A24:=Aside0.mk A240
       clear A240
       have H':=Aside0.mk H
       clear H
       have hnb25:=NB234_227.out
       have hnc25:=NB227_234.out
       have hcz26_0 : w12.cell? ⟨gb234,0,none⟩ = some (.slice none 0 0):=(blk_cell BK234.out 0).trans rfl
       have hcz26_1 : w12.cell? ⟨gb234,1,none⟩ = some (.int .i64 0):=(blk_cell BK234.out 1).trans rfl
       have hcz26_2 : w12.cell? ⟨gb234,2,none⟩ = some (.int .i64 0):=(blk_cell BK234.out 2).trans rfl
       have hcz26_3 : w12.cell? ⟨gb234,3,none⟩ = some (.int .i64 0):=(blk_cell BK234.out 3).trans rfl
       have hfz26_0:=blk_frozen BK234.out 0
       have hfz26_1:=blk_frozen BK234.out 1
       have hfz26_2:=blk_frozen BK234.out 2
       have hfz26_3:=blk_frozen BK234.out 3
       have hcz27_0 : w12.cell? ⟨gb227,0,none⟩ = some (.int .i64 t225):=(blk_cell BK227.out 0).trans rfl
       have hcz27_1 : w12.cell? ⟨gb227,1,none⟩ = some (.int .i64 t226):=(blk_cell BK227.out 1).trans rfl
       have hfz27_0:=blk_frozen BK227.out 0
       have hfz27_1:=blk_frozen BK227.out 1
       obtain ⟨Ao28,co28,eo28⟩:=Kd.R_slice HO223.out
       subst eo28
       go_wp2_with (first | (go_at_call 19;(with_reducible refine (lex_End.calls a0 t235 t236 _ A23.out).mono ?_);rintro e w29 ⟨rfl,hb⟩;have n0_:=Aside0.mk (Kd.R_below (by (with_reducible repeat (first | apply Kd.R_alloc | apply Kd.R_drewN | apply Kd.R_drew));exact (Kd.R_mono (Kd.R_far (p:=⟨gb234,3,none⟩) (Kd.R_far (p:=⟨gb234,2,none⟩) (Kd.R_far (p:=⟨gb234,1,none⟩) (Kd.R_far (p:=⟨gb234,0,none⟩) (Kd.R_types HO223.out BK234.out (by decide)) (fun _ hk => hk.2) (.slice Ao13 t228.length co13)) (fun _ hk => hk.2) (.int .i64 t231)) (fun _ hk => hk.2) (.int .i64 t232)) (fun _ hk => hk.2) (.int .i64 t233)) (fun _ h_ => h_.1))) hb);have n1_:=Aside0.mk (Kd.R_below (by (with_reducible repeat (first | apply Kd.R_alloc | apply Kd.R_drewN | apply Kd.R_drew));exact (Kd.R_mono (Kd.R_far (p:=⟨gb234,3,none⟩) (Kd.R_far (p:=⟨gb234,2,none⟩) (Kd.R_far (p:=⟨gb234,1,none⟩) (Kd.R_far (p:=⟨gb234,0,none⟩) (Kd.R_types HO230.out BK234.out (by decide)) (fun _ hk => hk.2) (.slice Ao13 t228.length co13)) (fun _ hk => hk.2) (.int .i64 t231)) (fun _ hk => hk.2) (.int .i64 t232)) (fun _ hk => hk.2) (.int .i64 t233)) (fun _ h_ => h_.1))) hb);have n2_:=Aside0.mk (blk_below (g:=gb227) (o:=.cells #[.int .i64 t225,.int .i64 t226] 36 (0,0)) (by (with_reducible repeat (first | refine blk_drewN ?_ _ | refine blk_drew ?_ | refine blk_alloc ?_ _));refine blk_far ?_ NB227_234.out _;(with_reducible repeat (first | refine blk_drewN ?_ _ | refine blk_drew ?_ | refine blk_alloc ?_ _));refine blk_far ?_ NB227_234.out _;(with_reducible repeat (first | refine blk_drewN ?_ _ | refine blk_drew ?_ | refine blk_alloc ?_ _));refine blk_far ?_ NB227_234.out _;(with_reducible repeat (first | refine blk_drewN ?_ _ | refine blk_drew ?_ | refine blk_alloc ?_ _));refine blk_far ?_ NB227_234.out _;(with_reducible repeat (first | refine blk_drewN ?_ _ | refine blk_drew ?_ | refine blk_alloc ?_ _));exact BK227.out) hb);have n3_:=Aside0.mk (blk_below (g:=gb234) (o:=.cells #[.slice Ao13 t228.length co13,.int .i64 t231,.int .i64 t232,.int .i64 t233] 41 (0,0)) (by (with_reducible repeat (first | refine blk_drewN ?_ _ | refine blk_drew ?_ | refine blk_alloc ?_ _));refine blk_put (cs:=#[.slice Ao13 t228.length co13,.int .i64 t231,.int .i64 t232,.int .i64 0]) ?_ 3 _ rfl;(with_reducible repeat (first | refine blk_drewN ?_ _ | refine blk_drew ?_ | refine blk_alloc ?_ _));refine blk_put (cs:=#[.slice Ao13 t228.length co13,.int .i64 t231,.int .i64 0,.int .i64 0]) ?_ 2 _ rfl;(with_reducible repeat (first | refine blk_drewN ?_ _ | refine blk_drew ?_ | refine blk_alloc ?_ _));refine blk_put (cs:=#[.slice Ao13 t228.length co13,.int .i64 0,.int .i64 0,.int .i64 0]) ?_ 1 _ rfl;(with_reducible repeat (first | refine blk_drewN ?_ _ | refine blk_drew ?_ | refine blk_alloc ?_ _));refine blk_put (cs:=#[.slice none 0 0,.int .i64 0,.int .i64 0,.int .i64 0]) ?_ 0 _ rfl;(with_reducible repeat (first | refine blk_drewN ?_ _ | refine blk_drew ?_ | refine blk_alloc ?_ _));exact BK234.out) hb);have n4_:=Aside0.mk (below_step (by repeat (first | (with_reducible first | exact HB.out | apply below_alloc | apply pw_below_drewN | apply below_drew1 | refine below_set ?_ GE227.out | refine below_set ?_ GE234.out) | exact HB.out)) hb);clear HO223;clear HO230;clear BK227;clear BK234;clear HB;have HO223:=n0_;have HO230:=n1_;have BK227:=n2_;have BK234:=n3_;have HB:=n4_;clear n0_ n1_ n2_ n3_ n4_;(try clear hb);(try clear hb2);(try clear hk);(try clear hi)) | (go_at_call 20;(with_reducible refine (tachographref21_Place.calls k a0 (a0.size : Int) t237 t238 _ A24.out).mono ?_);rintro e w30 ⟨rfl,hb⟩;have n0_:=Aside0.mk (Kd.R_below (by (with_reducible repeat (first | apply Kd.R_alloc | apply Kd.R_drewN | apply Kd.R_drew));exact HO223.out) hb);have n1_:=Aside0.mk (Kd.R_below (by (with_reducible repeat (first | apply Kd.R_alloc | apply Kd.R_drewN | apply Kd.R_drew));exact HO230.out) hb);have n2_:=Aside0.mk (blk_below (g:=gb227) (o:=.cells #[.int .i64 t225,.int .i64 t226] 36 (0,0)) (by (with_reducible repeat (first | refine blk_drewN ?_ _ | refine blk_drew ?_ | refine blk_alloc ?_ _));exact BK227.out) hb);have n3_:=Aside0.mk (blk_below (g:=gb234) (o:=.cells #[.slice Ao13 t228.length co13,.int .i64 t231,.int .i64 t232,.int .i64 t233] 41 (0,0)) (by (with_reducible repeat (first | refine blk_drewN ?_ _ | refine blk_drew ?_ | refine blk_alloc ?_ _));exact BK234.out) hb);have n4_:=Aside0.mk (below_step (by repeat (first | (with_reducible first | exact HB.out | apply below_alloc | apply pw_below_drewN | apply below_drew1 | refine below_set ?_ GE227.out | refine below_set ?_ GE234.out) | exact HB.out)) hb);clear HO223;clear HO230;clear BK227;clear BK234;clear HB;have HO223:=n0_;have HO230:=n1_;have BK227:=n2_;have BK234:=n3_;have HB:=n4_;clear n0_ n1_ n2_ n3_ n4_;(try clear hb);(try clear hb2);(try clear hk);(try clear hi)))
       repeat (go_quiet (first | (go_at_call 19;(with_reducible refine (lex_End.calls a0 t235 t236 _ A23.out).mono ?_);rintro e w29 ⟨rfl,hb⟩;have n0_:=Aside0.mk (Kd.R_below (by (with_reducible repeat (first | apply Kd.R_alloc | apply Kd.R_drewN | apply Kd.R_drew));exact (Kd.R_mono (Kd.R_far (p:=⟨gb234,3,none⟩) (Kd.R_far (p:=⟨gb234,2,none⟩) (Kd.R_far (p:=⟨gb234,1,none⟩) (Kd.R_far (p:=⟨gb234,0,none⟩) (Kd.R_types HO223.out BK234.out (by decide)) (fun _ hk => hk.2) (.slice Ao13 t228.length co13)) (fun _ hk => hk.2) (.int .i64 t231)) (fun _ hk => hk.2) (.int .i64 t232)) (fun _ hk => hk.2) (.int .i64 t233)) (fun _ h_ => h_.1))) hb);have n1_:=Aside0.mk (Kd.R_below (by (with_reducible repeat (first | apply Kd.R_alloc | apply Kd.R_drewN | apply Kd.R_drew));exact (Kd.R_mono (Kd.R_far (p:=⟨gb234,3,none⟩) (Kd.R_far (p:=⟨gb234,2,none⟩) (Kd.R_far (p:=⟨gb234,1,none⟩) (Kd.R_far (p:=⟨gb234,0,none⟩) (Kd.R_types HO230.out BK234.out (by decide)) (fun _ hk => hk.2) (.slice Ao13 t228.length co13)) (fun _ hk => hk.2) (.int .i64 t231)) (fun _ hk => hk.2) (.int .i64 t232)) (fun _ hk => hk.2) (.int .i64 t233)) (fun _ h_ => h_.1))) hb);have n2_:=Aside0.mk (blk_below (g:=gb227) (o:=.cells #[.int .i64 t225,.int .i64 t226] 36 (0,0)) (by (with_reducible repeat (first | refine blk_drewN ?_ _ | refine blk_drew ?_ | refine blk_alloc ?_ _));refine blk_far ?_ NB227_234.out _;(with_reducible repeat (first | refine blk_drewN ?_ _ | refine blk_drew ?_ | refine blk_alloc ?_ _));refine blk_far ?_ NB227_234.out _;(with_reducible repeat (first | refine blk_drewN ?_ _ | refine blk_drew ?_ | refine blk_alloc ?_ _));refine blk_far ?_ NB227_234.out _;(with_reducible repeat (first | refine blk_drewN ?_ _ | refine blk_drew ?_ | refine blk_alloc ?_ _));refine blk_far ?_ NB227_234.out _;(with_reducible repeat (first | refine blk_drewN ?_ _ | refine blk_drew ?_ | refine blk_alloc ?_ _));exact BK227.out) hb);have n3_:=Aside0.mk (blk_below (g:=gb234) (o:=.cells #[.slice Ao13 t228.length co13,.int .i64 t231,.int .i64 t232,.int .i64 t233] 41 (0,0)) (by (with_reducible repeat (first | refine blk_drewN ?_ _ | refine blk_drew ?_ | refine blk_alloc ?_ _));refine blk_put (cs:=#[.slice Ao13 t228.length co13,.int .i64 t231,.int .i64 t232,.int .i64 0]) ?_ 3 _ rfl;(with_reducible repeat (first | refine blk_drewN ?_ _ | refine blk_drew ?_ | refine blk_alloc ?_ _));refine blk_put (cs:=#[.slice Ao13 t228.length co13,.int .i64 t231,.int .i64 0,.int .i64 0]) ?_ 2 _ rfl;(with_reducible repeat (first | refine blk_drewN ?_ _ | refine blk_drew ?_ | refine blk_alloc ?_ _));refine blk_put (cs:=#[.slice Ao13 t228.length co13,.int .i64 0,.int .i64 0,.int .i64 0]) ?_ 1 _ rfl;(with_reducible repeat (first | refine blk_drewN ?_ _ | refine blk_drew ?_ | refine blk_alloc ?_ _));refine blk_put (cs:=#[.slice none 0 0,.int .i64 0,.int .i64 0,.int .i64 0]) ?_ 0 _ rfl;(with_reducible repeat (first | refine blk_drewN ?_ _ | refine blk_drew ?_ | refine blk_alloc ?_ _));exact BK234.out) hb);have n4_:=Aside0.mk (below_step (by repeat (first | (with_reducible first | exact HB.out | apply below_alloc | apply pw_below_drewN | apply below_drew1 | refine below_set ?_ GE227.out | refine below_set ?_ GE234.out) | exact HB.out)) hb);clear HO223;clear HO230;clear BK227;clear BK234;clear HB;have HO223:=n0_;have HO230:=n1_;have BK227:=n2_;have BK234:=n3_;have HB:=n4_;clear n0_ n1_ n2_ n3_ n4_;(try clear hb);(try clear hb2);(try clear hk);(try clear hi)) | (go_at_call 20;(with_reducible refine (tachographref21_Place.calls k a0 (a0.size : Int) t237 t238 _ A24.out).mono ?_);rintro e w30 ⟨rfl,hb⟩;have n0_:=Aside0.mk (Kd.R_below (by (with_reducible repeat (first | apply Kd.R_alloc | apply Kd.R_drewN | apply Kd.R_drew));exact HO223.out) hb);have n1_:=Aside0.mk (Kd.R_below (by (with_reducible repeat (first | apply Kd.R_alloc | apply Kd.R_drewN | apply Kd.R_drew));exact HO230.out) hb);have n2_:=Aside0.mk (blk_below (g:=gb227) (o:=.cells #[.int .i64 t225,.int .i64 t226] 36 (0,0)) (by (with_reducible repeat (first | refine blk_drewN ?_ _ | refine blk_drew ?_ | refine blk_alloc ?_ _));exact BK227.out) hb);have n3_:=Aside0.mk (blk_below (g:=gb234) (o:=.cells #[.slice Ao13 t228.length co13,.int .i64 t231,.int .i64 t232,.int .i64 t233] 41 (0,0)) (by (with_reducible repeat (first | refine blk_drewN ?_ _ | refine blk_drew ?_ | refine blk_alloc ?_ _));exact BK234.out) hb);have n4_:=Aside0.mk (below_step (by repeat (first | (with_reducible first | exact HB.out | apply below_alloc | apply pw_below_drewN | apply below_drew1 | refine below_set ?_ GE227.out | refine below_set ?_ GE234.out) | exact HB.out)) hb);clear HO223;clear HO230;clear BK227;clear BK234;clear HB;have HO223:=n0_;have HO230:=n1_;have BK227:=n2_;have BK234:=n3_;have HB:=n4_;clear n0_ n1_ n2_ n3_ n4_;(try clear hb);(try clear hb2);(try clear hk);(try clear hi)));try go_wp2_with (first | (go_at_call 19;(with_reducible refine (lex_End.calls a0 t235 t236 _ A23.out).mono ?_);rintro e w29 ⟨rfl,hb⟩;have n0_:=Aside0.mk (Kd.R_below (by (with_reducible repeat (first | apply Kd.R_alloc | apply Kd.R_drewN | apply Kd.R_drew));exact (Kd.R_mono (Kd.R_far (p:=⟨gb234,3,none⟩) (Kd.R_far (p:=⟨gb234,2,none⟩) (Kd.R_far (p:=⟨gb234,1,none⟩) (Kd.R_far (p:=⟨gb234,0,none⟩) (Kd.R_types HO223.out BK234.out (by decide)) (fun _ hk => hk.2) (.slice Ao13 t228.length co13)) (fun _ hk => hk.2) (.int .i64 t231)) (fun _ hk => hk.2) (.int .i64 t232)) (fun _ hk => hk.2) (.int .i64 t233)) (fun _ h_ => h_.1))) hb);have n1_:=Aside0.mk (Kd.R_below (by (with_reducible repeat (first | apply Kd.R_alloc | apply Kd.R_drewN | apply Kd.R_drew));exact (Kd.R_mono (Kd.R_far (p:=⟨gb234,3,none⟩) (Kd.R_far (p:=⟨gb234,2,none⟩) (Kd.R_far (p:=⟨gb234,1,none⟩) (Kd.R_far (p:=⟨gb234,0,none⟩) (Kd.R_types HO230.out BK234.out (by decide)) (fun _ hk => hk.2) (.slice Ao13 t228.length co13)) (fun _ hk => hk.2) (.int .i64 t231)) (fun _ hk => hk.2) (.int .i64 t232)) (fun _ hk => hk.2) (.int .i64 t233)) (fun _ h_ => h_.1))) hb);have n2_:=Aside0.mk (blk_below (g:=gb227) (o:=.cells #[.int .i64 t225,.int .i64 t226] 36 (0,0)) (by (with_reducible repeat (first | refine blk_drewN ?_ _ | refine blk_drew ?_ | refine blk_alloc ?_ _));refine blk_far ?_ NB227_234.out _;(with_reducible repeat (first | refine blk_drewN ?_ _ | refine blk_drew ?_ | refine blk_alloc ?_ _));refine blk_far ?_ NB227_234.out _;(with_reducible repeat (first | refine blk_drewN ?_ _ | refine blk_drew ?_ | refine blk_alloc ?_ _));refine blk_far ?_ NB227_234.out _;(with_reducible repeat (first | refine blk_drewN ?_ _ | refine blk_drew ?_ | refine blk_alloc ?_ _));refine blk_far ?_ NB227_234.out _;(with_reducible repeat (first | refine blk_drewN ?_ _ | refine blk_drew ?_ | refine blk_alloc ?_ _));exact BK227.out) hb);have n3_:=Aside0.mk (blk_below (g:=gb234) (o:=.cells #[.slice Ao13 t228.length co13,.int .i64 t231,.int .i64 t232,.int .i64 t233] 41 (0,0)) (by (with_reducible repeat (first | refine blk_drewN ?_ _ | refine blk_drew ?_ | refine blk_alloc ?_ _));refine blk_put (cs:=#[.slice Ao13 t228.length co13,.int .i64 t231,.int .i64 t232,.int .i64 0]) ?_ 3 _ rfl;(with_reducible repeat (first | refine blk_drewN ?_ _ | refine blk_drew ?_ | refine blk_alloc ?_ _));refine blk_put (cs:=#[.slice Ao13 t228.length co13,.int .i64 t231,.int .i64 0,.int .i64 0]) ?_ 2 _ rfl;(with_reducible repeat (first | refine blk_drewN ?_ _ | refine blk_drew ?_ | refine blk_alloc ?_ _));refine blk_put (cs:=#[.slice Ao13 t228.length co13,.int .i64 0,.int .i64 0,.int .i64 0]) ?_ 1 _ rfl;(with_reducible repeat (first | refine blk_drewN ?_ _ | refine blk_drew ?_ | refine blk_alloc ?_ _));refine blk_put (cs:=#[.slice none 0 0,.int .i64 0,.int .i64 0,.int .i64 0]) ?_ 0 _ rfl;(with_reducible repeat (first | refine blk_drewN ?_ _ | refine blk_drew ?_ | refine blk_alloc ?_ _));exact BK234.out) hb);have n4_:=Aside0.mk (below_step (by repeat (first | (with_reducible first | exact HB.out | apply below_alloc | apply pw_below_drewN | apply below_drew1 | refine below_set ?_ GE227.out | refine below_set ?_ GE234.out) | exact HB.out)) hb);clear HO223;clear HO230;clear BK227;clear BK234;clear HB;have HO223:=n0_;have HO230:=n1_;have BK227:=n2_;have BK234:=n3_;have HB:=n4_;clear n0_ n1_ n2_ n3_ n4_;(try clear hb);(try clear hb2);(try clear hk);(try clear hi)) | (go_at_call 20;(with_reducible refine (tachographref21_Place.calls k a0 (a0.size : Int) t237 t238 _ A24.out).mono ?_);rintro e w30 ⟨rfl,hb⟩;have n0_:=Aside0.mk (Kd.R_below (by (with_reducible repeat (first | apply Kd.R_alloc | apply Kd.R_drewN | apply Kd.R_drew));exact HO223.out) hb);have n1_:=Aside0.mk (Kd.R_below (by (with_reducible repeat (first | apply Kd.R_alloc | apply Kd.R_drewN | apply Kd.R_drew));exact HO230.out) hb);have n2_:=Aside0.mk (blk_below (g:=gb227) (o:=.cells #[.int .i64 t225,.int .i64 t226] 36 (0,0)) (by (with_reducible repeat (first | refine blk_drewN ?_ _ | refine blk_drew ?_ | refine blk_alloc ?_ _));exact BK227.out) hb);have n3_:=Aside0.mk (blk_below (g:=gb234) (o:=.cells #[.slice Ao13 t228.length co13,.int .i64 t231,.int .i64 t232,.int .i64 t233] 41 (0,0)) (by (with_reducible repeat (first | refine blk_drewN ?_ _ | refine blk_drew ?_ | refine blk_alloc ?_ _));exact BK234.out) hb);have n4_:=Aside0.mk (below_step (by repeat (first | (with_reducible first | exact HB.out | apply below_alloc | apply pw_below_drewN | apply below_drew1 | refine below_set ?_ GE227.out | refine below_set ?_ GE234.out) | exact HB.out)) hb);clear HO223;clear HO230;clear BK227;clear BK234;clear HB;have HO223:=n0_;have HO230:=n1_;have BK227:=n2_;have BK234:=n3_;have HB:=n4_;clear n0_ n1_ n2_ n3_ n4_;(try clear hb);(try clear hb2);(try clear hk);(try clear hi))))
       go_meet
       case rel => exact ⟨_,((!(t235 == t237) || (!(t236 == t238)))),(by first | rfl | (simp;done) | (simp [*];done)),H',⟨by first | omega | exact Nat.le_refl _⟩,⟨by (with_reducible repeat (first | apply Kd.R_alloc | apply Kd.R_drewN | apply Kd.R_drew));exact HO223.out⟩,⟨by (with_reducible repeat (first | apply Kd.R_alloc | apply Kd.R_drewN | apply Kd.R_drew));exact HO230.out⟩,⟨by (with_reducible repeat (first | refine blk_drewN ?_ _ | refine blk_drew ?_ | refine blk_alloc ?_ _));exact BK227.out⟩,⟨by (with_reducible repeat (first | refine blk_drewN ?_ _ | refine blk_drew ?_ | refine blk_alloc ?_ _));exact BK234.out⟩,⟨by repeat (first | (with_reducible first | exact HB.out | apply below_alloc | apply pw_below_drewN | apply below_drew1 | refine below_set ?_ GE227.out | refine below_set ?_ GE234.out) | exact HB.out)⟩⟩
      ·rw [if_neg c22] at H
       have c22b0 : ((t221.length : Int) == (t228.length : Int)) = false:=beq_eq_false_iff_ne.mpr c22
       have c22b1 : ((t221.length : Int) != (t228.length : Int)) = true:=bne_iff_ne.mpr c22
       have c22b2 : (t221.length == t228.length) = false:=by first | simpa using c22 | (simp at c22 ⊢;omega)
       have H':=Aside0.mk H
       clear H
       have hnb31:=NB234_227.out
       have hnc31:=NB227_234.out
       have hcz32_0 : w12.cell? ⟨gb234,0,none⟩ = some (.slice none 0 0):=(blk_cell BK234.out 0).trans rfl
       have hcz32_1 : w12.cell? ⟨gb234,1,none⟩ = some (.int .i64 0):=(blk_cell BK234.out 1).trans rfl
       have hcz32_2 : w12.cell? ⟨gb234,2,none⟩ = some (.int .i64 0):=(blk_cell BK234.out 2).trans rfl
       have hcz32_3 : w12.cell? ⟨gb234,3,none⟩ = some (.int .i64 0):=(blk_cell BK234.out 3).trans rfl
       have hfz32_0:=blk_frozen BK234.out 0
       have hfz32_1:=blk_frozen BK234.out 1
       have hfz32_2:=blk_frozen BK234.out 2
       have hfz32_3:=blk_frozen BK234.out 3
       have hcz33_0 : w12.cell? ⟨gb227,0,none⟩ = some (.int .i64 t225):=(blk_cell BK227.out 0).trans rfl
       have hcz33_1 : w12.cell? ⟨gb227,1,none⟩ = some (.int .i64 t226):=(blk_cell BK227.out 1).trans rfl
       have hfz33_0:=blk_frozen BK227.out 0
       have hfz33_1:=blk_frozen BK227.out 1
       obtain ⟨Ao34,co34,eo34⟩:=Kd.R_slice HO223.out
       subst eo34
       go_wp2
       repeat (go_quiet (fail);try go_wp2)
       go_meet
       case rel => exact ⟨_,(true),(by first | rfl | (simp;done) | (simp [*];done)),H',⟨by first | omega | exact Nat.le_refl _⟩,⟨by (with_reducible repeat (first | apply Kd.R_alloc | apply Kd.R_drewN | apply Kd.R_drew));exact Kd.R_mono (Kd.R_far (p:=⟨gb234,3,none⟩) (Kd.R_far (p:=⟨gb234,2,none⟩) (Kd.R_far (p:=⟨gb234,1,none⟩) (Kd.R_far (p:=⟨gb234,0,none⟩) (Kd.R_types HO223.out BK234.out (by decide)) (fun _ hk => hk.2) (.slice Ao13 t228.length co13)) (fun _ hk => hk.2) (.int .i64 t231)) (fun _ hk => hk.2) (.int .i64 t232)) (fun _ hk => hk.2) (.int .i64 t233)) (fun _ hk => trivial)⟩,⟨by (with_reducible repeat (first | apply Kd.R_alloc | apply Kd.R_drewN | apply Kd.R_drew));exact Kd.R_mono (Kd.R_far (p:=⟨gb234,3,none⟩) (Kd.R_far (p:=⟨gb234,2,none⟩) (Kd.R_far (p:=⟨gb234,1,none⟩) (Kd.R_far (p:=⟨gb234,0,none⟩) (Kd.R_types HO230.out BK234.out (by decide)) (fun _ hk => hk.2) (.slice Ao13 t228.length co13)) (fun _ hk => hk.2) (.int .i64 t231)) (fun _ hk => hk.2) (.int .i64 t232)) (fun _ hk => hk.2) (.int .i64 t233)) (fun _ hk => trivial)⟩,⟨by (with_reducible repeat (first | refine blk_drewN ?_ _ | refine blk_drew ?_ | refine blk_alloc ?_ _));refine blk_far ?_ NB227_234.out _;(with_reducible repeat (first | refine blk_drewN ?_ _ | refine blk_drew ?_ | refine blk_alloc ?_ _));refine blk_far ?_ NB227_234.out _;(with_reducible repeat (first | refine blk_drewN ?_ _ | refine blk_drew ?_ | refine blk_alloc ?_ _));refine blk_far ?_ NB227_234.out _;(with_reducible repeat (first | refine blk_drewN ?_ _ | refine blk_drew ?_ | refine blk_alloc ?_ _));refine blk_far ?_ NB227_234.out _;(with_reducible repeat (first | refine blk_drewN ?_ _ | refine blk_drew ?_ | refine blk_alloc ?_ _));exact BK227.out⟩,⟨by (with_reducible repeat (first | refine blk_drewN ?_ _ | refine blk_drew ?_ | refine blk_alloc ?_ _));refine blk_put (cs:=#[.slice Ao13 t228.length co13,.int .i64 t231,.int .i64 t232,.int .i64 0]) ?_ 3 _ rfl;(with_reducible repeat (first | refine blk_drewN ?_ _ | refine blk_drew ?_ | refine blk_alloc ?_ _));refine blk_put (cs:=#[.slice Ao13 t228.length co13,.int .i64 t231,.int .i64 0,.int .i64 0]) ?_ 2 _ rfl;(with_reducible repeat (first | refine blk_drewN ?_ _ | refine blk_drew ?_ | refine blk_alloc ?_ _));refine blk_put (cs:=#[.slice Ao13 t228.length co13,.int .i64 0,.int .i64 0,.int .i64 0]) ?_ 1 _ rfl;(with_reducible repeat (first | refine blk_drewN ?_ _ | refine blk_drew ?_ | refine blk_alloc ?_ _));refine blk_put (cs:=#[.slice none 0 0,.int .i64 0,.int .i64 0,.int .i64 0]) ?_ 0 _ rfl;(with_reducible repeat (first | refine blk_drewN ?_ _ | refine blk_drew ?_ | refine blk_alloc ?_ _));exact BK234.out⟩,⟨by repeat (first | (with_reducible first | exact HB.out | apply below_alloc | apply pw_below_drewN | apply below_drew1 | refine below_set ?_ GE227.out | refine below_set ?_ GE234.out) | exact HB.out)⟩⟩
     ·rw [if_neg c21] at H
      have c21b0 : (t224 == 0) = false:=beq_eq_false_iff_ne.mpr c21
      have c21b1 : (t224 != 0) = true:=bne_iff_ne.mpr c21
      by_cases c35 : (t221.length : Int) = 0
      ·rw [if_pos c35] at H
       have c35b0 : ((t221.length : Int) == 0) = true:=beq_iff_eq.mpr c35
       have c35b1 : ((t221.length : Int) != 0) = false:=bne_eq_false_iff_eq.mpr c35
       clear c35
       replace H:=Option.bind_eq_some_iff.mp H
       obtain ⟨⟨t239,t240⟩,A360,H⟩:=H
       replace H : ((tachographref21_Place.f k a0 (a0.size : Int)).bind fun bt241 => (tachographlaw21_LexAll.j0 k t221 (!(t239 == bt241.1) || (!(t240 == bt241.2))) t228 t231 t232 t233)) = some r:=H
       have A36:=Aside0.mk A360
       clear A360
       replace H:=Option.bind_eq_some_iff.mp H
       obtain ⟨⟨t241,t242⟩,A370,H⟩:=H
       replace H : (tachographlaw21_LexAll.j0 k t221 (!(t239 == t241) || (!(t240 == t242))) t228 t231 t232 t233) = some r:=H
       have A37:=Aside0.mk A370
       clear A370
       have H':=Aside0.mk H
       clear H
       have hnb38:=NB234_227.out
       have hnc38:=NB227_234.out
       have hcz39_0 : w12.cell? ⟨gb234,0,none⟩ = some (.slice none 0 0):=(blk_cell BK234.out 0).trans rfl
       have hcz39_1 : w12.cell? ⟨gb234,1,none⟩ = some (.int .i64 0):=(blk_cell BK234.out 1).trans rfl
       have hcz39_2 : w12.cell? ⟨gb234,2,none⟩ = some (.int .i64 0):=(blk_cell BK234.out 2).trans rfl
       have hcz39_3 : w12.cell? ⟨gb234,3,none⟩ = some (.int .i64 0):=(blk_cell BK234.out 3).trans rfl
       have hfz39_0:=blk_frozen BK234.out 0
       have hfz39_1:=blk_frozen BK234.out 1
       have hfz39_2:=blk_frozen BK234.out 2
       have hfz39_3:=blk_frozen BK234.out 3
       have hcz40_0 : w12.cell? ⟨gb227,0,none⟩ = some (.int .i64 t225):=(blk_cell BK227.out 0).trans rfl
       have hcz40_1 : w12.cell? ⟨gb227,1,none⟩ = some (.int .i64 t226):=(blk_cell BK227.out 1).trans rfl
       have hfz40_0:=blk_frozen BK227.out 0
       have hfz40_1:=blk_frozen BK227.out 1
       obtain ⟨Ao41,co41,eo41⟩:=Kd.R_slice HO223.out
       subst eo41
       go_wp2_with (first | (go_at_call 19;(with_reducible refine (lex_End.calls a0 t239 t240 _ A36.out).mono ?_);rintro e w42 ⟨rfl,hb⟩;have n0_:=Aside0.mk (Kd.R_below (by (with_reducible repeat (first | apply Kd.R_alloc | apply Kd.R_drewN | apply Kd.R_drew));exact (Kd.R_mono (Kd.R_far (p:=⟨gb234,3,none⟩) (Kd.R_far (p:=⟨gb234,2,none⟩) (Kd.R_far (p:=⟨gb234,1,none⟩) (Kd.R_far (p:=⟨gb234,0,none⟩) (Kd.R_types HO223.out BK234.out (by decide)) (fun _ hk => hk.2) (.slice Ao13 t228.length co13)) (fun _ hk => hk.2) (.int .i64 t231)) (fun _ hk => hk.2) (.int .i64 t232)) (fun _ hk => hk.2) (.int .i64 t233)) (fun _ h_ => h_.1))) hb);have n1_:=Aside0.mk (Kd.R_below (by (with_reducible repeat (first | apply Kd.R_alloc | apply Kd.R_drewN | apply Kd.R_drew));exact (Kd.R_mono (Kd.R_far (p:=⟨gb234,3,none⟩) (Kd.R_far (p:=⟨gb234,2,none⟩) (Kd.R_far (p:=⟨gb234,1,none⟩) (Kd.R_far (p:=⟨gb234,0,none⟩) (Kd.R_types HO230.out BK234.out (by decide)) (fun _ hk => hk.2) (.slice Ao13 t228.length co13)) (fun _ hk => hk.2) (.int .i64 t231)) (fun _ hk => hk.2) (.int .i64 t232)) (fun _ hk => hk.2) (.int .i64 t233)) (fun _ h_ => h_.1))) hb);have n2_:=Aside0.mk (blk_below (g:=gb227) (o:=.cells #[.int .i64 t225,.int .i64 t226] 36 (0,0)) (by (with_reducible repeat (first | refine blk_drewN ?_ _ | refine blk_drew ?_ | refine blk_alloc ?_ _));refine blk_far ?_ NB227_234.out _;(with_reducible repeat (first | refine blk_drewN ?_ _ | refine blk_drew ?_ | refine blk_alloc ?_ _));refine blk_far ?_ NB227_234.out _;(with_reducible repeat (first | refine blk_drewN ?_ _ | refine blk_drew ?_ | refine blk_alloc ?_ _));refine blk_far ?_ NB227_234.out _;(with_reducible repeat (first | refine blk_drewN ?_ _ | refine blk_drew ?_ | refine blk_alloc ?_ _));refine blk_far ?_ NB227_234.out _;(with_reducible repeat (first | refine blk_drewN ?_ _ | refine blk_drew ?_ | refine blk_alloc ?_ _));exact BK227.out) hb);have n3_:=Aside0.mk (blk_below (g:=gb234) (o:=.cells #[.slice Ao13 t228.length co13,.int .i64 t231,.int .i64 t232,.int .i64 t233] 41 (0,0)) (by (with_reducible repeat (first | refine blk_drewN ?_ _ | refine blk_drew ?_ | refine blk_alloc ?_ _));refine blk_put (cs:=#[.slice Ao13 t228.length co13,.int .i64 t231,.int .i64 t232,.int .i64 0]) ?_ 3 _ rfl;(with_reducible repeat (first | refine blk_drewN ?_ _ | refine blk_drew ?_ | refine blk_alloc ?_ _));refine blk_put (cs:=#[.slice Ao13 t228.length co13,.int .i64 t231,.int .i64 0,.int .i64 0]) ?_ 2 _ rfl;(with_reducible repeat (first | refine blk_drewN ?_ _ | refine blk_drew ?_ | refine blk_alloc ?_ _));refine blk_put (cs:=#[.slice Ao13 t228.length co13,.int .i64 0,.int .i64 0,.int .i64 0]) ?_ 1 _ rfl;(with_reducible repeat (first | refine blk_drewN ?_ _ | refine blk_drew ?_ | refine blk_alloc ?_ _));refine blk_put (cs:=#[.slice none 0 0,.int .i64 0,.int .i64 0,.int .i64 0]) ?_ 0 _ rfl;(with_reducible repeat (first | refine blk_drewN ?_ _ | refine blk_drew ?_ | refine blk_alloc ?_ _));exact BK234.out) hb);have n4_:=Aside0.mk (below_step (by repeat (first | (with_reducible first | exact HB.out | apply below_alloc | apply pw_below_drewN | apply below_drew1 | refine below_set ?_ GE227.out | refine below_set ?_ GE234.out) | exact HB.out)) hb);clear HO223;clear HO230;clear BK227;clear BK234;clear HB;have HO223:=n0_;have HO230:=n1_;have BK227:=n2_;have BK234:=n3_;have HB:=n4_;clear n0_ n1_ n2_ n3_ n4_;(try clear hb);(try clear hb2);(try clear hk);(try clear hi)) | (go_at_call 20;(with_reducible refine (tachographref21_Place.calls k a0 (a0.size : Int) t241 t242 _ A37.out).mono ?_);rintro e w43 ⟨rfl,hb⟩;have n0_:=Aside0.mk (Kd.R_below (by (with_reducible repeat (first | apply Kd.R_alloc | apply Kd.R_drewN | apply Kd.R_drew));exact HO223.out) hb);have n1_:=Aside0.mk (Kd.R_below (by (with_reducible repeat (first | apply Kd.R_alloc | apply Kd.R_drewN | apply Kd.R_drew));exact HO230.out) hb);have n2_:=Aside0.mk (blk_below (g:=gb227) (o:=.cells #[.int .i64 t225,.int .i64 t226] 36 (0,0)) (by (with_reducible repeat (first | refine blk_drewN ?_ _ | refine blk_drew ?_ | refine blk_alloc ?_ _));exact BK227.out) hb);have n3_:=Aside0.mk (blk_below (g:=gb234) (o:=.cells #[.slice Ao13 t228.length co13,.int .i64 t231,.int .i64 t232,.int .i64 t233] 41 (0,0)) (by (with_reducible repeat (first | refine blk_drewN ?_ _ | refine blk_drew ?_ | refine blk_alloc ?_ _));exact BK234.out) hb);have n4_:=Aside0.mk (below_step (by repeat (first | (with_reducible first | exact HB.out | apply below_alloc | apply pw_below_drewN | apply below_drew1 | refine below_set ?_ GE227.out | refine below_set ?_ GE234.out) | exact HB.out)) hb);clear HO223;clear HO230;clear BK227;clear BK234;clear HB;have HO223:=n0_;have HO230:=n1_;have BK227:=n2_;have BK234:=n3_;have HB:=n4_;clear n0_ n1_ n2_ n3_ n4_;(try clear hb);(try clear hb2);(try clear hk);(try clear hi)))
       repeat (go_quiet (first | (go_at_call 19;(with_reducible refine (lex_End.calls a0 t239 t240 _ A36.out).mono ?_);rintro e w42 ⟨rfl,hb⟩;have n0_:=Aside0.mk (Kd.R_below (by (with_reducible repeat (first | apply Kd.R_alloc | apply Kd.R_drewN | apply Kd.R_drew));exact (Kd.R_mono (Kd.R_far (p:=⟨gb234,3,none⟩) (Kd.R_far (p:=⟨gb234,2,none⟩) (Kd.R_far (p:=⟨gb234,1,none⟩) (Kd.R_far (p:=⟨gb234,0,none⟩) (Kd.R_types HO223.out BK234.out (by decide)) (fun _ hk => hk.2) (.slice Ao13 t228.length co13)) (fun _ hk => hk.2) (.int .i64 t231)) (fun _ hk => hk.2) (.int .i64 t232)) (fun _ hk => hk.2) (.int .i64 t233)) (fun _ h_ => h_.1))) hb);have n1_:=Aside0.mk (Kd.R_below (by (with_reducible repeat (first | apply Kd.R_alloc | apply Kd.R_drewN | apply Kd.R_drew));exact (Kd.R_mono (Kd.R_far (p:=⟨gb234,3,none⟩) (Kd.R_far (p:=⟨gb234,2,none⟩) (Kd.R_far (p:=⟨gb234,1,none⟩) (Kd.R_far (p:=⟨gb234,0,none⟩) (Kd.R_types HO230.out BK234.out (by decide)) (fun _ hk => hk.2) (.slice Ao13 t228.length co13)) (fun _ hk => hk.2) (.int .i64 t231)) (fun _ hk => hk.2) (.int .i64 t232)) (fun _ hk => hk.2) (.int .i64 t233)) (fun _ h_ => h_.1))) hb);have n2_:=Aside0.mk (blk_below (g:=gb227) (o:=.cells #[.int .i64 t225,.int .i64 t226] 36 (0,0)) (by (with_reducible repeat (first | refine blk_drewN ?_ _ | refine blk_drew ?_ | refine blk_alloc ?_ _));refine blk_far ?_ NB227_234.out _;(with_reducible repeat (first | refine blk_drewN ?_ _ | refine blk_drew ?_ | refine blk_alloc ?_ _));refine blk_far ?_ NB227_234.out _;(with_reducible repeat (first | refine blk_drewN ?_ _ | refine blk_drew ?_ | refine blk_alloc ?_ _));refine blk_far ?_ NB227_234.out _;(with_reducible repeat (first | refine blk_drewN ?_ _ | refine blk_drew ?_ | refine blk_alloc ?_ _));refine blk_far ?_ NB227_234.out _;(with_reducible repeat (first | refine blk_drewN ?_ _ | refine blk_drew ?_ | refine blk_alloc ?_ _));exact BK227.out) hb);have n3_:=Aside0.mk (blk_below (g:=gb234) (o:=.cells #[.slice Ao13 t228.length co13,.int .i64 t231,.int .i64 t232,.int .i64 t233] 41 (0,0)) (by (with_reducible repeat (first | refine blk_drewN ?_ _ | refine blk_drew ?_ | refine blk_alloc ?_ _));refine blk_put (cs:=#[.slice Ao13 t228.length co13,.int .i64 t231,.int .i64 t232,.int .i64 0]) ?_ 3 _ rfl;(with_reducible repeat (first | refine blk_drewN ?_ _ | refine blk_drew ?_ | refine blk_alloc ?_ _));refine blk_put (cs:=#[.slice Ao13 t228.length co13,.int .i64 t231,.int .i64 0,.int .i64 0]) ?_ 2 _ rfl;(with_reducible repeat (first | refine blk_drewN ?_ _ | refine blk_drew ?_ | refine blk_alloc ?_ _));refine blk_put (cs:=#[.slice Ao13 t228.length co13,.int .i64 0,.int .i64 0,.int .i64 0]) ?_ 1 _ rfl;(with_reducible repeat (first | refine blk_drewN ?_ _ | refine blk_drew ?_ | refine blk_alloc ?_ _));refine blk_put (cs:=#[.slice none 0 0,.int .i64 0,.int .i64 0,.int .i64 0]) ?_ 0 _ rfl;(with_reducible repeat (first | refine blk_drewN ?_ _ | refine blk_drew ?_ | refine blk_alloc ?_ _));exact BK234.out) hb);have n4_:=Aside0.mk (below_step (by repeat (first | (with_reducible first | exact HB.out | apply below_alloc | apply pw_below_drewN | apply below_drew1 | refine below_set ?_ GE227.out | refine below_set ?_ GE234.out) | exact HB.out)) hb);clear HO223;clear HO230;clear BK227;clear BK234;clear HB;have HO223:=n0_;have HO230:=n1_;have BK227:=n2_;have BK234:=n3_;have HB:=n4_;clear n0_ n1_ n2_ n3_ n4_;(try clear hb);(try clear hb2);(try clear hk);(try clear hi)) | (go_at_call 20;(with_reducible refine (tachographref21_Place.calls k a0 (a0.size : Int) t241 t242 _ A37.out).mono ?_);rintro e w43 ⟨rfl,hb⟩;have n0_:=Aside0.mk (Kd.R_below (by (with_reducible repeat (first | apply Kd.R_alloc | apply Kd.R_drewN | apply Kd.R_drew));exact HO223.out) hb);have n1_:=Aside0.mk (Kd.R_below (by (with_reducible repeat (first | apply Kd.R_alloc | apply Kd.R_drewN | apply Kd.R_drew));exact HO230.out) hb);have n2_:=Aside0.mk (blk_below (g:=gb227) (o:=.cells #[.int .i64 t225,.int .i64 t226] 36 (0,0)) (by (with_reducible repeat (first | refine blk_drewN ?_ _ | refine blk_drew ?_ | refine blk_alloc ?_ _));exact BK227.out) hb);have n3_:=Aside0.mk (blk_below (g:=gb234) (o:=.cells #[.slice Ao13 t228.length co13,.int .i64 t231,.int .i64 t232,.int .i64 t233] 41 (0,0)) (by (with_reducible repeat (first | refine blk_drewN ?_ _ | refine blk_drew ?_ | refine blk_alloc ?_ _));exact BK234.out) hb);have n4_:=Aside0.mk (below_step (by repeat (first | (with_reducible first | exact HB.out | apply below_alloc | apply pw_below_drewN | apply below_drew1 | refine below_set ?_ GE227.out | refine below_set ?_ GE234.out) | exact HB.out)) hb);clear HO223;clear HO230;clear BK227;clear BK234;clear HB;have HO223:=n0_;have HO230:=n1_;have BK227:=n2_;have BK234:=n3_;have HB:=n4_;clear n0_ n1_ n2_ n3_ n4_;(try clear hb);(try clear hb2);(try clear hk);(try clear hi)));try go_wp2_with (first | (go_at_call 19;(with_reducible refine (lex_End.calls a0 t239 t240 _ A36.out).mono ?_);rintro e w42 ⟨rfl,hb⟩;have n0_:=Aside0.mk (Kd.R_below (by (with_reducible repeat (first | apply Kd.R_alloc | apply Kd.R_drewN | apply Kd.R_drew));exact (Kd.R_mono (Kd.R_far (p:=⟨gb234,3,none⟩) (Kd.R_far (p:=⟨gb234,2,none⟩) (Kd.R_far (p:=⟨gb234,1,none⟩) (Kd.R_far (p:=⟨gb234,0,none⟩) (Kd.R_types HO223.out BK234.out (by decide)) (fun _ hk => hk.2) (.slice Ao13 t228.length co13)) (fun _ hk => hk.2) (.int .i64 t231)) (fun _ hk => hk.2) (.int .i64 t232)) (fun _ hk => hk.2) (.int .i64 t233)) (fun _ h_ => h_.1))) hb);have n1_:=Aside0.mk (Kd.R_below (by (with_reducible repeat (first | apply Kd.R_alloc | apply Kd.R_drewN | apply Kd.R_drew));exact (Kd.R_mono (Kd.R_far (p:=⟨gb234,3,none⟩) (Kd.R_far (p:=⟨gb234,2,none⟩) (Kd.R_far (p:=⟨gb234,1,none⟩) (Kd.R_far (p:=⟨gb234,0,none⟩) (Kd.R_types HO230.out BK234.out (by decide)) (fun _ hk => hk.2) (.slice Ao13 t228.length co13)) (fun _ hk => hk.2) (.int .i64 t231)) (fun _ hk => hk.2) (.int .i64 t232)) (fun _ hk => hk.2) (.int .i64 t233)) (fun _ h_ => h_.1))) hb);have n2_:=Aside0.mk (blk_below (g:=gb227) (o:=.cells #[.int .i64 t225,.int .i64 t226] 36 (0,0)) (by (with_reducible repeat (first | refine blk_drewN ?_ _ | refine blk_drew ?_ | refine blk_alloc ?_ _));refine blk_far ?_ NB227_234.out _;(with_reducible repeat (first | refine blk_drewN ?_ _ | refine blk_drew ?_ | refine blk_alloc ?_ _));refine blk_far ?_ NB227_234.out _;(with_reducible repeat (first | refine blk_drewN ?_ _ | refine blk_drew ?_ | refine blk_alloc ?_ _));refine blk_far ?_ NB227_234.out _;(with_reducible repeat (first | refine blk_drewN ?_ _ | refine blk_drew ?_ | refine blk_alloc ?_ _));refine blk_far ?_ NB227_234.out _;(with_reducible repeat (first | refine blk_drewN ?_ _ | refine blk_drew ?_ | refine blk_alloc ?_ _));exact BK227.out) hb);have n3_:=Aside0.mk (blk_below (g:=gb234) (o:=.cells #[.slice Ao13 t228.length co13,.int .i64 t231,.int .i64 t232,.int .i64 t233] 41 (0,0)) (by (with_reducible repeat (first | refine blk_drewN ?_ _ | refine blk_drew ?_ | refine blk_alloc ?_ _));refine blk_put (cs:=#[.slice Ao13 t228.length co13,.int .i64 t231,.int .i64 t232,.int .i64 0]) ?_ 3 _ rfl;(with_reducible repeat (first | refine blk_drewN ?_ _ | refine blk_drew ?_ | refine blk_alloc ?_ _));refine blk_put (cs:=#[.slice Ao13 t228.length co13,.int .i64 t231,.int .i64 0,.int .i64 0]) ?_ 2 _ rfl;(with_reducible repeat (first | refine blk_drewN ?_ _ | refine blk_drew ?_ | refine blk_alloc ?_ _));refine blk_put (cs:=#[.slice Ao13 t228.length co13,.int .i64 0,.int .i64 0,.int .i64 0]) ?_ 1 _ rfl;(with_reducible repeat (first | refine blk_drewN ?_ _ | refine blk_drew ?_ | refine blk_alloc ?_ _));refine blk_put (cs:=#[.slice none 0 0,.int .i64 0,.int .i64 0,.int .i64 0]) ?_ 0 _ rfl;(with_reducible repeat (first | refine blk_drewN ?_ _ | refine blk_drew ?_ | refine blk_alloc ?_ _));exact BK234.out) hb);have n4_:=Aside0.mk (below_step (by repeat (first | (with_reducible first | exact HB.out | apply below_alloc | apply pw_below_drewN | apply below_drew1 | refine below_set ?_ GE227.out | refine below_set ?_ GE234.out) | exact HB.out)) hb);clear HO223;clear HO230;clear BK227;clear BK234;clear HB;have HO223:=n0_;have HO230:=n1_;have BK227:=n2_;have BK234:=n3_;have HB:=n4_;clear n0_ n1_ n2_ n3_ n4_;(try clear hb);(try clear hb2);(try clear hk);(try clear hi)) | (go_at_call 20;(with_reducible refine (tachographref21_Place.calls k a0 (a0.size : Int) t241 t242 _ A37.out).mono ?_);rintro e w43 ⟨rfl,hb⟩;have n0_:=Aside0.mk (Kd.R_below (by (with_reducible repeat (first | apply Kd.R_alloc | apply Kd.R_drewN | apply Kd.R_drew));exact HO223.out) hb);have n1_:=Aside0.mk (Kd.R_below (by (with_reducible repeat (first | apply Kd.R_alloc | apply Kd.R_drewN | apply Kd.R_drew));exact HO230.out) hb);have n2_:=Aside0.mk (blk_below (g:=gb227) (o:=.cells #[.int .i64 t225,.int .i64 t226] 36 (0,0)) (by (with_reducible repeat (first | refine blk_drewN ?_ _ | refine blk_drew ?_ | refine blk_alloc ?_ _));exact BK227.out) hb);have n3_:=Aside0.mk (blk_below (g:=gb234) (o:=.cells #[.slice Ao13 t228.length co13,.int .i64 t231,.int .i64 t232,.int .i64 t233] 41 (0,0)) (by (with_reducible repeat (first | refine blk_drewN ?_ _ | refine blk_drew ?_ | refine blk_alloc ?_ _));exact BK234.out) hb);have n4_:=Aside0.mk (below_step (by repeat (first | (with_reducible first | exact HB.out | apply below_alloc | apply pw_below_drewN | apply below_drew1 | refine below_set ?_ GE227.out | refine below_set ?_ GE234.out) | exact HB.out)) hb);clear HO223;clear HO230;clear BK227;clear BK234;clear HB;have HO223:=n0_;have HO230:=n1_;have BK227:=n2_;have BK234:=n3_;have HB:=n4_;clear n0_ n1_ n2_ n3_ n4_;(try clear hb);(try clear hb2);(try clear hk);(try clear hi))))
       go_meet
       case rel => exact ⟨_,((!(t239 == t241) || (!(t240 == t242)))),(by first | rfl | (simp;done) | (simp [*];done)),H',⟨by first | omega | exact Nat.le_refl _⟩,⟨by (with_reducible repeat (first | apply Kd.R_alloc | apply Kd.R_drewN | apply Kd.R_drew));exact HO223.out⟩,⟨by (with_reducible repeat (first | apply Kd.R_alloc | apply Kd.R_drewN | apply Kd.R_drew));exact HO230.out⟩,⟨by (with_reducible repeat (first | refine blk_drewN ?_ _ | refine blk_drew ?_ | refine blk_alloc ?_ _));exact BK227.out⟩,⟨by (with_reducible repeat (first | refine blk_drewN ?_ _ | refine blk_drew ?_ | refine blk_alloc ?_ _));exact BK234.out⟩,⟨by repeat (first | (with_reducible first | exact HB.out | apply below_alloc | apply pw_below_drewN | apply below_drew1 | refine below_set ?_ GE227.out | refine below_set ?_ GE234.out) | exact HB.out)⟩⟩
      ·rw [if_neg c35] at H
       have c35b0 : ((t221.length : Int) == 0) = false:=beq_eq_false_iff_ne.mpr c35
       have c35b1 : ((t221.length : Int) != 0) = true:=bne_iff_ne.mpr c35
       have c35b2 : ¬ (t221 = []):=fun h_ => c35 (by rw [h_];rfl)
       have H':=Aside0.mk H
       clear H
       have hnb44:=NB234_227.out
       have hnc44:=NB227_234.out
       have hcz45_0 : w12.cell? ⟨gb234,0,none⟩ = some (.slice none 0 0):=(blk_cell BK234.out 0).trans rfl
       have hcz45_1 : w12.cell? ⟨gb234,1,none⟩ = some (.int .i64 0):=(blk_cell BK234.out 1).trans rfl
       have hcz45_2 : w12.cell? ⟨gb234,2,none⟩ = some (.int .i64 0):=(blk_cell BK234.out 2).trans rfl
       have hcz45_3 : w12.cell? ⟨gb234,3,none⟩ = some (.int .i64 0):=(blk_cell BK234.out 3).trans rfl
       have hfz45_0:=blk_frozen BK234.out 0
       have hfz45_1:=blk_frozen BK234.out 1
       have hfz45_2:=blk_frozen BK234.out 2
       have hfz45_3:=blk_frozen BK234.out 3
       have hcz46_0 : w12.cell? ⟨gb227,0,none⟩ = some (.int .i64 t225):=(blk_cell BK227.out 0).trans rfl
       have hcz46_1 : w12.cell? ⟨gb227,1,none⟩ = some (.int .i64 t226):=(blk_cell BK227.out 1).trans rfl
       have hfz46_0:=blk_frozen BK227.out 0
       have hfz46_1:=blk_frozen BK227.out 1
       obtain ⟨Ao47,co47,eo47⟩:=Kd.R_slice HO223.out
       subst eo47
       go_wp2
       repeat (go_quiet (fail);try go_wp2)
       go_meet
       case rel => exact ⟨_,(true),(by first | rfl | (simp;done) | (simp [*];done)),H',⟨by first | omega | exact Nat.le_refl _⟩,⟨by (with_reducible repeat (first | apply Kd.R_alloc | apply Kd.R_drewN | apply Kd.R_drew));exact Kd.R_mono (Kd.R_far (p:=⟨gb234,3,none⟩) (Kd.R_far (p:=⟨gb234,2,none⟩) (Kd.R_far (p:=⟨gb234,1,none⟩) (Kd.R_far (p:=⟨gb234,0,none⟩) (Kd.R_types HO223.out BK234.out (by decide)) (fun _ hk => hk.2) (.slice Ao13 t228.length co13)) (fun _ hk => hk.2) (.int .i64 t231)) (fun _ hk => hk.2) (.int .i64 t232)) (fun _ hk => hk.2) (.int .i64 t233)) (fun _ hk => trivial)⟩,⟨by (with_reducible repeat (first | apply Kd.R_alloc | apply Kd.R_drewN | apply Kd.R_drew));exact Kd.R_mono (Kd.R_far (p:=⟨gb234,3,none⟩) (Kd.R_far (p:=⟨gb234,2,none⟩) (Kd.R_far (p:=⟨gb234,1,none⟩) (Kd.R_far (p:=⟨gb234,0,none⟩) (Kd.R_types HO230.out BK234.out (by decide)) (fun _ hk => hk.2) (.slice Ao13 t228.length co13)) (fun _ hk => hk.2) (.int .i64 t231)) (fun _ hk => hk.2) (.int .i64 t232)) (fun _ hk => hk.2) (.int .i64 t233)) (fun _ hk => trivial)⟩,⟨by (with_reducible repeat (first | refine blk_drewN ?_ _ | refine blk_drew ?_ | refine blk_alloc ?_ _));refine blk_far ?_ NB227_234.out _;(with_reducible repeat (first | refine blk_drewN ?_ _ | refine blk_drew ?_ | refine blk_alloc ?_ _));refine blk_far ?_ NB227_234.out _;(with_reducible repeat (first | refine blk_drewN ?_ _ | refine blk_drew ?_ | refine blk_alloc ?_ _));refine blk_far ?_ NB227_234.out _;(with_reducible repeat (first | refine blk_drewN ?_ _ | refine blk_drew ?_ | refine blk_alloc ?_ _));refine blk_far ?_ NB227_234.out _;(with_reducible repeat (first | refine blk_drewN ?_ _ | refine blk_drew ?_ | refine blk_alloc ?_ _));exact BK227.out⟩,⟨by (with_reducible repeat (first | refine blk_drewN ?_ _ | refine blk_drew ?_ | refine blk_alloc ?_ _));refine blk_put (cs:=#[.slice Ao13 t228.length co13,.int .i64 t231,.int .i64 t232,.int .i64 0]) ?_ 3 _ rfl;(with_reducible repeat (first | refine blk_drewN ?_ _ | refine blk_drew ?_ | refine blk_alloc ?_ _));refine blk_put (cs:=#[.slice Ao13 t228.length co13,.int .i64 t231,.int .i64 0,.int .i64 0]) ?_ 2 _ rfl;(with_reducible repeat (first | refine blk_drewN ?_ _ | refine blk_drew ?_ | refine blk_alloc ?_ _));refine blk_put (cs:=#[.slice Ao13 t228.length co13,.int .i64 0,.int .i64 0,.int .i64 0]) ?_ 1 _ rfl;(with_reducible repeat (first | refine blk_drewN ?_ _ | refine blk_drew ?_ | refine blk_alloc ?_ _));refine blk_put (cs:=#[.slice none 0 0,.int .i64 0,.int .i64 0,.int .i64 0]) ?_ 0 _ rfl;(with_reducible repeat (first | refine blk_drewN ?_ _ | refine blk_drew ?_ | refine blk_alloc ?_ _));exact BK234.out⟩,⟨by repeat (first | (with_reducible first | exact HB.out | apply below_alloc | apply pw_below_drewN | apply below_drew1 | refine below_set ?_ GE227.out | refine below_set ?_ GE234.out) | exact HB.out)⟩⟩
   ·rw [if_neg c16] at H
    have c16b0 : (t224 == t231) = false:=beq_eq_false_iff_ne.mpr c16
    have c16b1 : (t224 != t231) = true:=bne_iff_ne.mpr c16
    (first | rw [c16b0] | (simp only [i64_w,i32_w];rw [c16b0]) | skip)
    have H':=Aside0.mk H
    clear H
    have hnb48:=NB234_227.out
    have hnc48:=NB227_234.out
    have hcz49_0 : w12.cell? ⟨gb234,0,none⟩ = some (.slice none 0 0):=(blk_cell BK234.out 0).trans rfl
    have hcz49_1 : w12.cell? ⟨gb234,1,none⟩ = some (.int .i64 0):=(blk_cell BK234.out 1).trans rfl
    have hcz49_2 : w12.cell? ⟨gb234,2,none⟩ = some (.int .i64 0):=(blk_cell BK234.out 2).trans rfl
    have hcz49_3 : w12.cell? ⟨gb234,3,none⟩ = some (.int .i64 0):=(blk_cell BK234.out 3).trans rfl
    have hfz49_0:=blk_frozen BK234.out 0
    have hfz49_1:=blk_frozen BK234.out 1
    have hfz49_2:=blk_frozen BK234.out 2
    have hfz49_3:=blk_frozen BK234.out 3
    go_wp2
    repeat (go_quiet (fail);try go_wp2)
    go_meet
    case rel => exact ⟨_,(true),(by first | rfl | (simp;done) | (simp [*];done)),H',⟨by first | omega | exact Nat.le_refl _⟩,⟨by (with_reducible repeat (first | apply Kd.R_alloc | apply Kd.R_drewN | apply Kd.R_drew));exact Kd.R_mono (Kd.R_far (p:=⟨gb234,3,none⟩) (Kd.R_far (p:=⟨gb234,2,none⟩) (Kd.R_far (p:=⟨gb234,1,none⟩) (Kd.R_far (p:=⟨gb234,0,none⟩) (Kd.R_types HO223.out BK234.out (by decide)) (fun _ hk => hk.2) (.slice Ao13 t228.length co13)) (fun _ hk => hk.2) (.int .i64 t231)) (fun _ hk => hk.2) (.int .i64 t232)) (fun _ hk => hk.2) (.int .i64 t233)) (fun _ hk => trivial)⟩,⟨by (with_reducible repeat (first | apply Kd.R_alloc | apply Kd.R_drewN | apply Kd.R_drew));exact Kd.R_mono (Kd.R_far (p:=⟨gb234,3,none⟩) (Kd.R_far (p:=⟨gb234,2,none⟩) (Kd.R_far (p:=⟨gb234,1,none⟩) (Kd.R_far (p:=⟨gb234,0,none⟩) (Kd.R_types HO230.out BK234.out (by decide)) (fun _ hk => hk.2) (.slice Ao13 t228.length co13)) (fun _ hk => hk.2) (.int .i64 t231)) (fun _ hk => hk.2) (.int .i64 t232)) (fun _ hk => hk.2) (.int .i64 t233)) (fun _ hk => trivial)⟩,⟨by (with_reducible repeat (first | refine blk_drewN ?_ _ | refine blk_drew ?_ | refine blk_alloc ?_ _));refine blk_far ?_ NB227_234.out _;(with_reducible repeat (first | refine blk_drewN ?_ _ | refine blk_drew ?_ | refine blk_alloc ?_ _));refine blk_far ?_ NB227_234.out _;(with_reducible repeat (first | refine blk_drewN ?_ _ | refine blk_drew ?_ | refine blk_alloc ?_ _));refine blk_far ?_ NB227_234.out _;(with_reducible repeat (first | refine blk_drewN ?_ _ | refine blk_drew ?_ | refine blk_alloc ?_ _));refine blk_far ?_ NB227_234.out _;(with_reducible repeat (first | refine blk_drewN ?_ _ | refine blk_drew ?_ | refine blk_alloc ?_ _));exact BK227.out⟩,⟨by (with_reducible repeat (first | refine blk_drewN ?_ _ | refine blk_drew ?_ | refine blk_alloc ?_ _));refine blk_put (cs:=#[.slice Ao13 t228.length co13,.int .i64 t231,.int .i64 t232,.int .i64 0]) ?_ 3 _ rfl;(with_reducible repeat (first | refine blk_drewN ?_ _ | refine blk_drew ?_ | refine blk_alloc ?_ _));refine blk_put (cs:=#[.slice Ao13 t228.length co13,.int .i64 t231,.int .i64 0,.int .i64 0]) ?_ 2 _ rfl;(with_reducible repeat (first | refine blk_drewN ?_ _ | refine blk_drew ?_ | refine blk_alloc ?_ _));refine blk_put (cs:=#[.slice Ao13 t228.length co13,.int .i64 0,.int .i64 0,.int .i64 0]) ?_ 1 _ rfl;(with_reducible repeat (first | refine blk_drewN ?_ _ | refine blk_drew ?_ | refine blk_alloc ?_ _));refine blk_put (cs:=#[.slice none 0 0,.int .i64 0,.int .i64 0,.int .i64 0]) ?_ 0 _ rfl;(with_reducible repeat (first | refine blk_drewN ?_ _ | refine blk_drew ?_ | refine blk_alloc ?_ _));exact BK234.out⟩,⟨by repeat (first | (with_reducible first | exact HB.out | apply below_alloc | apply pw_below_drewN | apply below_drew1 | refine below_set ?_ GE227.out | refine below_set ?_ GE234.out) | exact HB.out)⟩⟩
  case rest =>
   clear HC7
   (try clear c1);(try clear c2);(try clear c2b0);(try clear c2b1);(try clear p2);(try clear c3);(try clear c4);(try clear c6);(try clear c14);(try clear c16);(try clear c16b0);(try clear c16b1);(try clear c17);(try clear c17b0);(try clear c18);(try clear c21);(try clear c21b0);(try clear c21b1);(try clear c22);(try clear c22b0);(try clear c22b1);(try clear c22b2);(try clear c25);(try clear c31);(try clear c35);(try clear c35b0);(try clear c35b1);(try clear c35b2);(try clear c38);(try clear c44);(try clear c48);(try clear hcz10_0);(try clear hcz10_1);(try clear hcz15_0);(try clear hcz15_1);(try clear hcz15_2);(try clear hcz15_3);(try clear hcz19_0);(try clear hcz19_1);(try clear hcz19_2);(try clear hcz19_3);(try clear hcz20_0);(try clear hcz20_1);(try clear hcz26_0);(try clear hcz26_1);(try clear hcz26_2);(try clear hcz26_3);(try clear hcz27_0);(try clear hcz27_1);(try clear hcz32_0);(try clear hcz32_1);(try clear hcz32_2);(try clear hcz32_3);(try clear hcz33_0);(try clear hcz33_1);(try clear hcz39_0);(try clear hcz39_1);(try clear hcz39_2);(try clear hcz39_3);(try clear hcz40_0);(try clear hcz40_1);(try clear hcz45_0);(try clear hcz45_1);(try clear hcz45_2);(try clear hcz45_3);(try clear hcz46_0);(try clear hcz46_1);(try clear hcz49_0);(try clear hcz49_1);(try clear hcz49_2);(try clear hcz49_3);(try clear hfz10_0);(try clear hfz10_1);(try clear hfz15_0);(try clear hfz15_1);(try clear hfz15_2);(try clear hfz15_3);(try clear hfz19_0);(try clear hfz19_1);(try clear hfz19_2);(try clear hfz19_3);(try clear hfz20_0);(try clear hfz20_1);(try clear hfz26_0);(try clear hfz26_1);(try clear hfz26_2);(try clear hfz26_3);(try clear hfz27_0);(try clear hfz27_1);(try clear hfz32_0);(try clear hfz32_1);(try clear hfz32_2);(try clear hfz32_3);(try clear hfz33_0);(try clear hfz33_1);(try clear hfz39_0);(try clear hfz39_1);(try clear hfz39_2);(try clear hfz39_3);(try clear hfz40_0);(try clear hfz40_1);(try clear hfz45_0);(try clear hfz45_1);(try clear hfz45_2);(try clear hfz45_3);(try clear hfz46_0);(try clear hfz46_1);(try clear hfz49_0);(try clear hfz49_1);(try clear hfz49_2);(try clear hfz49_3)
   obtain ⟨kq,x59_6,rfl,HA,HJ6,HO_3,HO_235000,BK227,BK234,HB⟩:=hcut
   cases kq with
   | zero => exact absurd HA.out (by simp [tachographlaw21_LexAll.j0])
   | succ kj6 =>
    have H:=HA.out
    clear HA
    simp only [tachographlaw21_LexAll.j0] at H
    by_cases c50 : x59_6 = true
    ·subst c50
     have H1 : (some false) = some r:=by rw [if_pos rfl] at H;exact H
     clear H
     have H:=H1
     clear H1
     obtain rfl:=Option.some.inj H
     go_wp2
     repeat (go_quiet (fail);try go_wp2)
     go_ret
     exact ⟨by first | rfl | (simp [errW_none,errW_some] <;> rfl) | (simp [*,errW_none,errW_some] <;> rfl),by repeat (first | (with_reducible first | exact HB.out | apply below_alloc | apply pw_below_drewN | apply below_drew1 | refine below_set ?_ GE227.out | refine below_set ?_ GE234.out) | exact HB.out)⟩
    ·replace c50:=Bool.eq_false_iff.mpr c50
     subst c50
     have H1 : (tachographlaw21_LexAll.l0 kj6 t221 (t221.length : Int) 0 t228 t231 t232 t233) = some r:=by rw [if_neg (show ¬ (false = true) by decide)] at H;exact H
     clear H
     have H:=H1
     clear H1
     have H':=Aside0.mk H
     clear H
     obtain ⟨Ao51,co51,eo51⟩:=Kd.R_slice HO_3.out
     subst eo51
     go_wp2
     repeat (go_quiet (fail);try go_wp2)
     go_loopg [62] kj6 (fun kq v62 w' => ∃ (x62_2 : Int),v62 = .int .i64 x62_2 ∧ Aside0 (tachographlaw21_LexAll.l0 kq t221 (t221.length : Int) x62_2 t228 t231 t232 t233 = some r) ∧ Aside0 (kq ≤ kj6) ∧ Aside0 (Kd.R k46 46 w' w.heap.size (fun _ => True) (.slice Ao51 t221.length co51) t221) ∧ Aside0 (Kd.R k47 47 w' w.heap.size (fun _ => True) (.slice Ao13 t228.length co13) t228) ∧ Aside0 (w'.heap[gb227]? = some (.cells #[.int .i64 t225,.int .i64 t226] 36 (0,0))) ∧ Aside0 (w'.heap[gb234]? = some (.cells #[(.slice Ao13 t228.length co13),.int .i64 t231,.int .i64 t232,.int .i64 t233] 41 (0,0))) ∧ Aside0 (Below w.heap.size w w'))
     case atStart => exact ⟨(0),(by first | rfl | (simp;done) | (simp [*];done)),H',⟨Nat.le_refl _⟩,⟨by (with_reducible repeat (first | apply Kd.R_alloc | apply Kd.R_drewN | apply Kd.R_drew));exact HO_3.out⟩,⟨by (with_reducible repeat (first | apply Kd.R_alloc | apply Kd.R_drewN | apply Kd.R_drew));exact HO_235000.out⟩,⟨by (with_reducible repeat (first | refine blk_drewN ?_ _ | refine blk_drew ?_ | refine blk_alloc ?_ _));exact BK227.out⟩,⟨by (with_reducible repeat (first | refine blk_drewN ?_ _ | refine blk_drew ?_ | refine blk_alloc ?_ _));exact BK234.out⟩,⟨by repeat (first | (with_reducible first | exact HB.out | apply below_alloc | apply pw_below_drewN | apply below_drew1 | refine below_set ?_ GE227.out | refine below_set ?_ GE234.out) | exact HB.out)⟩⟩
     case round =>
      clear H'
      (try clear c1);(try clear c2);(try clear c2b0);(try clear c2b1);(try clear p2);(try clear c3);(try clear c4);(try clear c5);(try clear c6);(try clear c14);(try clear c16);(try clear c16b0);(try clear c16b1);(try clear c17);(try clear c17b0);(try clear c18);(try clear c21);(try clear c21b0);(try clear c21b1);(try clear c22);(try clear c22b0);(try clear c22b1);(try clear c22b2);(try clear c25);(try clear c31);(try clear c35);(try clear c35b0);(try clear c35b1);(try clear c35b2);(try clear c38);(try clear c44);(try clear c48);(try clear c50);(try clear hcz10_0);(try clear hcz10_1);(try clear hcz15_0);(try clear hcz15_1);(try clear hcz15_2);(try clear hcz15_3);(try clear hcz19_0);(try clear hcz19_1);(try clear hcz19_2);(try clear hcz19_3);(try clear hcz20_0);(try clear hcz20_1);(try clear hcz26_0);(try clear hcz26_1);(try clear hcz26_2);(try clear hcz26_3);(try clear hcz27_0);(try clear hcz27_1);(try clear hcz32_0);(try clear hcz32_1);(try clear hcz32_2);(try clear hcz32_3);(try clear hcz33_0);(try clear hcz33_1);(try clear hcz39_0);(try clear hcz39_1);(try clear hcz39_2);(try clear hcz39_3);(try clear hcz40_0);(try clear hcz40_1);(try clear hcz45_0);(try clear hcz45_1);(try clear hcz45_2);(try clear hcz45_3);(try clear hcz46_0);(try clear hcz46_1);(try clear hcz49_0);(try clear hcz49_1);(try clear hcz49_2);(try clear hcz49_3);(try clear hfz10_0);(try clear hfz10_1);(try clear hfz15_0);(try clear hfz15_1);(try clear hfz15_2);(try clear hfz15_3);(try clear hfz19_0);(try clear hfz19_1);(try clear hfz19_2);(try clear hfz19_3);(try clear hfz20_0);(try clear hfz20_1);(try clear hfz26_0);(try clear hfz26_1);(try clear hfz26_2);(try clear hfz26_3);(try clear hfz27_0);(try clear hfz27_1);(try clear hfz32_0);(try clear hfz32_1);(try clear hfz32_2);(try clear hfz32_3);(try clear hfz33_0);(try clear hfz33_1);(try clear hfz39_0);(try clear hfz39_1);(try clear hfz39_2);(try clear hfz39_3);(try clear hfz40_0);(try clear hfz40_1);(try clear hfz45_0);(try clear hfz45_1);(try clear hfz45_2);(try clear hfz45_3);(try clear hfz46_0);(try clear hfz46_1);(try clear hfz49_0);(try clear hfz49_1);(try clear hfz49_2);(try clear hfz49_3);(try clear p2)
      obtain ⟨x62_2,rfl,HA,HK2,HO_3,HO_235000,BK227,BK234,HB⟩:=hrel
      cases gk with
      | zero => exact absurd HA.out (by simp [tachographlaw21_LexAll.l0])
      | succ k2 =>
       have H:=HA.out
       clear HA
       simp only [tachographlaw21_LexAll.l0] at H
       by_cases c52 : x62_2 < (t221.length : Int)
       ·rw [if_pos c52] at H
        have c52b0 : decide (x62_2 < (t221.length : Int)) = true:=decide_eq_true c52
        clear c52
        by_cases c53 : 0 ≤ x62_2
        ·rw [if_pos c53] at H
         have c53b0 : decide (0 ≤ x62_2) = true:=decide_eq_true c53
         clear c53
         by_cases c54 : x62_2 < (t221.length : Int)
         ·rw [if_pos c54] at H
          have c54b0 : decide (x62_2 < (t221.length : Int)) = true:=decide_eq_true c54
          clear c54
          by_cases c55 : x62_2 < (t228.length : Int)
          ·rw [if_pos c55] at H
           have c55b0 : decide (x62_2 < (t228.length : Int)) = true:=decide_eq_true c55
           clear c55
           by_cases c56 : ((rd_T46 t221 x62_2).f0) = ((rd_T47 t228 x62_2).f0)
           ·rw [if_pos c56] at H
            have c56b0 : (((rd_T46 t221 x62_2).f0) == ((rd_T47 t228 x62_2).f0)) = true:=beq_iff_eq.mpr c56
            have c56b1 : (((rd_T46 t221 x62_2).f0) != ((rd_T47 t228 x62_2).f0)) = false:=bne_eq_false_iff_eq.mpr c56
            clear c56
            by_cases c57 : ((rd_T46 t221 x62_2).f1).toList = ((rd_T47 t228 x62_2).f1).toList
            ·rw [if_pos c57] at H
             have c57b0 : (((rd_T46 t221 x62_2).f1).toList == ((rd_T47 t228 x62_2).f1).toList) = true:=beq_iff_eq.mpr c57
             have c57b1 : (((rd_T46 t221 x62_2).f1).toList != ((rd_T47 t228 x62_2).f1).toList) = false:=bne_eq_false_iff_eq.mpr c57
             clear c57
             by_cases c58 : (!(((rd_T46 t221 x62_2).f2.f0) == ((rd_T47 t228 x62_2).f2.f0)) || (!(((rd_T46 t221 x62_2).f2.f1) == ((rd_T47 t228 x62_2).f2.f1)))) = true
             ·rw [if_pos c58] at H
              have c58b0 : (!(((rd_T46 t221 x62_2).f2.f0) == ((rd_T47 t228 x62_2).f2.f0)) || (!(((rd_T46 t221 x62_2).f2.f1) == ((rd_T47 t228 x62_2).f2.f1)))) = true:=c58
              clear c58
              obtain rfl:=Option.some.inj H
              have p243 : 0 ≤ (x62_2 : Int):=of_decide_eq_true (by first | (with_reducible assumption) | assumption)
              have q243 : x62_2 < (t221.length : Int):=of_decide_eq_true (by first | (with_reducible assumption) | assumption)
              obtain ⟨ad243,e243,hx243_0,hx243_1,hx243_2,hx243_3⟩:=at_T46 (Kd.R_reads' HO_3.out).2.2 x62_2 p243 q243
              cases e243
              replace p243:=eq_true p243
              replace q243:=eq_true q243
              have hnb59:=NB234_227.out
              have hnc59:=NB227_234.out
              have hcz60_0 : wr.cell? ⟨gb234,0,none⟩ = some (.slice Ao13 t228.length co13):=(blk_cell BK234.out 0).trans rfl
              have hcz60_1 : wr.cell? ⟨gb234,1,none⟩ = some (.int .i64 t231):=(blk_cell BK234.out 1).trans rfl
              have hcz60_2 : wr.cell? ⟨gb234,2,none⟩ = some (.int .i64 t232):=(blk_cell BK234.out 2).trans rfl
              have hcz60_3 : wr.cell? ⟨gb234,3,none⟩ = some (.int .i64 t233):=(blk_cell BK234.out 3).trans rfl
              have hfz60_0:=blk_frozen BK234.out 0
              have hfz60_1:=blk_frozen BK234.out 1
              have hfz60_2:=blk_frozen BK234.out 2
              have hfz60_3:=blk_frozen BK234.out 3
              have p244 : 0 ≤ (x62_2 : Int):=of_decide_eq_true (by first | (with_reducible assumption) | assumption)
              have q244 : x62_2 < (t228.length : Int):=of_decide_eq_true (by first | (with_reducible assumption) | assumption)
              obtain ⟨ad244,e244,hx244_0,hx244_1,hx244_2,hx244_3⟩:=at_T47 (Kd.R_reads' HO_235000.out).2.2 x62_2 p244 q244
              cases e244
              replace p244:=eq_true p244
              replace q244:=eq_true q244
              have p245 : 0 ≤ (x62_2 : Int):=of_decide_eq_true (by first | (with_reducible assumption) | assumption)
              have q245 : x62_2 < (t221.length : Int):=of_decide_eq_true (by first | (with_reducible assumption) | assumption)
              obtain ⟨ad245,e245,hx245_0,hx245_1,hx245_2,hx245_3⟩:=at_T46 (Kd.R_reads' HO_3.out).2.2 x62_2 p245 q245
              obtain rfl : ad243 = ad245:=(by injection e245)
              replace p245:=eq_true p245
              replace q245:=eq_true q245
              have p246 : 0 ≤ (x62_2 : Int):=of_decide_eq_true (by first | (with_reducible assumption) | assumption)
              have q246 : x62_2 < (t228.length : Int):=of_decide_eq_true (by first | (with_reducible assumption) | assumption)
              obtain ⟨ad246,e246,hx246_0,hx246_1,hx246_2,hx246_3⟩:=at_T47 (Kd.R_reads' HO_235000.out).2.2 x62_2 p246 q246
              obtain rfl : ad244 = ad246:=(by injection e246)
              replace p246:=eq_true p246
              replace q246:=eq_true q246
              have p247 : 0 ≤ (x62_2 : Int):=of_decide_eq_true (by first | (with_reducible assumption) | assumption)
              have q247 : x62_2 < (t221.length : Int):=of_decide_eq_true (by first | (with_reducible assumption) | assumption)
              obtain ⟨ad247,e247,hx247_0,hx247_1,hx247_2,hx247_3⟩:=at_T46 (Kd.R_reads' HO_3.out).2.2 x62_2 p247 q247
              obtain rfl : ad243 = ad247:=(by injection e247)
              replace p247:=eq_true p247
              replace q247:=eq_true q247
              have p248 : 0 ≤ (x62_2 : Int):=of_decide_eq_true (by first | (with_reducible assumption) | assumption)
              have q248 : x62_2 < (t228.length : Int):=of_decide_eq_true (by first | (with_reducible assumption) | assumption)
              obtain ⟨ad248,e248,hx248_0,hx248_1,hx248_2,hx248_3⟩:=at_T47 (Kd.R_reads' HO_235000.out).2.2 x62_2 p248 q248
              obtain rfl : ad244 = ad248:=(by injection e248)
              replace p248:=eq_true p248
              replace q248:=eq_true q248
              go_wp2
              repeat (go_quiet (fail);try go_wp2)
              go_ret
              exact ⟨by first | rfl | (simp [errW_none,errW_some] <;> rfl) | (simp [*,errW_none,errW_some] <;> rfl),by repeat (first | (with_reducible first | exact HB.out | apply below_alloc | apply pw_below_drewN | apply below_drew1 | refine below_set ?_ GE227.out | refine below_set ?_ GE234.out) | exact HB.out)⟩
             ·rw [if_neg c58] at H
              have c58b0 : (!(((rd_T46 t221 x62_2).f2.f0) == ((rd_T47 t228 x62_2).f2.f0)) || (!(((rd_T46 t221 x62_2).f2.f1) == ((rd_T47 t228 x62_2).f2.f1)))) = false:=by simpa using c58
              clear c58
              have H':=Aside0.mk H
              clear H
              have p243 : 0 ≤ (x62_2 : Int):=of_decide_eq_true (by first | (with_reducible assumption) | assumption)
              have q243 : x62_2 < (t221.length : Int):=of_decide_eq_true (by first | (with_reducible assumption) | assumption)
              obtain ⟨ad243,e243,hx243_0,hx243_1,hx243_2,hx243_3⟩:=at_T46 (Kd.R_reads' HO_3.out).2.2 x62_2 p243 q243
              cases e243
              replace p243:=eq_true p243
              replace q243:=eq_true q243
              have hnb61:=NB234_227.out
              have hnc61:=NB227_234.out
              have hcz62_0 : wr.cell? ⟨gb234,0,none⟩ = some (.slice Ao13 t228.length co13):=(blk_cell BK234.out 0).trans rfl
              have hcz62_1 : wr.cell? ⟨gb234,1,none⟩ = some (.int .i64 t231):=(blk_cell BK234.out 1).trans rfl
              have hcz62_2 : wr.cell? ⟨gb234,2,none⟩ = some (.int .i64 t232):=(blk_cell BK234.out 2).trans rfl
              have hcz62_3 : wr.cell? ⟨gb234,3,none⟩ = some (.int .i64 t233):=(blk_cell BK234.out 3).trans rfl
              have hfz62_0:=blk_frozen BK234.out 0
              have hfz62_1:=blk_frozen BK234.out 1
              have hfz62_2:=blk_frozen BK234.out 2
              have hfz62_3:=blk_frozen BK234.out 3
              have p244 : 0 ≤ (x62_2 : Int):=of_decide_eq_true (by first | (with_reducible assumption) | assumption)
              have q244 : x62_2 < (t228.length : Int):=of_decide_eq_true (by first | (with_reducible assumption) | assumption)
              obtain ⟨ad244,e244,hx244_0,hx244_1,hx244_2,hx244_3⟩:=at_T47 (Kd.R_reads' HO_235000.out).2.2 x62_2 p244 q244
              cases e244
              replace p244:=eq_true p244
              replace q244:=eq_true q244
              have p245 : 0 ≤ (x62_2 : Int):=of_decide_eq_true (by first | (with_reducible assumption) | assumption)
              have q245 : x62_2 < (t221.length : Int):=of_decide_eq_true (by first | (with_reducible assumption) | assumption)
              obtain ⟨ad245,e245,hx245_0,hx245_1,hx245_2,hx245_3⟩:=at_T46 (Kd.R_reads' HO_3.out).2.2 x62_2 p245 q245
              obtain rfl : ad243 = ad245:=(by injection e245)
              replace p245:=eq_true p245
              replace q245:=eq_true q245
              have p246 : 0 ≤ (x62_2 : Int):=of_decide_eq_true (by first | (with_reducible assumption) | assumption)
              have q246 : x62_2 < (t228.length : Int):=of_decide_eq_true (by first | (with_reducible assumption) | assumption)
              obtain ⟨ad246,e246,hx246_0,hx246_1,hx246_2,hx246_3⟩:=at_T47 (Kd.R_reads' HO_235000.out).2.2 x62_2 p246 q246
              obtain rfl : ad244 = ad246:=(by injection e246)
              replace p246:=eq_true p246
              replace q246:=eq_true q246
              have p247 : 0 ≤ (x62_2 : Int):=of_decide_eq_true (by first | (with_reducible assumption) | assumption)
              have q247 : x62_2 < (t221.length : Int):=of_decide_eq_true (by first | (with_reducible assumption) | assumption)
              obtain ⟨ad247,e247,hx247_0,hx247_1,hx247_2,hx247_3⟩:=at_T46 (Kd.R_reads' HO_3.out).2.2 x62_2 p247 q247
              obtain rfl : ad243 = ad247:=(by injection e247)
              replace p247:=eq_true p247
              replace q247:=eq_true q247
              have p248 : 0 ≤ (x62_2 : Int):=of_decide_eq_true (by first | (with_reducible assumption) | assumption)
              have q248 : x62_2 < (t228.length : Int):=of_decide_eq_true (by first | (with_reducible assumption) | assumption)
              obtain ⟨ad248,e248,hx248_0,hx248_1,hx248_2,hx248_3⟩:=at_T47 (Kd.R_reads' HO_235000.out).2.2 x62_2 p248 q248
              obtain rfl : ad244 = ad248:=(by injection e248)
              replace p248:=eq_true p248
              replace q248:=eq_true q248
              go_wp2
              repeat (go_quiet (fail);try go_wp2)
              go_roundg k2
              case measure => have:=HJ6.out;have:=HK2.out;omega
              case rel => exact ⟨(wrap64 (x62_2 + 1)),(by first | rfl | (simp;done) | (simp [*];done)),H',⟨by have:=HJ6.out;have:=HK2.out;omega⟩,⟨by (with_reducible repeat (first | apply Kd.R_alloc | apply Kd.R_drewN | apply Kd.R_drew));exact HO_3.out⟩,⟨by (with_reducible repeat (first | apply Kd.R_alloc | apply Kd.R_drewN | apply Kd.R_drew));exact HO_235000.out⟩,⟨by (with_reducible repeat (first | refine blk_drewN ?_ _ | refine blk_drew ?_ | refine blk_alloc ?_ _));exact BK227.out⟩,⟨by (with_reducible repeat (first | refine blk_drewN ?_ _ | refine blk_drew ?_ | refine blk_alloc ?_ _));exact BK234.out⟩,⟨by repeat (first | (with_reducible first | exact HB.out | apply below_alloc | apply pw_below_drewN | apply below_drew1 | refine below_set ?_ GE227.out | refine below_set ?_ GE234.out) | exact HB.out)⟩⟩
            ·rw [if_neg c57] at H
             have c57b0 : (((rd_T46 t221 x62_2).f1).toList == ((rd_T47 t228 x62_2).f1).toList) = false:=beq_eq_false_iff_ne.mpr c57
             have c57b1 : (((rd_T46 t221 x62_2).f1).toList != ((rd_T47 t228 x62_2).f1).toList) = true:=bne_iff_ne.mpr c57
             obtain rfl:=Option.some.inj H
             have p243 : 0 ≤ (x62_2 : Int):=of_decide_eq_true (by first | (with_reducible assumption) | assumption)
             have q243 : x62_2 < (t221.length : Int):=of_decide_eq_true (by first | (with_reducible assumption) | assumption)
             obtain ⟨ad243,e243,hx243_0,hx243_1,hx243_2,hx243_3⟩:=at_T46 (Kd.R_reads' HO_3.out).2.2 x62_2 p243 q243
             cases e243
             replace p243:=eq_true p243
             replace q243:=eq_true q243
             have hnb63:=NB234_227.out
             have hnc63:=NB227_234.out
             have hcz64_0 : wr.cell? ⟨gb234,0,none⟩ = some (.slice Ao13 t228.length co13):=(blk_cell BK234.out 0).trans rfl
             have hcz64_1 : wr.cell? ⟨gb234,1,none⟩ = some (.int .i64 t231):=(blk_cell BK234.out 1).trans rfl
             have hcz64_2 : wr.cell? ⟨gb234,2,none⟩ = some (.int .i64 t232):=(blk_cell BK234.out 2).trans rfl
             have hcz64_3 : wr.cell? ⟨gb234,3,none⟩ = some (.int .i64 t233):=(blk_cell BK234.out 3).trans rfl
             have hfz64_0:=blk_frozen BK234.out 0
             have hfz64_1:=blk_frozen BK234.out 1
             have hfz64_2:=blk_frozen BK234.out 2
             have hfz64_3:=blk_frozen BK234.out 3
             have p244 : 0 ≤ (x62_2 : Int):=of_decide_eq_true (by first | (with_reducible assumption) | assumption)
             have q244 : x62_2 < (t228.length : Int):=of_decide_eq_true (by first | (with_reducible assumption) | assumption)
             obtain ⟨ad244,e244,hx244_0,hx244_1,hx244_2,hx244_3⟩:=at_T47 (Kd.R_reads' HO_235000.out).2.2 x62_2 p244 q244
             cases e244
             replace p244:=eq_true p244
             replace q244:=eq_true q244
             have p245 : 0 ≤ (x62_2 : Int):=of_decide_eq_true (by first | (with_reducible assumption) | assumption)
             have q245 : x62_2 < (t221.length : Int):=of_decide_eq_true (by first | (with_reducible assumption) | assumption)
             obtain ⟨ad245,e245,hx245_0,hx245_1,hx245_2,hx245_3⟩:=at_T46 (Kd.R_reads' HO_3.out).2.2 x62_2 p245 q245
             obtain rfl : ad243 = ad245:=(by injection e245)
             replace p245:=eq_true p245
             replace q245:=eq_true q245
             have p246 : 0 ≤ (x62_2 : Int):=of_decide_eq_true (by first | (with_reducible assumption) | assumption)
             have q246 : x62_2 < (t228.length : Int):=of_decide_eq_true (by first | (with_reducible assumption) | assumption)
             obtain ⟨ad246,e246,hx246_0,hx246_1,hx246_2,hx246_3⟩:=at_T47 (Kd.R_reads' HO_235000.out).2.2 x62_2 p246 q246
             obtain rfl : ad244 = ad246:=(by injection e246)
             replace p246:=eq_true p246
             replace q246:=eq_true q246
             go_wp2
             repeat (go_quiet (fail);try go_wp2)
             go_ret
             exact ⟨by first | rfl | (simp [errW_none,errW_some] <;> rfl) | (simp [*,errW_none,errW_some] <;> rfl),by repeat (first | (with_reducible first | exact HB.out | apply below_alloc | apply pw_below_drewN | apply below_drew1 | refine below_set ?_ GE227.out | refine below_set ?_ GE234.out) | exact HB.out)⟩
           ·rw [if_neg c56] at H
            have c56b0 : (((rd_T46 t221 x62_2).f0) == ((rd_T47 t228 x62_2).f0)) = false:=beq_eq_false_iff_ne.mpr c56
            have c56b1 : (((rd_T46 t221 x62_2).f0) != ((rd_T47 t228 x62_2).f0)) = true:=bne_iff_ne.mpr c56
            obtain rfl:=Option.some.inj H
            have p243 : 0 ≤ (x62_2 : Int):=of_decide_eq_true (by first | (with_reducible assumption) | assumption)
            have q243 : x62_2 < (t221.length : Int):=of_decide_eq_true (by first | (with_reducible assumption) | assumption)
            obtain ⟨ad243,e243,hx243_0,hx243_1,hx243_2,hx243_3⟩:=at_T46 (Kd.R_reads' HO_3.out).2.2 x62_2 p243 q243
            cases e243
            replace p243:=eq_true p243
            replace q243:=eq_true q243
            have hnb65:=NB234_227.out
            have hnc65:=NB227_234.out
            have hcz66_0 : wr.cell? ⟨gb234,0,none⟩ = some (.slice Ao13 t228.length co13):=(blk_cell BK234.out 0).trans rfl
            have hcz66_1 : wr.cell? ⟨gb234,1,none⟩ = some (.int .i64 t231):=(blk_cell BK234.out 1).trans rfl
            have hcz66_2 : wr.cell? ⟨gb234,2,none⟩ = some (.int .i64 t232):=(blk_cell BK234.out 2).trans rfl
            have hcz66_3 : wr.cell? ⟨gb234,3,none⟩ = some (.int .i64 t233):=(blk_cell BK234.out 3).trans rfl
            have hfz66_0:=blk_frozen BK234.out 0
            have hfz66_1:=blk_frozen BK234.out 1
            have hfz66_2:=blk_frozen BK234.out 2
            have hfz66_3:=blk_frozen BK234.out 3
            have p244 : 0 ≤ (x62_2 : Int):=of_decide_eq_true (by first | (with_reducible assumption) | assumption)
            have q244 : x62_2 < (t228.length : Int):=of_decide_eq_true (by first | (with_reducible assumption) | assumption)
            obtain ⟨ad244,e244,hx244_0,hx244_1,hx244_2,hx244_3⟩:=at_T47 (Kd.R_reads' HO_235000.out).2.2 x62_2 p244 q244
            cases e244
            replace p244:=eq_true p244
            replace q244:=eq_true q244
            go_wp2
            repeat (go_quiet (fail);try go_wp2)
            go_ret
            exact ⟨by first | rfl | (simp [errW_none,errW_some] <;> rfl) | (simp [*,errW_none,errW_some] <;> rfl),by repeat (first | (with_reducible first | exact HB.out | apply below_alloc | apply pw_below_drewN | apply below_drew1 | refine below_set ?_ GE227.out | refine below_set ?_ GE234.out) | exact HB.out)⟩
          ·rw [if_neg c55] at H
           exact absurd H (by simp)
         ·rw [if_neg c54] at H
          exact absurd H (by simp)
        ·rw [if_neg c53] at H
         exact absurd H (by simp)
       ·rw [if_neg c52] at H
        have c52b0 : decide (x62_2 < (t221.length : Int)) = false:=decide_eq_false c52
        clear c52
        replace H:=Option.bind_eq_some_iff.mp H
        obtain ⟨t249,A670,H⟩:=H
        replace H : (some t249) = some r:=H
        have A67:=Aside0.mk A670
        clear A670
        obtain rfl:=Option.some.inj H
        go_wp2_with (first | (go_at_call 16;(with_reducible refine (tachographlaw21_fixed.calls k2  t249 _ A67.out).mono ?_);rintro e w68 ⟨rfl,hb⟩;have n0_:=Aside0.mk (Kd.R_below (by (with_reducible repeat (first | apply Kd.R_alloc | apply Kd.R_drewN | apply Kd.R_drew));exact HO_3.out) hb);have n1_:=Aside0.mk (Kd.R_below (by (with_reducible repeat (first | apply Kd.R_alloc | apply Kd.R_drewN | apply Kd.R_drew));exact HO_235000.out) hb);have n2_:=Aside0.mk (blk_below (g:=gb227) (o:=.cells #[.int .i64 t225,.int .i64 t226] 36 (0,0)) (by (with_reducible repeat (first | refine blk_drewN ?_ _ | refine blk_drew ?_ | refine blk_alloc ?_ _));exact BK227.out) hb);have n3_:=Aside0.mk (blk_below (g:=gb234) (o:=.cells #[.slice Ao13 t228.length co13,.int .i64 t231,.int .i64 t232,.int .i64 t233] 41 (0,0)) (by (with_reducible repeat (first | refine blk_drewN ?_ _ | refine blk_drew ?_ | refine blk_alloc ?_ _));exact BK234.out) hb);have n4_:=Aside0.mk (below_step (by repeat (first | (with_reducible first | exact HB.out | apply below_alloc | apply pw_below_drewN | apply below_drew1 | refine below_set ?_ GE227.out | refine below_set ?_ GE234.out) | exact HB.out)) hb);clear HO_3;clear HO_235000;clear BK227;clear BK234;clear HB;have HO_3:=n0_;have HO_235000:=n1_;have BK227:=n2_;have BK234:=n3_;have HB:=n4_;clear n0_ n1_ n2_ n3_ n4_;(try clear hb);(try clear hb2);(try clear hk);(try clear hi)))
        repeat (go_quiet (first | (go_at_call 16;(with_reducible refine (tachographlaw21_fixed.calls k2  t249 _ A67.out).mono ?_);rintro e w68 ⟨rfl,hb⟩;have n0_:=Aside0.mk (Kd.R_below (by (with_reducible repeat (first | apply Kd.R_alloc | apply Kd.R_drewN | apply Kd.R_drew));exact HO_3.out) hb);have n1_:=Aside0.mk (Kd.R_below (by (with_reducible repeat (first | apply Kd.R_alloc | apply Kd.R_drewN | apply Kd.R_drew));exact HO_235000.out) hb);have n2_:=Aside0.mk (blk_below (g:=gb227) (o:=.cells #[.int .i64 t225,.int .i64 t226] 36 (0,0)) (by (with_reducible repeat (first | refine blk_drewN ?_ _ | refine blk_drew ?_ | refine blk_alloc ?_ _));exact BK227.out) hb);have n3_:=Aside0.mk (blk_below (g:=gb234) (o:=.cells #[.slice Ao13 t228.length co13,.int .i64 t231,.int .i64 t232,.int .i64 t233] 41 (0,0)) (by (with_reducible repeat (first | refine blk_drewN ?_ _ | refine blk_drew ?_ | refine blk_alloc ?_ _));exact BK234.out) hb);have n4_:=Aside0.mk (below_step (by repeat (first | (with_reducible first | exact HB.out | apply below_alloc | apply pw_below_drewN | apply below_drew1 | refine below_set ?_ GE227.out | refine below_set ?_ GE234.out) | exact HB.out)) hb);clear HO_3;clear HO_235000;clear BK227;clear BK234;clear HB;have HO_3:=n0_;have HO_235000:=n1_;have BK227:=n2_;have BK234:=n3_;have HB:=n4_;clear n0_ n1_ n2_ n3_ n4_;(try clear hb);(try clear hb2);(try clear hk);(try clear hi)));try go_wp2_with (first | (go_at_call 16;(with_reducible refine (tachographlaw21_fixed.calls k2  t249 _ A67.out).mono ?_);rintro e w68 ⟨rfl,hb⟩;have n0_:=Aside0.mk (Kd.R_below (by (with_reducible repeat (first | apply Kd.R_alloc | apply Kd.R_drewN | apply Kd.R_drew));exact HO_3.out) hb);have n1_:=Aside0.mk (Kd.R_below (by (with_reducible repeat (first | apply Kd.R_alloc | apply Kd.R_drewN | apply Kd.R_drew));exact HO_235000.out) hb);have n2_:=Aside0.mk (blk_below (g:=gb227) (o:=.cells #[.int .i64 t225,.int .i64 t226] 36 (0,0)) (by (with_reducible repeat (first | refine blk_drewN ?_ _ | refine blk_drew ?_ | refine blk_alloc ?_ _));exact BK227.out) hb);have n3_:=Aside0.mk (blk_below (g:=gb234) (o:=.cells #[.slice Ao13 t228.length co13,.int .i64 t231,.int .i64 t232,.int .i64 t233] 41 (0,0)) (by (with_reducible repeat (first | refine blk_drewN ?_ _ | refine blk_drew ?_ | refine blk_alloc ?_ _));exact BK234.out) hb);have n4_:=Aside0.mk (below_step (by repeat (first | (with_reducible first | exact HB.out | apply below_alloc | apply pw_below_drewN | apply below_drew1 | refine below_set ?_ GE227.out | refine below_set ?_ GE234.out) | exact HB.out)) hb);clear HO_3;clear HO_235000;clear BK227;clear BK234;clear HB;have HO_3:=n0_;have HO_235000:=n1_;have BK227:=n2_;have BK234:=n3_;have HB:=n4_;clear n0_ n1_ n2_ n3_ n4_;(try clear hb);(try clear hb2);(try clear hk);(try clear hi))))
        go_ret
        exact ⟨by first | rfl | (simp [errW_none,errW_some] <;> rfl) | (simp [*,errW_none,errW_some] <;> rfl),by repeat (first | (with_reducible first | exact HB.out | apply below_alloc | apply pw_below_drewN | apply below_drew1 | refine below_set ?_ GE227.out | refine below_set ?_ GE234.out) | exact HB.out)⟩

/-- THE ONE PURE STATEMENT of tachographlaw21_LexAll: yours. -/
def tachographlaw21_LexAll.Pure : Prop:=∀ (a0 : ByteArray),a0.size ≤ 140737488351232 → ∃ k,tachographlaw21_LexAll.f k a0 = some true
theorem tachographlaw21_LexAll.walk (P : tachographlaw21_LexAll.Pure) (a0 : ByteArray) (w : World) (w0 : a0.size ≤ 140737488351232) :
  Calls Try.prog 6 #[.string a0] w fun e w' => e = .returned (.bool true) ∧ Below w.heap.size w w':=by
 obtain ⟨k,h⟩:=P a0 w0
 refine (tachographlaw21_LexAll.calls k a0 true w h).mono ?_
 rintro e w' ⟨rfl,hd⟩
 exact ⟨rfl,hd⟩

/-! ### tachographlaw21_LexPlaces_1: function 21 -/
def tachographlaw21_LexPlaces_1.f (a0_0 : Int) (a0_1 : Int) (a1_0 : Int) (a1_1 : Int) : Option (Bool) := if a0_0 < a1_0 then (some true) else (if a0_0 = a1_0 then (some (decide (a0_1 < a1_1))) else (some false))
set_option maxHeartbeats 8000000 in
set_option maxRecDepth 100000 in
theorem tachographlaw21_LexPlaces_1.calls (a0_0 : Int) (a0_1 : Int) (a1_0 : Int) (a1_1 : Int) (r : Bool) (w : World) (h : tachographlaw21_LexPlaces_1.f a0_0 a0_1 a1_0 a1_1 = some r) :
  Calls Try.prog 21 #[.agg #[.int .i64 a0_0,.int .i64 a0_1],.agg #[.int .i64 a1_0,.int .i64 a1_1]] w fun e w' => e = .returned (.bool r) ∧ Below w.heap.size w w':=by
 have hu36:=Try.underlying36
 have HB:=Aside0.mk (Below.refl w.heap.size w)
 have H : (if a0_0 < a1_0 then (some true) else (if a0_0 = a1_0 then (some (decide (a0_1 < a1_1))) else (some false))) = some r:=h
 clear h
 by_cases c3 : a0_0 < a1_0
 ·rw [if_pos c3] at H
  have c3b0 : decide (a0_0 < a1_0) = true:=decide_eq_true c3
  clear c3
  obtain rfl:=Option.some.inj H
  go_enter Try.func21,Try.ntmps21
  go_wp2_with (first | ((with_reducible refine gate_dst (N:=2) rfl ?_);refine box_event ?hg (N:=2) ?hd (cs:=#[.int .i64 a0_0,.int .i64 a0_1]) (t:=36) ?hr ?_;(case hd => rfl);(case hg => rfl);(case hr => first | (go_simp;done) | (go_simp;rfl));intro gb250 hg w4 hbox hb;have n0_:=Aside0.mk (below_step (by repeat (first | (with_reducible first | exact HB.out | apply below_alloc | apply pw_below_drewN | apply below_drew1) | exact HB.out)) hb);have n1_:=Aside0.mk (hbox);have n2_:=Aside0.mk ((by rw [hg];exact (below_size (by repeat (first | (with_reducible first | exact HB.out | apply below_alloc | apply pw_below_drewN | apply below_drew1) | exact HB.out))) : w.heap.size ≤ gb250));have n3_:=Aside0.mk ((by rw [hg];exact (below_size (by repeat (first | (with_reducible first | exact HB.out | apply below_alloc | apply pw_below_drewN | apply below_drew1) | exact HB.out))) : w.heap.size ≤ gb250));clear HB;have HB:=n0_;have BK250:=n1_;have GW250:=n2_;have GE250:=n3_;clear n0_ n1_ n2_ n3_;clear hb hbox hg) | ((with_reducible refine gate_dst (N:=3) rfl ?_);refine box_event ?hg (N:=3) ?hd (cs:=#[.int .i64 a1_0,.int .i64 a1_1]) (t:=36) ?hr ?_;(case hd => rfl);(case hg => rfl);(case hr => first | (go_simp;done) | (go_simp;rfl));intro gb251 hg w5 hbox hb;have n0_:=Aside0.mk (blk_below (g:=gb250) (o:=.cells #[.int .i64 a0_0,.int .i64 a0_1] 36 (0,0)) (by (with_reducible repeat (first | refine blk_drewN ?_ _ | refine blk_drew ?_ | refine blk_alloc ?_ _));exact BK250.out) hb);have n1_:=Aside0.mk (below_step (by repeat (first | (with_reducible first | exact HB.out | apply below_alloc | apply pw_below_drewN | apply below_drew1 | refine below_set ?_ GE250.out) | exact HB.out)) hb);have n2_:=Aside0.mk (hbox);have n3_:=Aside0.mk ((by rw [hg];exact (below_size (by repeat (first | (with_reducible first | exact HB.out | apply below_alloc | apply pw_below_drewN | apply below_drew1 | refine below_set ?_ GE250.out) | exact HB.out))) : w.heap.size ≤ gb251));have n4_:=Aside0.mk ((by rw [hg];exact (below_size (by repeat (first | (with_reducible first | exact HB.out | apply below_alloc | apply pw_below_drewN | apply below_drew1 | refine below_set ?_ GE250.out) | exact HB.out))) : w.heap.size ≤ gb251));have n5_:=Aside0.mk ((by rw [hg];exact Nat.ne_of_lt (blk_lt (g:=gb250) (o:=.cells #[.int .i64 a0_0,.int .i64 a0_1] 36 (0,0)) (by (with_reducible repeat (first | refine blk_drewN ?_ _ | refine blk_drew ?_ | refine blk_alloc ?_ _));exact BK250.out)) : gb250 ≠ gb251));have n6_:=Aside0.mk ((by rw [hg];exact Nat.ne_of_gt (blk_lt (g:=gb250) (o:=.cells #[.int .i64 a0_0,.int .i64 a0_1] 36 (0,0)) (by (with_reducible repeat (first | refine blk_drewN ?_ _ | refine blk_drew ?_ | refine blk_alloc ?_ _));exact BK250.out)) : gb251 ≠ gb250));clear BK250;clear HB;have BK250:=n0_;have HB:=n1_;have BK251:=n2_;have GW251:=n3_;have GE251:=n4_;have NB250_251:=n5_;have NB251_250:=n6_;clear n0_ n1_ n2_ n3_ n4_ n5_ n6_;clear hb hbox hg;have hnb6:=NB250_251.out;have hnc6:=NB251_250.out;have hcz7_0 : w5.cell? ⟨gb250,0,none⟩ = some (.int .i64 a0_0):=(blk_cell BK250.out 0).trans rfl;have hcz7_1 : w5.cell? ⟨gb250,1,none⟩ = some (.int .i64 a0_1):=(blk_cell BK250.out 1).trans rfl;have hfz7_0:=blk_frozen BK250.out 0;have hfz7_1:=blk_frozen BK250.out 1;have hcz8_0 : w5.cell? ⟨gb251,0,none⟩ = some (.int .i64 a1_0):=(blk_cell BK251.out 0).trans rfl;have hcz8_1 : w5.cell? ⟨gb251,1,none⟩ = some (.int .i64 a1_1):=(blk_cell BK251.out 1).trans rfl;have hfz8_0:=blk_frozen BK251.out 0;have hfz8_1:=blk_frozen BK251.out 1))
  go_ret
  exact ⟨by first | rfl | (simp [errW_none,errW_some] <;> rfl) | (simp [*,errW_none,errW_some] <;> rfl),by repeat (first | (with_reducible first | exact HB.out | apply below_alloc | apply pw_below_drewN | apply below_drew1 | refine below_set ?_ GE250.out | refine below_set ?_ GE251.out) | exact HB.out)⟩
 ·rw [if_neg c3] at H
  have c3b0 : decide (a0_0 < a1_0) = false:=decide_eq_false c3
  clear c3
  by_cases c9 : a0_0 = a1_0
  ·rw [if_pos c9] at H
   have c9b0 : (a0_0 == a1_0) = true:=beq_iff_eq.mpr c9
   have c9b1 : (a0_0 != a1_0) = false:=bne_eq_false_iff_eq.mpr c9
   clear c9
   obtain rfl:=Option.some.inj H
   go_enter Try.func21,Try.ntmps21
   go_wp2_with (first | ((with_reducible refine gate_dst (N:=2) rfl ?_);refine box_event ?hg (N:=2) ?hd (cs:=#[.int .i64 a0_0,.int .i64 a0_1]) (t:=36) ?hr ?_;(case hd => rfl);(case hg => rfl);(case hr => first | (go_simp;done) | (go_simp;rfl));intro gb250 hg w10 hbox hb;have n0_:=Aside0.mk (below_step (by repeat (first | (with_reducible first | exact HB.out | apply below_alloc | apply pw_below_drewN | apply below_drew1) | exact HB.out)) hb);have n1_:=Aside0.mk (hbox);have n2_:=Aside0.mk ((by rw [hg];exact (below_size (by repeat (first | (with_reducible first | exact HB.out | apply below_alloc | apply pw_below_drewN | apply below_drew1) | exact HB.out))) : w.heap.size ≤ gb250));have n3_:=Aside0.mk ((by rw [hg];exact (below_size (by repeat (first | (with_reducible first | exact HB.out | apply below_alloc | apply pw_below_drewN | apply below_drew1) | exact HB.out))) : w.heap.size ≤ gb250));clear HB;have HB:=n0_;have BK250:=n1_;have GW250:=n2_;have GE250:=n3_;clear n0_ n1_ n2_ n3_;clear hb hbox hg) | ((with_reducible refine gate_dst (N:=3) rfl ?_);refine box_event ?hg (N:=3) ?hd (cs:=#[.int .i64 a1_0,.int .i64 a1_1]) (t:=36) ?hr ?_;(case hd => rfl);(case hg => rfl);(case hr => first | (go_simp;done) | (go_simp;rfl));intro gb251 hg w11 hbox hb;have n0_:=Aside0.mk (blk_below (g:=gb250) (o:=.cells #[.int .i64 a0_0,.int .i64 a0_1] 36 (0,0)) (by (with_reducible repeat (first | refine blk_drewN ?_ _ | refine blk_drew ?_ | refine blk_alloc ?_ _));exact BK250.out) hb);have n1_:=Aside0.mk (below_step (by repeat (first | (with_reducible first | exact HB.out | apply below_alloc | apply pw_below_drewN | apply below_drew1 | refine below_set ?_ GE250.out) | exact HB.out)) hb);have n2_:=Aside0.mk (hbox);have n3_:=Aside0.mk ((by rw [hg];exact (below_size (by repeat (first | (with_reducible first | exact HB.out | apply below_alloc | apply pw_below_drewN | apply below_drew1 | refine below_set ?_ GE250.out) | exact HB.out))) : w.heap.size ≤ gb251));have n4_:=Aside0.mk ((by rw [hg];exact (below_size (by repeat (first | (with_reducible first | exact HB.out | apply below_alloc | apply pw_below_drewN | apply below_drew1 | refine below_set ?_ GE250.out) | exact HB.out))) : w.heap.size ≤ gb251));have n5_:=Aside0.mk ((by rw [hg];exact Nat.ne_of_lt (blk_lt (g:=gb250) (o:=.cells #[.int .i64 a0_0,.int .i64 a0_1] 36 (0,0)) (by (with_reducible repeat (first | refine blk_drewN ?_ _ | refine blk_drew ?_ | refine blk_alloc ?_ _));exact BK250.out)) : gb250 ≠ gb251));have n6_:=Aside0.mk ((by rw [hg];exact Nat.ne_of_gt (blk_lt (g:=gb250) (o:=.cells #[.int .i64 a0_0,.int .i64 a0_1] 36 (0,0)) (by (with_reducible repeat (first | refine blk_drewN ?_ _ | refine blk_drew ?_ | refine blk_alloc ?_ _));exact BK250.out)) : gb251 ≠ gb250));clear BK250;clear HB;have BK250:=n0_;have HB:=n1_;have BK251:=n2_;have GW251:=n3_;have GE251:=n4_;have NB250_251:=n5_;have NB251_250:=n6_;clear n0_ n1_ n2_ n3_ n4_ n5_ n6_;clear hb hbox hg;have hnb12:=NB250_251.out;have hnc12:=NB251_250.out;have hcz13_0 : w11.cell? ⟨gb250,0,none⟩ = some (.int .i64 a0_0):=(blk_cell BK250.out 0).trans rfl;have hcz13_1 : w11.cell? ⟨gb250,1,none⟩ = some (.int .i64 a0_1):=(blk_cell BK250.out 1).trans rfl;have hfz13_0:=blk_frozen BK250.out 0;have hfz13_1:=blk_frozen BK250.out 1;have hcz14_0 : w11.cell? ⟨gb251,0,none⟩ = some (.int .i64 a1_0):=(blk_cell BK251.out 0).trans rfl;have hcz14_1 : w11.cell? ⟨gb251,1,none⟩ = some (.int .i64 a1_1):=(blk_cell BK251.out 1).trans rfl;have hfz14_0:=blk_frozen BK251.out 0;have hfz14_1:=blk_frozen BK251.out 1))
   go_ret
   exact ⟨by first | rfl | (simp [errW_none,errW_some] <;> rfl) | (simp [*,errW_none,errW_some] <;> rfl),by repeat (first | (with_reducible first | exact HB.out | apply below_alloc | apply pw_below_drewN | apply below_drew1 | refine below_set ?_ GE250.out | refine below_set ?_ GE251.out) | exact HB.out)⟩
  ·rw [if_neg c9] at H
   have c9b0 : (a0_0 == a1_0) = false:=beq_eq_false_iff_ne.mpr c9
   have c9b1 : (a0_0 != a1_0) = true:=bne_iff_ne.mpr c9
   obtain rfl:=Option.some.inj H
   go_enter Try.func21,Try.ntmps21
   go_wp2_with (first | ((with_reducible refine gate_dst (N:=2) rfl ?_);refine box_event ?hg (N:=2) ?hd (cs:=#[.int .i64 a0_0,.int .i64 a0_1]) (t:=36) ?hr ?_;(case hd => rfl);(case hg => rfl);(case hr => first | (go_simp;done) | (go_simp;rfl));intro gb250 hg w15 hbox hb;have n0_:=Aside0.mk (below_step (by repeat (first | (with_reducible first | exact HB.out | apply below_alloc | apply pw_below_drewN | apply below_drew1) | exact HB.out)) hb);have n1_:=Aside0.mk (hbox);have n2_:=Aside0.mk ((by rw [hg];exact (below_size (by repeat (first | (with_reducible first | exact HB.out | apply below_alloc | apply pw_below_drewN | apply below_drew1) | exact HB.out))) : w.heap.size ≤ gb250));have n3_:=Aside0.mk ((by rw [hg];exact (below_size (by repeat (first | (with_reducible first | exact HB.out | apply below_alloc | apply pw_below_drewN | apply below_drew1) | exact HB.out))) : w.heap.size ≤ gb250));clear HB;have HB:=n0_;have BK250:=n1_;have GW250:=n2_;have GE250:=n3_;clear n0_ n1_ n2_ n3_;clear hb hbox hg) | ((with_reducible refine gate_dst (N:=3) rfl ?_);refine box_event ?hg (N:=3) ?hd (cs:=#[.int .i64 a1_0,.int .i64 a1_1]) (t:=36) ?hr ?_;(case hd => rfl);(case hg => rfl);(case hr => first | (go_simp;done) | (go_simp;rfl));intro gb251 hg w16 hbox hb;have n0_:=Aside0.mk (blk_below (g:=gb250) (o:=.cells #[.int .i64 a0_0,.int .i64 a0_1] 36 (0,0)) (by (with_reducible repeat (first | refine blk_drewN ?_ _ | refine blk_drew ?_ | refine blk_alloc ?_ _));exact BK250.out) hb);have n1_:=Aside0.mk (below_step (by repeat (first | (with_reducible first | exact HB.out | apply below_alloc | apply pw_below_drewN | apply below_drew1 | refine below_set ?_ GE250.out) | exact HB.out)) hb);have n2_:=Aside0.mk (hbox);have n3_:=Aside0.mk ((by rw [hg];exact (below_size (by repeat (first | (with_reducible first | exact HB.out | apply below_alloc | apply pw_below_drewN | apply below_drew1 | refine below_set ?_ GE250.out) | exact HB.out))) : w.heap.size ≤ gb251));have n4_:=Aside0.mk ((by rw [hg];exact (below_size (by repeat (first | (with_reducible first | exact HB.out | apply below_alloc | apply pw_below_drewN | apply below_drew1 | refine below_set ?_ GE250.out) | exact HB.out))) : w.heap.size ≤ gb251));have n5_:=Aside0.mk ((by rw [hg];exact Nat.ne_of_lt (blk_lt (g:=gb250) (o:=.cells #[.int .i64 a0_0,.int .i64 a0_1] 36 (0,0)) (by (with_reducible repeat (first | refine blk_drewN ?_ _ | refine blk_drew ?_ | refine blk_alloc ?_ _));exact BK250.out)) : gb250 ≠ gb251));have n6_:=Aside0.mk ((by rw [hg];exact Nat.ne_of_gt (blk_lt (g:=gb250) (o:=.cells #[.int .i64 a0_0,.int .i64 a0_1] 36 (0,0)) (by (with_reducible repeat (first | refine blk_drewN ?_ _ | refine blk_drew ?_ | refine blk_alloc ?_ _));exact BK250.out)) : gb251 ≠ gb250));clear BK250;clear HB;have BK250:=n0_;have HB:=n1_;have BK251:=n2_;have GW251:=n3_;have GE251:=n4_;have NB250_251:=n5_;have NB251_250:=n6_;clear n0_ n1_ n2_ n3_ n4_ n5_ n6_;clear hb hbox hg;have hnb17:=NB250_251.out;have hnc17:=NB251_250.out;have hcz18_0 : w16.cell? ⟨gb250,0,none⟩ = some (.int .i64 a0_0):=(blk_cell BK250.out 0).trans rfl;have hcz18_1 : w16.cell? ⟨gb250,1,none⟩ = some (.int .i64 a0_1):=(blk_cell BK250.out 1).trans rfl;have hfz18_0:=blk_frozen BK250.out 0;have hfz18_1:=blk_frozen BK250.out 1;have hcz19_0 : w16.cell? ⟨gb251,0,none⟩ = some (.int .i64 a1_0):=(blk_cell BK251.out 0).trans rfl;have hcz19_1 : w16.cell? ⟨gb251,1,none⟩ = some (.int .i64 a1_1):=(blk_cell BK251.out 1).trans rfl;have hfz19_0:=blk_frozen BK251.out 0;have hfz19_1:=blk_frozen BK251.out 1))
   go_ret
   exact ⟨by first | rfl | (simp [errW_none,errW_some] <;> rfl) | (simp [*,errW_none,errW_some] <;> rfl),by repeat (first | (with_reducible first | exact HB.out | apply below_alloc | apply pw_below_drewN | apply below_drew1 | refine below_set ?_ GE250.out | refine below_set ?_ GE251.out) | exact HB.out)⟩

end Go.Proofs.Ytjfklfmfeghjnac.PL
