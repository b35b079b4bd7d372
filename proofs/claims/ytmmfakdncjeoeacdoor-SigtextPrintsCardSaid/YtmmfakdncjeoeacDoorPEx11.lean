-- Contracts of Go functions, each with its plain Lean function: written by wip/tools/myprint.py of this work (the kit's print, with contracts proved by hand spliced in).
import Derived.Test.YtmmfakdncjeoeacDoorPEx0
import Derived.Test.YtmmfakdncjeoeacDoorPEx1
import Derived.Test.YtmmfakdncjeoeacDoorPEx4
import Derived.Test.YtmmfakdncjeoeacDoorPEx5
import Derived.Test.YtmmfakdncjeoeacDoorPEx9
import Derived.Test.YtmmfakdncjeoeacDoorPEx10
namespace Go.Proofs.YtmmfakdncjeoeacDoor.PE
open Go.RowKit Go.Proofs.YtmmfakdncjeoeacDoorW.PrintWords Go.Proofs.YtmmfakdncjeoeacDoorW.PrintLast Go.Proofs.YtmmfakdncjeoeacDoorW.PrintMore
attribute [local go_sem] max2_int min2_int max_two min_two max_three min_three max_four min_four   -- for this text's walks alone
set_option linter.unusedVariables false
set_option linter.unusedSimpArgs false

attribute [local go_sem high] eqA26
/-! ### sigtext_Print: function 10 -/
def sigtext_Print.l0 : Nat → List (S41) → Int → Int → ByteArray → Option (ByteArray × Int)
 | 0, _, _, _, _ => none
 | k + 1, x13, x14, x15, x238000 => if x15 < x14 then (if 0 ≤ x15 then (if x15 < (x13.length : Int) then ((sigtext_line.f k ((rd_T41 x13 x15).f0) ((rd_T41 x13 x15).f1)).bind fun t240 => (if t240.size + 1 ≤ 9223372036854775807 then ((strings_Builder_WriteString.f x238000 (t240 ++ (⟨#[10]⟩ : ByteArray))).bind fun bt241 => (sigtext_Print.l0 k x13 x14 (wrap64 (x15 + 1)) bt241.2.2)) else (none))) else (none)) else (none)) else ((strings_Builder_String.f x238000).bind fun bt244 => (some (bt244.1, 0)))
def sigtext_Print.f (k : Nat) (l0 : List (S41)) : Option (ByteArray × Int) := (sig_Check.f k l0).bind fun t235 => (if t235 = 0 then ((strings_Builder_copyCheck.f).bind fun t236 => (sigtext_Print.l0 k l0 (l0.length : Int) 0 t236)) else (some ((⟨#[]⟩ : ByteArray), t235)))
theorem sigtext_Print.mono_l : ∀ k, (∀ y0 y1 y2 y3, LeO (sigtext_Print.l0 k y0 y1 y2 y3) (sigtext_Print.l0 (k + 1) y0 y1 y2 y3))
 | 0 => fun _ _ _ _ r h => by simp [sigtext_Print.l0] at h
 | k + 1 => by
  have ih0 := sigtext_Print.mono_l k
  ·intro y0 y1 y2 y3
   unfold sigtext_Print.l0
   repeat' first
   | (with_reducible exact ih0 _ _ _ _)
   | (with_reducible exact sig_Check.mono _ _)
   | (with_reducible exact sigtext_line.mono _ _ _)
   | (with_reducible exact LeO.refl _)
   | (with_reducible exact LeO.none _)
   | (with_reducible refine LeO.ite ?_ ?_)
   | (with_reducible refine LeO.bind ?_ (fun _ => ?_))
   | exact ih0 _ _ _ _
   | exact sig_Check.mono _ _
   | exact sigtext_line.mono _ _ _
   | exact LeO.none _
   | refine LeO.ite ?_ ?_
   | refine LeO.bind ?_ (fun _ => ?_)
theorem sigtext_Print.mono : ∀ a0 k, LeO (sigtext_Print.f k a0) (sigtext_Print.f (k + 1) a0) := by
 intro a0 k
 have ih0 := sigtext_Print.mono_l k
 unfold sigtext_Print.f
 repeat' first
   | (with_reducible exact ih0 _ _ _ _)
   | (with_reducible exact sig_Check.mono _ _)
   | (with_reducible exact sigtext_line.mono _ _ _)
   | (with_reducible exact LeO.refl _)
   | (with_reducible exact LeO.none _)
   | (with_reducible refine LeO.ite ?_ ?_)
   | (with_reducible refine LeO.bind ?_ (fun _ => ?_))
   | exact ih0 _ _ _ _
   | exact sig_Check.mono _ _
   | exact sigtext_line.mono _ _ _
   | exact LeO.none _
   | refine LeO.ite ?_ ?_
   | refine LeO.bind ?_ (fun _ => ?_)
set_option maxHeartbeats 8000000 in
set_option maxRecDepth 100000 in
theorem sigtext_Print.calls (k : Nat) (A0 : Option Addr) (c0 : Nat) (l0 : List (S41)) (r1 : ByteArray) (r2 : Int) (w : World) (hr0 : Kd.C k41 w A0 l0.length l0) (hc0 : l0.length ≤ c0) (h : sigtext_Print.f k l0 = some (r1,r2)) (hg : Go.Proofs.YtmmfakdncjeoeacDoorAid.Glob w) :
  Calls Tryd.prog 10 #[.slice A0 l0.length c0] w fun e w' => e = .returned (.tuple #[.string r1,.int .i64 r2]) ∧ Below w.heap.size w w':=by
 have hu41:=Tryd.underlying41
 have HR0:=Aside0.mk hr0
 have HC0:=Aside0.mk hc0
 clear hr0 hc0
 have HB:=Aside0.mk (Below.refl w.heap.size w)
 have HG:=Aside0.mk hg
 clear hg
 have H : ((sig_Check.f k l0).bind fun t235 => (if t235 = 0 then ((strings_Builder_copyCheck.f).bind fun t236 => (sigtext_Print.l0 k l0 (l0.length : Int) 0 t236)) else (some ((⟨#[]⟩ : ByteArray),t235)))) = some (r1,r2):=h
 clear h
 replace H:=Option.bind_eq_some_iff.mp H
 obtain ⟨t235,A20,H⟩:=H
 replace H : (if t235 = 0 then ((strings_Builder_copyCheck.f).bind fun t236 => (sigtext_Print.l0 k l0 (l0.length : Int) 0 t236)) else (some ((⟨#[]⟩ : ByteArray),t235))) = some (r1,r2):=H
 have A2:=Aside0.mk A20
 clear A20
 by_cases c3 : t235 = 0
 ·rw [if_pos c3] at H
  have c3b0 : (t235 == 0) = true:=beq_iff_eq.mpr c3
  have c3b1 : (t235 != 0) = false:=bne_eq_false_iff_eq.mpr c3
  clear c3
  replace H:=Option.bind_eq_some_iff.mp H
  obtain ⟨t236,A40,H⟩:=H
  replace H : (sigtext_Print.l0 k l0 (l0.length : Int) 0 t236) = some (r1,r2):=H
  have A4:=Aside0.mk A40
  clear A40
  have H':=Aside0.mk H
  clear H
  go_enter Tryd.func10,Tryd.ntmps10
  go_wp2_with (first | ((with_reducible refine gate_callee (f:=22) rfl ?_);refine goesL_ (some 9) rfl rfl Tryd.func22 (by kernel_rfl) rfl #[.slice A0 l0.length c0] rfl (by (try simp only [List.map_toArray,List.map_cons,List.map_nil]);first | done | rfl | (simp only [List.length_drop,List.length_take];rfl)) ?_;(with_reducible refine (sig_Check.calls k _ _ l0 t235 _ ?side1 ?side2 A2.out).mono ?_);(case side1 => repeat (first | exact HR0.out | (with_reducible refine Kd.C_alloc ?_ _) | (with_reducible refine Kd.C_drewN ?_ _) | (with_reducible refine Kd.C_drew ?_)));(case side2 => exact HC0.out);rintro e w5 ⟨rfl,hb⟩;refine ⟨_,rfl,?_⟩;have n0_:=Aside0.mk (below_step (by repeat (first | (with_reducible first | exact HB.out | apply below_alloc | apply pw_below_drewN | apply below_drew1) | exact HB.out)) hb);clear HB;have HB:=n0_;clear n0_;(try clear hb);(try clear hb2);(try clear hk);(try clear hi)) | ((with_reducible refine gate_dst (N:=5) rfl ?_);refine box_event ?hg (N:=5) ?hd (cs:=#[.pointer none,.slice none 0 0]) (t:=57) ?hr ?_;(case hd => rfl);(case hg => rfl);(case hr => first | (go_simp;done) | (go_simp;rfl));intro g237 hg w6 hbox hb2;have hgw_ : w.heap.size ≤ g237:=(by rw [hg];exact (below_size (by repeat (first | (with_reducible first | exact HB.out | apply below_alloc | apply pw_below_drewN | apply below_drew1) | exact HB.out))));have hi : IsS57 w _ g237 t236:=(by rw [← Option.some.inj (show some (⟨#[]⟩ : ByteArray) = some t236 from A4.out)];exact IsS57.fresh0 hbox hgw_);have hb:=below_step (by repeat (first | (with_reducible first | exact HB.out | apply below_alloc | apply pw_below_drewN | apply below_drew1) | exact HB.out)) hb2;clear hg hbox hgw_;have n0_:=Aside0.mk (hb);have n1_:=Aside0.mk (hi);clear HB;have HB:=n0_;have HI237:=n1_;clear n0_ n1_;(try clear hb);(try clear hb2);(try clear hk);(try clear hi)))
  go_loopg [15] k (fun kq v15 w' => ∃ (x15_1 : Int) (x238000_1 : ByteArray),v15 = .int .i64 x15_1 ∧ Aside0 (sigtext_Print.l0 kq l0 (l0.length : Int) x15_1 x238000_1 = some (r1,r2)) ∧ Aside0 (kq ≤ k) ∧ Aside0 (IsS57 w w' g237 x238000_1) ∧ Aside0 (Below w.heap.size w w'))
  case atStart => exact ⟨(0),(t236),(by first | rfl | (simp;done) | (simp [*];done)),H',⟨Nat.le_refl _⟩,⟨by repeat (first | (with_reducible first | exact HI237.out | apply IsS57.alloc | apply IsS57.drewN | apply IsS57.drew | apply IsS57.set_0) | exact HI237.out)⟩,⟨by repeat (first | (with_reducible first | exact HB.out | apply below_alloc | apply pw_below_drewN | apply below_drew1 | refine below_set ?_ (IsS57.ge HI237.out)) | exact HB.out)⟩⟩
  case round =>
   clear H'
   try clear c1
   try clear c2
   try clear p2
   try clear c3
   try clear c3b0
   try clear c3b1
   obtain ⟨x15_1,x238000_1,rfl,HA,HK1,HI237,HB⟩:=hrel
   cases gk with
   | zero => exact absurd HA.out (by simp [sigtext_Print.l0])
   | succ k1 =>
    have H:=HA.out
    clear HA
    simp only [sigtext_Print.l0] at H
    by_cases c7 : x15_1 < (l0.length : Int)
    ·rw [if_pos c7] at H
     have c7b0 : decide (x15_1 < (l0.length : Int)) = true:=decide_eq_true c7
     clear c7
     by_cases c8 : 0 ≤ x15_1
     ·rw [if_pos c8] at H
      have c8b0 : decide (0 ≤ x15_1) = true:=decide_eq_true c8
      clear c8
      by_cases c9 : x15_1 < (l0.length : Int)
      ·rw [if_pos c9] at H
       have c9b0 : decide (x15_1 < (l0.length : Int)) = true:=decide_eq_true c9
       clear c9
       replace H:=Option.bind_eq_some_iff.mp H
       obtain ⟨t240,A100,H⟩:=H
       replace H : (if t240.size + 1 ≤ 9223372036854775807 then ((strings_Builder_WriteString.f x238000_1 (t240 ++ (⟨#[10]⟩ : ByteArray))).bind fun bt241 => (sigtext_Print.l0 k1 l0 (l0.length : Int) (wrap64 (x15_1 + 1)) bt241.2.2)) else (none)) = some (r1,r2):=H
       have A10:=Aside0.mk A100
       clear A100
       by_cases c11 : t240.size + 1 ≤ 9223372036854775807
       ·rw [if_pos c11] at H
        have c11b0:=eq_true c11
        have c11b1 : decide (t240.size + 1 ≤ 9223372036854775807) = true:=decide_eq_true c11
        try have c11b2 : (9223372036854775807 < t240.size + 1) = False:=eq_false (Nat.not_lt.2 c11)
        replace H:=Option.bind_eq_some_iff.mp H
        obtain ⟨⟨t241,t242,t243⟩,A120,H⟩:=H
        replace H : (sigtext_Print.l0 k1 l0 (l0.length : Int) (wrap64 (x15_1 + 1)) t243) = some (r1,r2):=H
        have A12:=Aside0.mk A120
        clear A120
        have H':=Aside0.mk H
        clear H
        have p238 : 0 ≤ (x15_1 : Int):=of_decide_eq_true (by first | (with_reducible assumption) | assumption)
        have q238 : x15_1 < (l0.length : Int):=of_decide_eq_true (by first | (with_reducible assumption) | assumption)
        obtain ⟨ad238,A238_1,c238_1,e238,hx238_0,hx238_1,hl238_1,hi238_1⟩:=at_T41 HR0.out x15_1 p238 q238
        cases e238
        replace hx238_0:=(HB.out.cell (World.block_lt_of_cell? w _ hx238_0)).trans hx238_0
        replace hx238_1:=(HB.out.cell (World.block_lt_of_cell? w _ hx238_1)).trans hx238_1
        have HR238_1:=Aside0.mk hi238_1
        have HC238_1:=Aside0.mk hl238_1
        clear hi238_1 hl238_1
        replace p238:=eq_true p238
        replace q238:=eq_true q238
        go_wp2_with (first | ((with_reducible refine gate_dst (N:=7) rfl ?_);refine box_event ?hg (N:=7) ?hd (cs:=#[.string (⟨#[]⟩ : ByteArray),.slice none 0 0]) (t:=41) ?hr ?_;(case hd => rfl);(case hg => rfl);(case hr => first | (go_simp;done) | (go_simp;rfl));intro gb239 hg w13 hbox hb;have n0_:=Aside0.mk (IsS57.below (by repeat (first | (with_reducible first | exact HI237.out | apply IsS57.alloc | apply IsS57.drewN | apply IsS57.drew | apply IsS57.set_0) | exact HI237.out)) hb);have n1_:=Aside0.mk (below_step (by repeat (first | (with_reducible first | exact HB.out | apply below_alloc | apply pw_below_drewN | apply below_drew1 | refine below_set ?_ (IsS57.ge HI237.out)) | exact HB.out)) hb);have n2_:=Aside0.mk (hbox);have n3_:=Aside0.mk ((by rw [hg];exact (below_size (by repeat (first | (with_reducible first | exact HB.out | apply below_alloc | apply pw_below_drewN | apply below_drew1 | refine below_set ?_ (IsS57.ge HI237.out)) | exact HB.out))) : w.heap.size ≤ gb239));have n4_:=Aside0.mk ((by rw [hg];exact (below_size (by repeat (first | (with_reducible first | exact HB.out | apply below_alloc | apply pw_below_drewN | apply below_drew1 | refine below_set ?_ (IsS57.ge HI237.out)) | exact HB.out))) : w.heap.size ≤ gb239));have n5_:=Aside0.mk ((by rw [hg];exact Nat.ne_of_lt (IsS57.lt (show IsS57 w _ g237 x238000_1 from by repeat (first | (with_reducible first | exact HI237.out | apply IsS57.alloc | apply IsS57.drewN | apply IsS57.drew | apply IsS57.set_0) | exact HI237.out))) : g237 ≠ gb239));have n6_:=Aside0.mk ((by rw [hg];exact Nat.ne_of_gt (IsS57.lt (show IsS57 w _ g237 x238000_1 from by repeat (first | (with_reducible first | exact HI237.out | apply IsS57.alloc | apply IsS57.drewN | apply IsS57.drew | apply IsS57.set_0) | exact HI237.out))) : gb239 ≠ g237));clear HI237;clear HB;have HI237:=n0_;have HB:=n1_;have BK239:=n2_;have GW239:=n3_;have GE239:=n4_;have NB237_239:=n5_;have NB239_237:=n6_;clear n0_ n1_ n2_ n3_ n4_ n5_ n6_;clear hb hbox hg;have hnb14:=NB239_237.out;have hnc14:=NB237_239.out;have hcz15_0 : w13.cell? ⟨gb239,0,none⟩ = some (.string (⟨#[]⟩ : ByteArray)):=(blk_cell BK239.out 0).trans rfl;have hcz15_1 : w13.cell? ⟨gb239,1,none⟩ = some (.slice none 0 0):=(blk_cell BK239.out 1).trans rfl;have hfz15_0:=blk_frozen BK239.out 0;have hfz15_1:=blk_frozen BK239.out 1) | ((with_reducible refine gate_callee (f:=24) rfl ?_);refine goesL_ (some 20) rfl rfl Tryd.func24 (by kernel_rfl) rfl #[.agg #[.string ((rd_T41 l0 x15_1).f0),.slice A238_1 ((rd_T41 l0 x15_1).f1).length c238_1]] rfl (by (try simp only [List.map_toArray,List.map_cons,List.map_nil]);first | done | rfl | (simp only [List.length_drop,List.length_take];rfl)) ?_;(with_reducible refine (sigtext_line.calls k1 ((rd_T41 l0 x15_1).f0) _ _ ((rd_T41 l0 x15_1).f1) t240 _ ?side1 ?side2 A10.out (HG.out.below (by repeat (first | (with_reducible first | exact HB.out | apply below_alloc | apply pw_below_drewN | apply below_drew1 | refine below_set ?_ GE239.out) | exact HB.out)))).mono ?_);(case side1 => exact Kd.C_below HR238_1.out (by repeat (first | (with_reducible first | exact HB.out | apply below_alloc | apply pw_below_drewN | apply below_drew1 | refine below_set ?_ (IsS57.ge HI237.out) | refine below_set ?_ GE239.out) | exact HB.out)));(case side2 => exact HC238_1.out);rintro e w16 ⟨rfl,hb⟩;refine ⟨_,rfl,?_⟩;have n0_:=Aside0.mk (IsS57.below (show IsS57 w ((w13.setCell ⟨gb239,0,none⟩ (.string ((rd_T41 l0 x15_1).f0))).setCell ⟨gb239,1,none⟩ (.slice A238_1 ((rd_T41 l0 x15_1).f1).length c238_1)) g237 x238000_1 from by repeat (first | (with_reducible first | exact HI237.out | apply IsS57.alloc | apply IsS57.drewN | apply IsS57.drew | apply IsS57.set_0 | refine IsS57.farT (t:=41) (a:=gb239) ?_ (by (with_reducible repeat (first | exact IsS57.Ty.mk BK239.out | apply IsS57.Ty.set | apply IsS57.Ty.alloc | apply IsS57.Ty.drewN | apply IsS57.Ty.drew))) (by decide) (by decide) _) | exact HI237.out)) hb);have n1_:=Aside0.mk (blk_below (g:=gb239) (o:=.cells #[.string ((rd_T41 l0 x15_1).f0),.slice A238_1 ((rd_T41 l0 x15_1).f1).length c238_1] 41 (0,0)) (by (with_reducible repeat (first | refine blk_drewN ?_ _ | refine blk_drew ?_ | refine blk_alloc ?_ _));refine blk_put (cs:=#[.string ((rd_T41 l0 x15_1).f0),.slice none 0 0]) ?_ 1 _ rfl;(with_reducible repeat (first | refine blk_drewN ?_ _ | refine blk_drew ?_ | refine blk_alloc ?_ _));refine blk_put (cs:=#[.string (⟨#[]⟩ : ByteArray),.slice none 0 0]) ?_ 0 _ rfl;(with_reducible repeat (first | refine blk_drewN ?_ _ | refine blk_drew ?_ | refine blk_alloc ?_ _));exact BK239.out) hb);have n2_:=Aside0.mk (below_step (by repeat (first | (with_reducible first | exact HB.out | apply below_alloc | apply pw_below_drewN | apply below_drew1 | refine below_set ?_ (IsS57.ge HI237.out) | refine below_set ?_ GE239.out) | exact HB.out)) hb);clear HI237;clear BK239;clear HB;have HI237:=n0_;have BK239:=n1_;have HB:=n2_;clear n0_ n1_ n2_;(try clear hb);(try clear hb2);(try clear hk);(try clear hi)) | ((with_reducible refine gate_callee (f:=23) rfl ?_);refine goesL_ (some 22) rfl rfl Tryd.func23 (by kernel_rfl) rfl #[.pointer (some ⟨g237,0,none⟩),.string (t240 ++ (⟨#[10]⟩ : ByteArray))] rfl (by (try simp only [List.map_toArray,List.map_cons,List.map_nil]);first | done | rfl | (simp only [List.length_drop,List.length_take];rfl)) ?_;(with_reducible refine (strings_Builder_WriteString.calls g237 x238000_1 (t240 ++ (⟨#[10]⟩ : ByteArray)) t241 t242 t243 w _ ?side1 ?side2 A12.out).mono ?_);(case side1 => repeat (first | (with_reducible first | exact HI237.out | apply IsS57.alloc | apply IsS57.drewN | apply IsS57.drew | apply IsS57.set_0 | refine IsS57.farT (t:=41) (a:=gb239) ?_ (by (with_reducible repeat (first | exact IsS57.Ty.mk BK239.out | apply IsS57.Ty.set | apply IsS57.Ty.alloc | apply IsS57.Ty.drewN | apply IsS57.Ty.drew))) (by decide) (by decide) _) | exact HI237.out));(case side2 => repeat (first | (with_reducible first | exact HB.out | apply below_alloc | apply pw_below_drewN | apply below_drew1 | refine below_set ?_ (IsS57.ge HI237.out) | refine below_set ?_ GE239.out) | exact HB.out));rintro e w17 ⟨rfl,hi,hb,hk⟩;refine ⟨_,rfl,?_⟩;have n0_:=Aside0.mk (IsS57.keep hk (g':=gb239) (o:=.cells #[.string ((rd_T41 l0 x15_1).f0),.slice A238_1 ((rd_T41 l0 x15_1).f1).length c238_1] 41 (0,0)) (by (with_reducible repeat (first | refine blk_drewN ?_ _ | refine blk_drew ?_ | refine blk_alloc ?_ _));exact BK239.out) NB239_237.out (fun c_ fz_ e_ => by injection e_ with h1_ h2_;exact absurd h2_ (by decide)));have n1_:=Aside0.mk (hb);have n2_:=Aside0.mk (hi);clear BK239;clear HB;clear HI237;have BK239:=n0_;have HB:=n1_;have HI237:=n2_;clear n0_ n1_ n2_;(try clear hb);(try clear hb2);(try clear hk);(try clear hi);(try simp only [errW_none,errW_some])))
        go_roundg k1
        case measure => have:=HK1.out;omega
        case rel => exact ⟨(wrap64 (x15_1 + 1)),(t243),(by first | rfl | (simp;done) | (simp [*];done)),H',⟨by have:=HK1.out;omega⟩,⟨by repeat (first | (with_reducible first | exact HI237.out | apply IsS57.alloc | apply IsS57.drewN | apply IsS57.drew | apply IsS57.set_0 | refine IsS57.farT (t:=41) (a:=gb239) ?_ (by (with_reducible repeat (first | exact IsS57.Ty.mk BK239.out | apply IsS57.Ty.set | apply IsS57.Ty.alloc | apply IsS57.Ty.drewN | apply IsS57.Ty.drew))) (by decide) (by decide) _) | exact HI237.out)⟩,⟨by repeat (first | (with_reducible first | exact HB.out | apply below_alloc | apply pw_below_drewN | apply below_drew1 | refine below_set ?_ (IsS57.ge HI237.out) | refine below_set ?_ GE239.out) | exact HB.out)⟩⟩
       ·rw [if_neg c11] at H
        exact absurd H (by simp)
      ·rw [if_neg c9] at H
       exact absurd H (by simp)
     ·rw [if_neg c8] at H
      exact absurd H (by simp)
    ·rw [if_neg c7] at H
     have c7b0 : decide (x15_1 < (l0.length : Int)) = false:=decide_eq_false c7
     clear c7
     replace H:=Option.bind_eq_some_iff.mp H
     obtain ⟨⟨t244,t245⟩,A180,H⟩:=H
     replace H : (some (t244,0)) = some (r1,r2):=H
     have A18:=Aside0.mk A180
     clear A180
     simp only [Option.some.injEq,Prod.mk.injEq] at H
     obtain ⟨rfl,rfl⟩:=H
     go_wp2_with (first | ((with_reducible refine gate_callee (f:=25) rfl ?_);refine goesL_ (some 24) rfl rfl Tryd.func25 (by kernel_rfl) rfl #[.pointer (some ⟨g237,0,none⟩)] rfl (by (try simp only [List.map_toArray,List.map_cons,List.map_nil]);first | done | rfl | (simp only [List.length_drop,List.length_take];rfl)) ?_;(with_reducible refine (strings_Builder_String.calls g237 x238000_1 t244 t245 w _ ?side1 ?side2 A18.out).mono ?_);(case side1 => repeat (first | (with_reducible first | exact HI237.out | apply IsS57.alloc | apply IsS57.drewN | apply IsS57.drew | apply IsS57.set_0) | exact HI237.out));(case side2 => repeat (first | (with_reducible first | exact HB.out | apply below_alloc | apply pw_below_drewN | apply below_drew1 | refine below_set ?_ (IsS57.ge HI237.out)) | exact HB.out));rintro e w19 ⟨rfl,hi,hb,hk⟩;refine ⟨_,rfl,?_⟩;have n0_:=Aside0.mk (hb);have n1_:=Aside0.mk (hi);clear HB;clear HI237;have HB:=n0_;have HI237:=n1_;clear n0_ n1_;(try clear hb);(try clear hb2);(try clear hk);(try clear hi)))
     go_ret2
     exact ⟨by first | rfl | (simp [errW_none,errW_some] <;> rfl) | (simp [*,errW_none,errW_some] <;> rfl),by repeat (first | (with_reducible first | exact HB.out | apply below_alloc | apply pw_below_drewN | apply below_drew1 | refine below_set ?_ (IsS57.ge HI237.out)) | exact HB.out)⟩
 ·rw [if_neg c3] at H
  have c3b0 : (t235 == 0) = false:=beq_eq_false_iff_ne.mpr c3
  have c3b1 : (t235 != 0) = true:=bne_iff_ne.mpr c3
  simp only [Option.some.injEq,Prod.mk.injEq] at H
  obtain ⟨rfl,rfl⟩:=H
  go_enter Tryd.func10,Tryd.ntmps10
  go_wp2_with (first | ((with_reducible refine gate_callee (f:=22) rfl ?_);refine goesL_ (some 9) rfl rfl Tryd.func22 (by kernel_rfl) rfl #[.slice A0 l0.length c0] rfl (by (try simp only [List.map_toArray,List.map_cons,List.map_nil]);first | done | rfl | (simp only [List.length_drop,List.length_take];rfl)) ?_;(with_reducible refine (sig_Check.calls k _ _ l0 t235 _ ?side1 ?side2 A2.out).mono ?_);(case side1 => repeat (first | exact HR0.out | (with_reducible refine Kd.C_alloc ?_ _) | (with_reducible refine Kd.C_drewN ?_ _) | (with_reducible refine Kd.C_drew ?_)));(case side2 => exact HC0.out);rintro e w20 ⟨rfl,hb⟩;refine ⟨_,rfl,?_⟩;have n0_:=Aside0.mk (below_step (by repeat (first | (with_reducible first | exact HB.out | apply below_alloc | apply pw_below_drewN | apply below_drew1) | exact HB.out)) hb);clear HB;have HB:=n0_;clear n0_;(try clear hb);(try clear hb2);(try clear hk);(try clear hi)))
  go_ret2
  exact ⟨by first | rfl | (simp [errW_none,errW_some] <;> rfl) | (simp [*,errW_none,errW_some] <;> rfl),by repeat (first | (with_reducible first | exact HB.out | apply below_alloc | apply pw_below_drewN | apply below_drew1) | exact HB.out)⟩

/-! ### tachographlaw10_SigtextParses: function 4 -/
def tachographlaw10_SigtextParses.j0 : Nat → ByteArray → List (S41) → Int → Bool → Option (Bool)
 | 0, _, _, _, _ => none
 | k + 1, x0, x3, x4, x50 => if x50 = true then (some false) else ((sigtext_Print.f k x3).bind fun bt262 => ((tachographlaw10_fixed.f k).bind fun t264 => (if t264 = true then (if x4 = 0 then (if bt262.2 = 0 then (some (bt262.1.toList == x0.toList)) else (some false)) else (some true)) else (some false))))
def tachographlaw10_SigtextParses.f (k : Nat) (a0 : ByteArray) : Option (Bool) := if (a0.size : Int) > 3000 then ((tachographlaw10_fixed.f k).bind fun t246 => (some t246)) else ((sigtext_Parse.f k a0).bind fun bt247 => ((tachographref10_Parse.f k a0).bind fun bt254 => ((tachographref09_Same.f k bt247.1 bt254.1).bind fun t261 => (if t261 = true then (if bt247.2.1 = bt254.2.1 then (if (!(bt247.2.2.1 == bt254.2.2.1) || (!(bt247.2.2.2 == bt254.2.2.2))) = true then (tachographlaw10_SigtextParses.j0 k a0 bt247.1 bt247.2.1 true) else (if bt247.2.1 = 0 then (tachographlaw10_SigtextParses.j0 k a0 bt247.1 bt247.2.1 false) else (tachographlaw10_SigtextParses.j0 k a0 bt247.1 bt247.2.1 ((bt247.1.length : Int) != 0)))) else (tachographlaw10_SigtextParses.j0 k a0 bt247.1 bt247.2.1 true)) else (if bt247.2.1 = 0 then (tachographlaw10_SigtextParses.j0 k a0 bt247.1 bt247.2.1 true) else (if bt247.2.1 = bt254.2.1 then (if (!(bt247.2.2.1 == bt254.2.2.1) || (!(bt247.2.2.2 == bt254.2.2.2))) = true then (tachographlaw10_SigtextParses.j0 k a0 bt247.1 bt247.2.1 true) else (tachographlaw10_SigtextParses.j0 k a0 bt247.1 bt247.2.1 ((bt247.1.length : Int) != 0))) else (tachographlaw10_SigtextParses.j0 k a0 bt247.1 bt247.2.1 true)))))))
theorem tachographlaw10_SigtextParses.mono_l : ∀ k, (∀ y0 y1 y2 y3, LeO (tachographlaw10_SigtextParses.j0 k y0 y1 y2 y3) (tachographlaw10_SigtextParses.j0 (k + 1) y0 y1 y2 y3))
 | 0 => fun _ _ _ _ r h => by simp [tachographlaw10_SigtextParses.j0] at h
 | k + 1 => by
  have ih0 := tachographlaw10_SigtextParses.mono_l k
  ·intro y0 y1 y2 y3
   unfold tachographlaw10_SigtextParses.j0
   repeat' first
   | (with_reducible exact ih0 _ _ _ _)
   | (with_reducible exact sigtext_Parse.mono _ _)
   | (with_reducible exact sigtext_Print.mono _ _)
   | (with_reducible exact tachographlaw10_fixed.mono _)
   | (with_reducible exact tachographref09_Same.mono _ _ _)
   | (with_reducible exact tachographref10_Parse.mono _ _)
   | (with_reducible exact LeO.refl _)
   | (with_reducible exact LeO.none _)
   | (with_reducible refine LeO.ite ?_ ?_)
   | (with_reducible refine LeO.bind ?_ (fun _ => ?_))
   | exact ih0 _ _ _ _
   | exact sigtext_Parse.mono _ _
   | exact sigtext_Print.mono _ _
   | exact tachographlaw10_fixed.mono _
   | exact tachographref09_Same.mono _ _ _
   | exact tachographref10_Parse.mono _ _
   | exact LeO.none _
   | refine LeO.ite ?_ ?_
   | refine LeO.bind ?_ (fun _ => ?_)
theorem tachographlaw10_SigtextParses.mono : ∀ a0 k, LeO (tachographlaw10_SigtextParses.f k a0) (tachographlaw10_SigtextParses.f (k + 1) a0) := by
 intro a0 k
 have ih0 := tachographlaw10_SigtextParses.mono_l k
 unfold tachographlaw10_SigtextParses.f
 repeat' first
   | (with_reducible exact ih0 _ _ _ _)
   | (with_reducible exact sigtext_Parse.mono _ _)
   | (with_reducible exact sigtext_Print.mono _ _)
   | (with_reducible exact tachographlaw10_fixed.mono _)
   | (with_reducible exact tachographref09_Same.mono _ _ _)
   | (with_reducible exact tachographref10_Parse.mono _ _)
   | (with_reducible exact LeO.refl _)
   | (with_reducible exact LeO.none _)
   | (with_reducible refine LeO.ite ?_ ?_)
   | (with_reducible refine LeO.bind ?_ (fun _ => ?_))
   | exact ih0 _ _ _ _
   | exact sigtext_Parse.mono _ _
   | exact sigtext_Print.mono _ _
   | exact tachographlaw10_fixed.mono _
   | exact tachographref09_Same.mono _ _ _
   | exact tachographref10_Parse.mono _ _
   | exact LeO.none _
   | refine LeO.ite ?_ ?_
   | refine LeO.bind ?_ (fun _ => ?_)
set_option maxHeartbeats 8000000 in
set_option maxRecDepth 100000 in
theorem tachographlaw10_SigtextParses.calls (k : Nat) (a0 : ByteArray) (r : Bool) (w : World) (h : tachographlaw10_SigtextParses.f k a0 = some r) (hg : Go.Proofs.YtmmfakdncjeoeacDoorAid.Glob w) :
  Calls Tryd.prog 4 #[.string a0] w fun e w' => e = .returned (.bool r) ∧ Below w.heap.size w w':=by
 have hu26:=Tryd.underlying26
 have hu31:=Tryd.underlying31
 have HB:=Aside0.mk (Below.refl w.heap.size w)
 have HG:=Aside0.mk hg
 clear hg
 have H : (if (a0.size : Int) > 3000 then ((tachographlaw10_fixed.f k).bind fun t246 => (some t246)) else ((sigtext_Parse.f k a0).bind fun bt247 => ((tachographref10_Parse.f k a0).bind fun bt254 => ((tachographref09_Same.f k bt247.1 bt254.1).bind fun t261 => (if t261 = true then (if bt247.2.1 = bt254.2.1 then (if (!(bt247.2.2.1 == bt254.2.2.1) || (!(bt247.2.2.2 == bt254.2.2.2))) = true then (tachographlaw10_SigtextParses.j0 k a0 bt247.1 bt247.2.1 true) else (if bt247.2.1 = 0 then (tachographlaw10_SigtextParses.j0 k a0 bt247.1 bt247.2.1 false) else (tachographlaw10_SigtextParses.j0 k a0 bt247.1 bt247.2.1 ((bt247.1.length : Int) != 0)))) else (tachographlaw10_SigtextParses.j0 k a0 bt247.1 bt247.2.1 true)) else (if bt247.2.1 = 0 then (tachographlaw10_SigtextParses.j0 k a0 bt247.1 bt247.2.1 true) else (if bt247.2.1 = bt254.2.1 then (if (!(bt247.2.2.1 == bt254.2.2.1) || (!(bt247.2.2.2 == bt254.2.2.2))) = true then (tachographlaw10_SigtextParses.j0 k a0 bt247.1 bt247.2.1 true) else (tachographlaw10_SigtextParses.j0 k a0 bt247.1 bt247.2.1 ((bt247.1.length : Int) != 0))) else (tachographlaw10_SigtextParses.j0 k a0 bt247.1 bt247.2.1 true)))))))) = some r:=h
 clear h
 by_cases c2 : (a0.size : Int) > 3000
 ·rw [if_pos c2] at H
  have c2b0 : decide (3000 < (a0.size : Int)) = true:=decide_eq_true c2
  have c2b1 : decide (3000 < a0.size) = true:=decide_eq_true (by omega)
  clear c2
  replace H:=Option.bind_eq_some_iff.mp H
  obtain ⟨t246,A30,H⟩:=H
  replace H : (some t246) = some r:=H
  have A3:=Aside0.mk A30
  clear A30
  obtain rfl:=Option.some.inj H
  go_enter Tryd.func4,Tryd.ntmps4
  go_wp2_with (first | ((with_reducible refine gate_callee (f:=6) rfl ?_);refine goesL_ (some 12) rfl rfl Tryd.func6 (by kernel_rfl) rfl #[] rfl (by (try simp only [List.map_toArray,List.map_cons,List.map_nil]);first | done | rfl | (simp only [List.length_drop,List.length_take];rfl)) ?_;(with_reducible refine (tachographlaw10_fixed.calls k  t246 _ A3.out (HG.out.below (by repeat (first | (with_reducible first | exact HB.out | apply below_alloc | apply pw_below_drewN | apply below_drew1 | refine below_set ?_ GE253.out | refine below_set ?_ GE260.out) | exact HB.out)))).mono ?_);rintro e w4 ⟨rfl,hb⟩;refine ⟨_,rfl,?_⟩;have n0_:=Aside0.mk (below_step (by repeat (first | (with_reducible first | exact HB.out | apply below_alloc | apply pw_below_drewN | apply below_drew1) | exact HB.out)) hb);clear HB;have HB:=n0_;clear n0_;(try clear hb);(try clear hb2);(try clear hk);(try clear hi)))
  go_ret
  exact ⟨by first | rfl | (simp [errW_none,errW_some] <;> rfl) | (simp [*,errW_none,errW_some] <;> rfl),by repeat (first | (with_reducible first | exact HB.out | apply below_alloc | apply pw_below_drewN | apply below_drew1) | exact HB.out)⟩
 ·rw [if_neg c2] at H
  have c2b0 : decide (3000 < (a0.size : Int)) = false:=decide_eq_false c2
  have c2b1 : decide (3000 < a0.size) = false:=decide_eq_false (by omega)
  clear c2
  replace H:=Option.bind_eq_some_iff.mp H
  obtain ⟨⟨t247,t250,t251,t252⟩,A50,H⟩:=H
  replace H : ((tachographref10_Parse.f k a0).bind fun bt254 => ((tachographref09_Same.f k t247 bt254.1).bind fun t261 => (if t261 = true then (if t250 = bt254.2.1 then (if (!(t251 == bt254.2.2.1) || (!(t252 == bt254.2.2.2))) = true then (tachographlaw10_SigtextParses.j0 k a0 t247 t250 true) else (if t250 = 0 then (tachographlaw10_SigtextParses.j0 k a0 t247 t250 false) else (tachographlaw10_SigtextParses.j0 k a0 t247 t250 ((t247.length : Int) != 0)))) else (tachographlaw10_SigtextParses.j0 k a0 t247 t250 true)) else (if t250 = 0 then (tachographlaw10_SigtextParses.j0 k a0 t247 t250 true) else (if t250 = bt254.2.1 then (if (!(t251 == bt254.2.2.1) || (!(t252 == bt254.2.2.2))) = true then (tachographlaw10_SigtextParses.j0 k a0 t247 t250 true) else (tachographlaw10_SigtextParses.j0 k a0 t247 t250 ((t247.length : Int) != 0))) else (tachographlaw10_SigtextParses.j0 k a0 t247 t250 true)))))) = some r:=H
  have A5:=Aside0.mk A50
  clear A50
  replace H:=Option.bind_eq_some_iff.mp H
  obtain ⟨⟨t254,t257,t258,t259⟩,A60,H⟩:=H
  replace H : ((tachographref09_Same.f k t247 t254).bind fun t261 => (if t261 = true then (if t250 = t257 then (if (!(t251 == t258) || (!(t252 == t259))) = true then (tachographlaw10_SigtextParses.j0 k a0 t247 t250 true) else (if t250 = 0 then (tachographlaw10_SigtextParses.j0 k a0 t247 t250 false) else (tachographlaw10_SigtextParses.j0 k a0 t247 t250 ((t247.length : Int) != 0)))) else (tachographlaw10_SigtextParses.j0 k a0 t247 t250 true)) else (if t250 = 0 then (tachographlaw10_SigtextParses.j0 k a0 t247 t250 true) else (if t250 = t257 then (if (!(t251 == t258) || (!(t252 == t259))) = true then (tachographlaw10_SigtextParses.j0 k a0 t247 t250 true) else (tachographlaw10_SigtextParses.j0 k a0 t247 t250 ((t247.length : Int) != 0))) else (tachographlaw10_SigtextParses.j0 k a0 t247 t250 true))))) = some r:=H
  have A6:=Aside0.mk A60
  clear A60
  have HC7:=Aside0.mk H
  clear H
  go_enter Tryd.func4,Tryd.ntmps4
  go_upto_region 5 with (first | ((with_reducible refine gate_callee (f:=7) rfl ?_);refine goesL_ (some 15) rfl rfl Tryd.func7 (by kernel_rfl) rfl #[.string a0] rfl (by (try simp only [List.map_toArray,List.map_cons,List.map_nil]);first | done | rfl | (simp only [List.length_drop,List.length_take];rfl)) ?_;(with_reducible refine (sigtext_Parse.calls k a0 t247 t250 t251 t252 _ A5.out (HG.out.below (by repeat (first | (with_reducible first | exact HB.out | apply below_alloc | apply pw_below_drewN | apply below_drew1 | refine below_set ?_ GE253.out | refine below_set ?_ GE260.out) | exact HB.out)))).mono ?_);rintro e w8 ⟨v248,rfl,ho0,hb⟩;refine ⟨_,rfl,?_⟩;have n0_:=Aside0.mk (Kd.S_lower ho0 (below_size (by repeat (first | (with_reducible first | exact HB.out | apply below_alloc | apply pw_below_drewN | apply below_drew1) | exact HB.out))));have n1_:=Aside0.mk (below_step (by repeat (first | (with_reducible first | exact HB.out | apply below_alloc | apply pw_below_drewN | apply below_drew1) | exact HB.out)) hb);clear HB;have HO249:=n0_;have HB:=n1_;clear n0_ n1_;(try clear hb);(try clear hb2);(try clear hk);(try clear hi);(try clear ho0)) | ((with_reducible refine gate_dst (N:=5) rfl ?_);(try (refine gate_guard (by rfl) ?_;dsimp only));refine box_event ?hg (N:=5) ?hd (cs:=#[.int .i64 0,.int .i64 0]) (t:=26) ?hr ?_;(case hd => rfl);(case hg => rfl);(case hr => first | (go_simp;done) | (go_simp;rfl));intro gb253 hg w9 hbox hb;have n0_:=Aside0.mk (Kd.S_below (by (with_reducible repeat (first | apply Kd.S_alloc | apply Kd.S_drewN | apply Kd.S_drew));exact HO249.out) hb);have n1_:=Aside0.mk (below_step (by repeat (first | (with_reducible first | exact HB.out | apply below_alloc | apply pw_below_drewN | apply below_drew1) | exact HB.out)) hb);have n2_:=Aside0.mk (hbox);have n3_:=Aside0.mk ((by rw [hg];exact (below_size (by repeat (first | (with_reducible first | exact HB.out | apply below_alloc | apply pw_below_drewN | apply below_drew1) | exact HB.out))) : w.heap.size ≤ gb253));have n4_:=Aside0.mk ((by rw [hg];exact (below_size (by repeat (first | (with_reducible first | exact HB.out | apply below_alloc | apply pw_below_drewN | apply below_drew1) | exact HB.out))) : w.heap.size ≤ gb253));clear HO249;clear HB;have HO249:=n0_;have HB:=n1_;have BK253:=n2_;have GW253:=n3_;have GE253:=n4_;clear n0_ n1_ n2_ n3_ n4_;clear hb hbox hg;have hcz10_0 : w9.cell? ⟨gb253,0,none⟩ = some (.int .i64 0):=(blk_cell BK253.out 0).trans rfl;have hcz10_1 : w9.cell? ⟨gb253,1,none⟩ = some (.int .i64 0):=(blk_cell BK253.out 1).trans rfl;have hfz10_0:=blk_frozen BK253.out 0;have hfz10_1:=blk_frozen BK253.out 1) | ((with_reducible refine gate_callee (f:=8) rfl ?_);refine goesL_ (some 20) rfl rfl Tryd.func8 (by kernel_rfl) rfl #[.string a0] rfl (by (try simp only [List.map_toArray,List.map_cons,List.map_nil]);first | done | rfl | (simp only [List.length_drop,List.length_take];rfl)) ?_;(with_reducible refine (tachographref10_Parse.calls k a0 t254 t257 t258 t259 _ A6.out).mono ?_);rintro e w11 ⟨v255,rfl,ho0,hb⟩;refine ⟨_,rfl,?_⟩;have n0_:=Aside0.mk (Kd.S_elder' (by (with_reducible repeat (first | apply Kd.S_alloc | apply Kd.S_drewN | apply Kd.S_drew));exact (Kd.S_mono (Kd.S_far (p:=⟨gb253,1,none⟩) (Kd.S_far (p:=⟨gb253,0,none⟩) (Kd.S_types HO249.out BK253.out (by decide)) (fun _ hk => hk.2) (.int .i64 t251)) (fun _ hk => hk.2) (.int .i64 t252)) (fun _ h_ => h_.1))) (Kd.S_base ho0) hb);have n1_:=Aside0.mk (Kd.S_lower (Kd.S_new' ho0 (Kd.S_lt (by (with_reducible repeat (first | apply Kd.S_alloc | apply Kd.S_drewN | apply Kd.S_drew));exact (Kd.S_mono (Kd.S_far (p:=⟨gb253,1,none⟩) (Kd.S_far (p:=⟨gb253,0,none⟩) (Kd.S_types HO249.out BK253.out (by decide)) (fun _ hk => hk.2) (.int .i64 t251)) (fun _ hk => hk.2) (.int .i64 t252)) (fun _ h_ => h_.1))))) (below_size (by repeat (first | (with_reducible first | exact HB.out | apply below_alloc | apply pw_below_drewN | apply below_drew1 | refine below_set ?_ GE253.out) | exact HB.out))));have n2_:=Aside0.mk (blk_below (g:=gb253) (o:=.cells #[.int .i64 t251,.int .i64 t252] 26 (0,0)) (by (with_reducible repeat (first | refine blk_drewN ?_ _ | refine blk_drew ?_ | refine blk_alloc ?_ _));refine blk_put (cs:=#[.int .i64 t251,.int .i64 0]) ?_ 1 _ rfl;(with_reducible repeat (first | refine blk_drewN ?_ _ | refine blk_drew ?_ | refine blk_alloc ?_ _));refine blk_put (cs:=#[.int .i64 0,.int .i64 0]) ?_ 0 _ rfl;(with_reducible repeat (first | refine blk_drewN ?_ _ | refine blk_drew ?_ | refine blk_alloc ?_ _));exact BK253.out) hb);have n3_:=Aside0.mk (below_step (by repeat (first | (with_reducible first | exact HB.out | apply below_alloc | apply pw_below_drewN | apply below_drew1 | refine below_set ?_ GE253.out) | exact HB.out)) hb);clear HO249;clear BK253;clear HB;have HO249:=n0_;have HO256:=n1_;have BK253:=n2_;have HB:=n3_;clear n0_ n1_ n2_ n3_;(try clear hb);(try clear hb2);(try clear hk);(try clear hi);(try clear ho0)) | ((with_reducible refine gate_dst (N:=6) rfl ?_);(try (refine gate_guard (by rfl) ?_;dsimp only));refine box_event ?hg (N:=6) ?hd (cs:=#[.slice none 0 0,.int .i64 0,.int .i64 0,.int .i64 0]) (t:=31) ?hr ?_;(case hd => rfl);(case hg => rfl);(case hr => first | (go_simp;done) | (go_simp;rfl));intro gb260 hg w12 hbox hb;have n0_:=Aside0.mk (Kd.S_below (by (with_reducible repeat (first | apply Kd.S_alloc | apply Kd.S_drewN | apply Kd.S_drew));exact HO249.out) hb);have n1_:=Aside0.mk (Kd.S_below (by (with_reducible repeat (first | apply Kd.S_alloc | apply Kd.S_drewN | apply Kd.S_drew));exact HO256.out) hb);have n2_:=Aside0.mk (blk_below (g:=gb253) (o:=.cells #[.int .i64 t251,.int .i64 t252] 26 (0,0)) (by (with_reducible repeat (first | refine blk_drewN ?_ _ | refine blk_drew ?_ | refine blk_alloc ?_ _));exact BK253.out) hb);have n3_:=Aside0.mk (below_step (by repeat (first | (with_reducible first | exact HB.out | apply below_alloc | apply pw_below_drewN | apply below_drew1 | refine below_set ?_ GE253.out) | exact HB.out)) hb);have n4_:=Aside0.mk (hbox);have n5_:=Aside0.mk ((by rw [hg];exact (below_size (by repeat (first | (with_reducible first | exact HB.out | apply below_alloc | apply pw_below_drewN | apply below_drew1 | refine below_set ?_ GE253.out) | exact HB.out))) : w.heap.size ≤ gb260));have n6_:=Aside0.mk ((by rw [hg];exact (below_size (by repeat (first | (with_reducible first | exact HB.out | apply below_alloc | apply pw_below_drewN | apply below_drew1 | refine below_set ?_ GE253.out) | exact HB.out))) : w.heap.size ≤ gb260));have n7_:=Aside0.mk ((by rw [hg];exact Nat.ne_of_lt (blk_lt (g:=gb253) (o:=.cells #[.int .i64 t251,.int .i64 t252] 26 (0,0)) (by (with_reducible repeat (first | refine blk_drewN ?_ _ | refine blk_drew ?_ | refine blk_alloc ?_ _));exact BK253.out)) : gb253 ≠ gb260));have n8_:=Aside0.mk ((by rw [hg];exact Nat.ne_of_gt (blk_lt (g:=gb253) (o:=.cells #[.int .i64 t251,.int .i64 t252] 26 (0,0)) (by (with_reducible repeat (first | refine blk_drewN ?_ _ | refine blk_drew ?_ | refine blk_alloc ?_ _));exact BK253.out)) : gb260 ≠ gb253));clear HO249;clear HO256;clear BK253;clear HB;have HO249:=n0_;have HO256:=n1_;have BK253:=n2_;have HB:=n3_;have BK260:=n4_;have GW260:=n5_;have GE260:=n6_;have NB253_260:=n7_;have NB260_253:=n8_;clear n0_ n1_ n2_ n3_ n4_ n5_ n6_ n7_ n8_;clear hb hbox hg;obtain ⟨Ao13,co13,eo13⟩:=Kd.S_slice HO256.out;subst eo13;have hnb14:=NB260_253.out;have hnc14:=NB253_260.out;have hcz15_0 : w12.cell? ⟨gb260,0,none⟩ = some (.slice none 0 0):=(blk_cell BK260.out 0).trans rfl;have hcz15_1 : w12.cell? ⟨gb260,1,none⟩ = some (.int .i64 0):=(blk_cell BK260.out 1).trans rfl;have hcz15_2 : w12.cell? ⟨gb260,2,none⟩ = some (.int .i64 0):=(blk_cell BK260.out 2).trans rfl;have hcz15_3 : w12.cell? ⟨gb260,3,none⟩ = some (.int .i64 0):=(blk_cell BK260.out 3).trans rfl;have hfz15_0:=blk_frozen BK260.out 0;have hfz15_1:=blk_frozen BK260.out 1;have hfz15_2:=blk_frozen BK260.out 2;have hfz15_3:=blk_frozen BK260.out 3))
  (try simp only [Act.put,List.setIfInBounds_toArray,List.set_cons_zero,List.set_cons_succ])
  go_cut [50] (fun v50 wc => ∃ (kq : Nat) (x50_6 : Bool),v50 = .bool x50_6 ∧ Aside0 (tachographlaw10_SigtextParses.j0 kq a0 t247 t250 x50_6 = some r) ∧ Aside0 (kq ≤ k) ∧ Aside0 (Kd.S k41 41 wc w.heap.size (fun k_ => some k_ ≠ ((.slice Ao13 t254.length co13) : Value).ownBlock) v248 t247) ∧ Aside0 (Kd.S k41 41 wc w.heap.size (fun k_ => some k_ ≠ (v248 : Value).ownBlock) (.slice Ao13 t254.length co13) t254) ∧ Aside0 (wc.heap[gb253]? = some (.cells #[.int .i64 t251,.int .i64 t252] 26 (0,0))) ∧ Aside0 (wc.heap[gb260]? = some (.cells #[(.slice Ao13 t254.length co13),.int .i64 t257,.int .i64 t258,.int .i64 t259] 31 (0,0))) ∧ Aside0 (Below w.heap.size w wc))
  case first =>
   have H:=HC7.out
   clear HC7
   replace H:=Option.bind_eq_some_iff.mp H
   obtain ⟨t261,A160,H⟩:=H
   replace H : (if t261 = true then (if t250 = t257 then (if (!(t251 == t258) || (!(t252 == t259))) = true then (tachographlaw10_SigtextParses.j0 k a0 t247 t250 true) else (if t250 = 0 then (tachographlaw10_SigtextParses.j0 k a0 t247 t250 false) else (tachographlaw10_SigtextParses.j0 k a0 t247 t250 ((t247.length : Int) != 0)))) else (tachographlaw10_SigtextParses.j0 k a0 t247 t250 true)) else (if t250 = 0 then (tachographlaw10_SigtextParses.j0 k a0 t247 t250 true) else (if t250 = t257 then (if (!(t251 == t258) || (!(t252 == t259))) = true then (tachographlaw10_SigtextParses.j0 k a0 t247 t250 true) else (tachographlaw10_SigtextParses.j0 k a0 t247 t250 ((t247.length : Int) != 0))) else (tachographlaw10_SigtextParses.j0 k a0 t247 t250 true)))) = some r:=H
   have A16:=Aside0.mk A160
   clear A160
   by_cases c17 : t261 = true
   ·subst c17
    have H1 : (if t250 = t257 then (if (!(t251 == t258) || (!(t252 == t259))) = true then (tachographlaw10_SigtextParses.j0 k a0 t247 t250 true) else (if t250 = 0 then (tachographlaw10_SigtextParses.j0 k a0 t247 t250 false) else (tachographlaw10_SigtextParses.j0 k a0 t247 t250 ((t247.length : Int) != 0)))) else (tachographlaw10_SigtextParses.j0 k a0 t247 t250 true)) = some r:=by rw [if_pos rfl] at H;exact H
    clear H
    have H:=H1
    clear H1
    by_cases c18 : t250 = t257
    ·rw [if_pos c18] at H
     have c18b0 : (t250 == t257) = true:=beq_iff_eq.mpr c18
     have c18b1 : (t250 != t257) = false:=bne_eq_false_iff_eq.mpr c18
     clear c18
     (first | rw [c18b0] | (simp only [i64_w,i32_w];rw [c18b0]) | skip)
     by_cases c19 : (!(t251 == t258) || (!(t252 == t259))) = true
     ·rw [if_pos c19] at H
      have c19b0 : (!(t251 == t258) || (!(t252 == t259))) = true:=c19
      clear c19
      have H':=Aside0.mk H
      clear H
      have hnb20:=NB260_253.out
      have hnc20:=NB253_260.out
      have hcz21_0 : w12.cell? ⟨gb260,0,none⟩ = some (.slice none 0 0):=(blk_cell BK260.out 0).trans rfl
      have hcz21_1 : w12.cell? ⟨gb260,1,none⟩ = some (.int .i64 0):=(blk_cell BK260.out 1).trans rfl
      have hcz21_2 : w12.cell? ⟨gb260,2,none⟩ = some (.int .i64 0):=(blk_cell BK260.out 2).trans rfl
      have hcz21_3 : w12.cell? ⟨gb260,3,none⟩ = some (.int .i64 0):=(blk_cell BK260.out 3).trans rfl
      have hfz21_0:=blk_frozen BK260.out 0
      have hfz21_1:=blk_frozen BK260.out 1
      have hfz21_2:=blk_frozen BK260.out 2
      have hfz21_3:=blk_frozen BK260.out 3
      obtain ⟨Ao22,co22,eo22⟩:=Kd.S_slice HO249.out
      subst eo22
      go_wp2_with (first | ((with_reducible refine gate_callee (f:=9) rfl ?_);refine goesL_ (some 24) rfl rfl Tryd.func9 (by kernel_rfl) rfl #[.slice Ao22 t247.length co22,.slice Ao13 t254.length co13] rfl (by (try simp only [List.map_toArray,List.map_cons,List.map_nil]);first | done | rfl | (simp only [List.length_drop,List.length_take];rfl)) ?_;(with_reducible refine (tachographref09_Same.calls k _ _ t247 _ _ t254 true _ ?side1 ?side2 ?side3 ?side4 A16.out).mono ?_);(case side1 => refine (Kd.S_reads' (e:=41) (base:=w.heap.size) (ok:=fun k_ => (True ∧ some k_ ≠ (.slice Ao13 t254.length co13 : Value).ownBlock)) (n:=t247.length) (c:=co22) ?_).2.2;exact (by (with_reducible repeat (first | apply Kd.S_alloc | apply Kd.S_drewN | apply Kd.S_drew));exact (Kd.S_mono (Kd.S_far (p:=⟨gb260,3,none⟩) (Kd.S_far (p:=⟨gb260,2,none⟩) (Kd.S_far (p:=⟨gb260,1,none⟩) (Kd.S_far (p:=⟨gb260,0,none⟩) (Kd.S_types HO249.out BK260.out (by decide)) (fun _ hk => hk.2) (.slice Ao13 t254.length co13)) (fun _ hk => hk.2) (.int .i64 t257)) (fun _ hk => hk.2) (.int .i64 t258)) (fun _ hk => hk.2) (.int .i64 t259)) (fun _ h_ => h_.1))));(case side2 => exact (Kd.S_reads' HO249.out).2.1);(case side3 => refine (Kd.S_reads' (e:=41) (base:=w.heap.size) (ok:=fun k_ => (True ∧ some k_ ≠ (.slice Ao22 t247.length co22 : Value).ownBlock)) (n:=t254.length) (c:=co13) ?_).2.2;exact (by (with_reducible repeat (first | apply Kd.S_alloc | apply Kd.S_drewN | apply Kd.S_drew));exact (Kd.S_mono (Kd.S_far (p:=⟨gb260,3,none⟩) (Kd.S_far (p:=⟨gb260,2,none⟩) (Kd.S_far (p:=⟨gb260,1,none⟩) (Kd.S_far (p:=⟨gb260,0,none⟩) (Kd.S_types HO256.out BK260.out (by decide)) (fun _ hk => hk.2) (.slice Ao13 t254.length co13)) (fun _ hk => hk.2) (.int .i64 t257)) (fun _ hk => hk.2) (.int .i64 t258)) (fun _ hk => hk.2) (.int .i64 t259)) (fun _ h_ => h_.1))));(case side4 => exact (Kd.S_reads' HO256.out).2.1);rintro e w' ⟨rfl,⟨nd,rfl⟩⟩;refine ⟨_,rfl,?_⟩;have hcz23_0 : w12.cell? ⟨gb253,0,none⟩ = some (.int .i64 t251):=(blk_cell BK253.out 0).trans rfl;have hcz23_1 : w12.cell? ⟨gb253,1,none⟩ = some (.int .i64 t252):=(blk_cell BK253.out 1).trans rfl;have hfz23_0:=blk_frozen BK253.out 0;have hfz23_1:=blk_frozen BK253.out 1))
      go_meet
      case rel => exact ⟨_,(true),(by first | rfl | (simp;done) | (simp [*];done)),H',⟨by first | omega | exact Nat.le_refl _⟩,⟨by (with_reducible repeat (first | apply Kd.S_alloc | apply Kd.S_drewN | apply Kd.S_drew));exact Kd.S_mono (Kd.S_far (p:=⟨gb260,3,none⟩) (Kd.S_far (p:=⟨gb260,2,none⟩) (Kd.S_far (p:=⟨gb260,1,none⟩) (Kd.S_far (p:=⟨gb260,0,none⟩) (Kd.S_types HO249.out BK260.out (by decide)) (fun _ hk => hk.2) (.slice Ao13 t254.length co13)) (fun _ hk => hk.2) (.int .i64 t257)) (fun _ hk => hk.2) (.int .i64 t258)) (fun _ hk => hk.2) (.int .i64 t259)) (fun _ hk => hk.1.2)⟩,⟨by (with_reducible repeat (first | apply Kd.S_alloc | apply Kd.S_drewN | apply Kd.S_drew));exact Kd.S_mono (Kd.S_far (p:=⟨gb260,3,none⟩) (Kd.S_far (p:=⟨gb260,2,none⟩) (Kd.S_far (p:=⟨gb260,1,none⟩) (Kd.S_far (p:=⟨gb260,0,none⟩) (Kd.S_types HO256.out BK260.out (by decide)) (fun _ hk => hk.2) (.slice Ao13 t254.length co13)) (fun _ hk => hk.2) (.int .i64 t257)) (fun _ hk => hk.2) (.int .i64 t258)) (fun _ hk => hk.2) (.int .i64 t259)) (fun _ hk => hk.1.2)⟩,⟨by (with_reducible repeat (first | refine blk_drewN ?_ _ | refine blk_drew ?_ | refine blk_alloc ?_ _));refine blk_far ?_ NB253_260.out _;(with_reducible repeat (first | refine blk_drewN ?_ _ | refine blk_drew ?_ | refine blk_alloc ?_ _));refine blk_far ?_ NB253_260.out _;(with_reducible repeat (first | refine blk_drewN ?_ _ | refine blk_drew ?_ | refine blk_alloc ?_ _));refine blk_far ?_ NB253_260.out _;(with_reducible repeat (first | refine blk_drewN ?_ _ | refine blk_drew ?_ | refine blk_alloc ?_ _));refine blk_far ?_ NB253_260.out _;(with_reducible repeat (first | refine blk_drewN ?_ _ | refine blk_drew ?_ | refine blk_alloc ?_ _));exact BK253.out⟩,⟨by (with_reducible repeat (first | refine blk_drewN ?_ _ | refine blk_drew ?_ | refine blk_alloc ?_ _));refine blk_put (cs:=#[.slice Ao13 t254.length co13,.int .i64 t257,.int .i64 t258,.int .i64 0]) ?_ 3 _ rfl;(with_reducible repeat (first | refine blk_drewN ?_ _ | refine blk_drew ?_ | refine blk_alloc ?_ _));refine blk_put (cs:=#[.slice Ao13 t254.length co13,.int .i64 t257,.int .i64 0,.int .i64 0]) ?_ 2 _ rfl;(with_reducible repeat (first | refine blk_drewN ?_ _ | refine blk_drew ?_ | refine blk_alloc ?_ _));refine blk_put (cs:=#[.slice Ao13 t254.length co13,.int .i64 0,.int .i64 0,.int .i64 0]) ?_ 1 _ rfl;(with_reducible repeat (first | refine blk_drewN ?_ _ | refine blk_drew ?_ | refine blk_alloc ?_ _));refine blk_put (cs:=#[.slice none 0 0,.int .i64 0,.int .i64 0,.int .i64 0]) ?_ 0 _ rfl;(with_reducible repeat (first | refine blk_drewN ?_ _ | refine blk_drew ?_ | refine blk_alloc ?_ _));exact BK260.out⟩,⟨by repeat (first | (with_reducible first | exact HB.out | apply below_alloc | apply pw_below_drewN | apply below_drew1 | refine below_set ?_ GE253.out | refine below_set ?_ GE260.out) | exact HB.out)⟩⟩
     ·rw [if_neg c19] at H
      have c19b0 : (!(t251 == t258) || (!(t252 == t259))) = false:=by simpa using c19
      clear c19
      by_cases c24 : t250 = 0
      ·rw [if_pos c24] at H
       have c24b0 : (t250 == 0) = true:=beq_iff_eq.mpr c24
       have c24b1 : (t250 != 0) = false:=bne_eq_false_iff_eq.mpr c24
       clear c24
       have H':=Aside0.mk H
       clear H
       have hnb25:=NB260_253.out
       have hnc25:=NB253_260.out
       have hcz26_0 : w12.cell? ⟨gb260,0,none⟩ = some (.slice none 0 0):=(blk_cell BK260.out 0).trans rfl
       have hcz26_1 : w12.cell? ⟨gb260,1,none⟩ = some (.int .i64 0):=(blk_cell BK260.out 1).trans rfl
       have hcz26_2 : w12.cell? ⟨gb260,2,none⟩ = some (.int .i64 0):=(blk_cell BK260.out 2).trans rfl
       have hcz26_3 : w12.cell? ⟨gb260,3,none⟩ = some (.int .i64 0):=(blk_cell BK260.out 3).trans rfl
       have hfz26_0:=blk_frozen BK260.out 0
       have hfz26_1:=blk_frozen BK260.out 1
       have hfz26_2:=blk_frozen BK260.out 2
       have hfz26_3:=blk_frozen BK260.out 3
       obtain ⟨Ao27,co27,eo27⟩:=Kd.S_slice HO249.out
       subst eo27
       go_wp2_with (first | ((with_reducible refine gate_callee (f:=9) rfl ?_);refine goesL_ (some 24) rfl rfl Tryd.func9 (by kernel_rfl) rfl #[.slice Ao27 t247.length co27,.slice Ao13 t254.length co13] rfl (by (try simp only [List.map_toArray,List.map_cons,List.map_nil]);first | done | rfl | (simp only [List.length_drop,List.length_take];rfl)) ?_;(with_reducible refine (tachographref09_Same.calls k _ _ t247 _ _ t254 true _ ?side1 ?side2 ?side3 ?side4 A16.out).mono ?_);(case side1 => refine (Kd.S_reads' (e:=41) (base:=w.heap.size) (ok:=fun k_ => (True ∧ some k_ ≠ (.slice Ao13 t254.length co13 : Value).ownBlock)) (n:=t247.length) (c:=co27) ?_).2.2;exact (by (with_reducible repeat (first | apply Kd.S_alloc | apply Kd.S_drewN | apply Kd.S_drew));exact (Kd.S_mono (Kd.S_far (p:=⟨gb260,3,none⟩) (Kd.S_far (p:=⟨gb260,2,none⟩) (Kd.S_far (p:=⟨gb260,1,none⟩) (Kd.S_far (p:=⟨gb260,0,none⟩) (Kd.S_types HO249.out BK260.out (by decide)) (fun _ hk => hk.2) (.slice Ao13 t254.length co13)) (fun _ hk => hk.2) (.int .i64 t257)) (fun _ hk => hk.2) (.int .i64 t258)) (fun _ hk => hk.2) (.int .i64 t259)) (fun _ h_ => h_.1))));(case side2 => exact (Kd.S_reads' HO249.out).2.1);(case side3 => refine (Kd.S_reads' (e:=41) (base:=w.heap.size) (ok:=fun k_ => (True ∧ some k_ ≠ (.slice Ao27 t247.length co27 : Value).ownBlock)) (n:=t254.length) (c:=co13) ?_).2.2;exact (by (with_reducible repeat (first | apply Kd.S_alloc | apply Kd.S_drewN | apply Kd.S_drew));exact (Kd.S_mono (Kd.S_far (p:=⟨gb260,3,none⟩) (Kd.S_far (p:=⟨gb260,2,none⟩) (Kd.S_far (p:=⟨gb260,1,none⟩) (Kd.S_far (p:=⟨gb260,0,none⟩) (Kd.S_types HO256.out BK260.out (by decide)) (fun _ hk => hk.2) (.slice Ao13 t254.length co13)) (fun _ hk => hk.2) (.int .i64 t257)) (fun _ hk => hk.2) (.int .i64 t258)) (fun _ hk => hk.2) (.int .i64 t259)) (fun _ h_ => h_.1))));(case side4 => exact (Kd.S_reads' HO256.out).2.1);rintro e w' ⟨rfl,⟨nd,rfl⟩⟩;refine ⟨_,rfl,?_⟩;have hcz28_0 : w12.cell? ⟨gb253,0,none⟩ = some (.int .i64 t251):=(blk_cell BK253.out 0).trans rfl;have hcz28_1 : w12.cell? ⟨gb253,1,none⟩ = some (.int .i64 t252):=(blk_cell BK253.out 1).trans rfl;have hfz28_0:=blk_frozen BK253.out 0;have hfz28_1:=blk_frozen BK253.out 1))
       go_meet
       case rel => exact ⟨_,(false),(by first | rfl | (simp;done) | (simp [*];done)),H',⟨by first | omega | exact Nat.le_refl _⟩,⟨by (with_reducible repeat (first | apply Kd.S_alloc | apply Kd.S_drewN | apply Kd.S_drew));exact Kd.S_mono (Kd.S_far (p:=⟨gb260,3,none⟩) (Kd.S_far (p:=⟨gb260,2,none⟩) (Kd.S_far (p:=⟨gb260,1,none⟩) (Kd.S_far (p:=⟨gb260,0,none⟩) (Kd.S_types HO249.out BK260.out (by decide)) (fun _ hk => hk.2) (.slice Ao13 t254.length co13)) (fun _ hk => hk.2) (.int .i64 t257)) (fun _ hk => hk.2) (.int .i64 t258)) (fun _ hk => hk.2) (.int .i64 t259)) (fun _ hk => hk.1.2)⟩,⟨by (with_reducible repeat (first | apply Kd.S_alloc | apply Kd.S_drewN | apply Kd.S_drew));exact Kd.S_mono (Kd.S_far (p:=⟨gb260,3,none⟩) (Kd.S_far (p:=⟨gb260,2,none⟩) (Kd.S_far (p:=⟨gb260,1,none⟩) (Kd.S_far (p:=⟨gb260,0,none⟩) (Kd.S_types HO256.out BK260.out (by decide)) (fun _ hk => hk.2) (.slice Ao13 t254.length co13)) (fun _ hk => hk.2) (.int .i64 t257)) (fun _ hk => hk.2) (.int .i64 t258)) (fun _ hk => hk.2) (.int .i64 t259)) (fun _ hk => hk.1.2)⟩,⟨by (with_reducible repeat (first | refine blk_drewN ?_ _ | refine blk_drew ?_ | refine blk_alloc ?_ _));refine blk_far ?_ NB253_260.out _;(with_reducible repeat (first | refine blk_drewN ?_ _ | refine blk_drew ?_ | refine blk_alloc ?_ _));refine blk_far ?_ NB253_260.out _;(with_reducible repeat (first | refine blk_drewN ?_ _ | refine blk_drew ?_ | refine blk_alloc ?_ _));refine blk_far ?_ NB253_260.out _;(with_reducible repeat (first | refine blk_drewN ?_ _ | refine blk_drew ?_ | refine blk_alloc ?_ _));refine blk_far ?_ NB253_260.out _;(with_reducible repeat (first | refine blk_drewN ?_ _ | refine blk_drew ?_ | refine blk_alloc ?_ _));exact BK253.out⟩,⟨by (with_reducible repeat (first | refine blk_drewN ?_ _ | refine blk_drew ?_ | refine blk_alloc ?_ _));refine blk_put (cs:=#[.slice Ao13 t254.length co13,.int .i64 t257,.int .i64 t258,.int .i64 0]) ?_ 3 _ rfl;(with_reducible repeat (first | refine blk_drewN ?_ _ | refine blk_drew ?_ | refine blk_alloc ?_ _));refine blk_put (cs:=#[.slice Ao13 t254.length co13,.int .i64 t257,.int .i64 0,.int .i64 0]) ?_ 2 _ rfl;(with_reducible repeat (first | refine blk_drewN ?_ _ | refine blk_drew ?_ | refine blk_alloc ?_ _));refine blk_put (cs:=#[.slice Ao13 t254.length co13,.int .i64 0,.int .i64 0,.int .i64 0]) ?_ 1 _ rfl;(with_reducible repeat (first | refine blk_drewN ?_ _ | refine blk_drew ?_ | refine blk_alloc ?_ _));refine blk_put (cs:=#[.slice none 0 0,.int .i64 0,.int .i64 0,.int .i64 0]) ?_ 0 _ rfl;(with_reducible repeat (first | refine blk_drewN ?_ _ | refine blk_drew ?_ | refine blk_alloc ?_ _));exact BK260.out⟩,⟨by repeat (first | (with_reducible first | exact HB.out | apply below_alloc | apply pw_below_drewN | apply below_drew1 | refine below_set ?_ GE253.out | refine below_set ?_ GE260.out) | exact HB.out)⟩⟩
      ·rw [if_neg c24] at H
       have c24b0 : (t250 == 0) = false:=beq_eq_false_iff_ne.mpr c24
       have c24b1 : (t250 != 0) = true:=bne_iff_ne.mpr c24
       have H':=Aside0.mk H
       clear H
       have hnb29:=NB260_253.out
       have hnc29:=NB253_260.out
       have hcz30_0 : w12.cell? ⟨gb260,0,none⟩ = some (.slice none 0 0):=(blk_cell BK260.out 0).trans rfl
       have hcz30_1 : w12.cell? ⟨gb260,1,none⟩ = some (.int .i64 0):=(blk_cell BK260.out 1).trans rfl
       have hcz30_2 : w12.cell? ⟨gb260,2,none⟩ = some (.int .i64 0):=(blk_cell BK260.out 2).trans rfl
       have hcz30_3 : w12.cell? ⟨gb260,3,none⟩ = some (.int .i64 0):=(blk_cell BK260.out 3).trans rfl
       have hfz30_0:=blk_frozen BK260.out 0
       have hfz30_1:=blk_frozen BK260.out 1
       have hfz30_2:=blk_frozen BK260.out 2
       have hfz30_3:=blk_frozen BK260.out 3
       obtain ⟨Ao31,co31,eo31⟩:=Kd.S_slice HO249.out
       subst eo31
       go_wp2_with (first | ((with_reducible refine gate_callee (f:=9) rfl ?_);refine goesL_ (some 24) rfl rfl Tryd.func9 (by kernel_rfl) rfl #[.slice Ao31 t247.length co31,.slice Ao13 t254.length co13] rfl (by (try simp only [List.map_toArray,List.map_cons,List.map_nil]);first | done | rfl | (simp only [List.length_drop,List.length_take];rfl)) ?_;(with_reducible refine (tachographref09_Same.calls k _ _ t247 _ _ t254 true _ ?side1 ?side2 ?side3 ?side4 A16.out).mono ?_);(case side1 => refine (Kd.S_reads' (e:=41) (base:=w.heap.size) (ok:=fun k_ => (True ∧ some k_ ≠ (.slice Ao13 t254.length co13 : Value).ownBlock)) (n:=t247.length) (c:=co31) ?_).2.2;exact (by (with_reducible repeat (first | apply Kd.S_alloc | apply Kd.S_drewN | apply Kd.S_drew));exact (Kd.S_mono (Kd.S_far (p:=⟨gb260,3,none⟩) (Kd.S_far (p:=⟨gb260,2,none⟩) (Kd.S_far (p:=⟨gb260,1,none⟩) (Kd.S_far (p:=⟨gb260,0,none⟩) (Kd.S_types HO249.out BK260.out (by decide)) (fun _ hk => hk.2) (.slice Ao13 t254.length co13)) (fun _ hk => hk.2) (.int .i64 t257)) (fun _ hk => hk.2) (.int .i64 t258)) (fun _ hk => hk.2) (.int .i64 t259)) (fun _ h_ => h_.1))));(case side2 => exact (Kd.S_reads' HO249.out).2.1);(case side3 => refine (Kd.S_reads' (e:=41) (base:=w.heap.size) (ok:=fun k_ => (True ∧ some k_ ≠ (.slice Ao31 t247.length co31 : Value).ownBlock)) (n:=t254.length) (c:=co13) ?_).2.2;exact (by (with_reducible repeat (first | apply Kd.S_alloc | apply Kd.S_drewN | apply Kd.S_drew));exact (Kd.S_mono (Kd.S_far (p:=⟨gb260,3,none⟩) (Kd.S_far (p:=⟨gb260,2,none⟩) (Kd.S_far (p:=⟨gb260,1,none⟩) (Kd.S_far (p:=⟨gb260,0,none⟩) (Kd.S_types HO256.out BK260.out (by decide)) (fun _ hk => hk.2) (.slice Ao13 t254.length co13)) (fun _ hk => hk.2) (.int .i64 t257)) (fun _ hk => hk.2) (.int .i64 t258)) (fun _ hk => hk.2) (.int .i64 t259)) (fun _ h_ => h_.1))));(case side4 => exact (Kd.S_reads' HO256.out).2.1);rintro e w' ⟨rfl,⟨nd,rfl⟩⟩;refine ⟨_,rfl,?_⟩;have hcz32_0 : w12.cell? ⟨gb253,0,none⟩ = some (.int .i64 t251):=(blk_cell BK253.out 0).trans rfl;have hcz32_1 : w12.cell? ⟨gb253,1,none⟩ = some (.int .i64 t252):=(blk_cell BK253.out 1).trans rfl;have hfz32_0:=blk_frozen BK253.out 0;have hfz32_1:=blk_frozen BK253.out 1))
       go_meet
       case rel => exact ⟨_,(((t247.length : Int) != 0)),(by first | rfl | (simp;done) | (simp [*];done)),H',⟨by first | omega | exact Nat.le_refl _⟩,⟨by (with_reducible repeat (first | apply Kd.S_alloc | apply Kd.S_drewN | apply Kd.S_drew));exact Kd.S_mono (Kd.S_far (p:=⟨gb260,3,none⟩) (Kd.S_far (p:=⟨gb260,2,none⟩) (Kd.S_far (p:=⟨gb260,1,none⟩) (Kd.S_far (p:=⟨gb260,0,none⟩) (Kd.S_types HO249.out BK260.out (by decide)) (fun _ hk => hk.2) (.slice Ao13 t254.length co13)) (fun _ hk => hk.2) (.int .i64 t257)) (fun _ hk => hk.2) (.int .i64 t258)) (fun _ hk => hk.2) (.int .i64 t259)) (fun _ hk => hk.1.2)⟩,⟨by (with_reducible repeat (first | apply Kd.S_alloc | apply Kd.S_drewN | apply Kd.S_drew));exact Kd.S_mono (Kd.S_far (p:=⟨gb260,3,none⟩) (Kd.S_far (p:=⟨gb260,2,none⟩) (Kd.S_far (p:=⟨gb260,1,none⟩) (Kd.S_far (p:=⟨gb260,0,none⟩) (Kd.S_types HO256.out BK260.out (by decide)) (fun _ hk => hk.2) (.slice Ao13 t254.length co13)) (fun _ hk => hk.2) (.int .i64 t257)) (fun _ hk => hk.2) (.int .i64 t258)) (fun _ hk => hk.2) (.int .i64 t259)) (fun _ hk => hk.1.2)⟩,⟨by (with_reducible repeat (first | refine blk_drewN ?_ _ | refine blk_drew ?_ | refine blk_alloc ?_ _));refine blk_far ?_ NB253_260.out _;(with_reducible repeat (first | refine blk_drewN ?_ _ | refine blk_drew ?_ | refine blk_alloc ?_ _));refine blk_far ?_ NB253_260.out _;(with_reducible repeat (first | refine blk_drewN ?_ _ | refine blk_drew ?_ | refine blk_alloc ?_ _));refine blk_far ?_ NB253_260.out _;(with_reducible repeat (first | refine blk_drewN ?_ _ | refine blk_drew ?_ | refine blk_alloc ?_ _));refine blk_far ?_ NB253_260.out _;(with_reducible repeat (first | refine blk_drewN ?_ _ | refine blk_drew ?_ | refine blk_alloc ?_ _));exact BK253.out⟩,⟨by (with_reducible repeat (first | refine blk_drewN ?_ _ | refine blk_drew ?_ | refine blk_alloc ?_ _));refine blk_put (cs:=#[.slice Ao13 t254.length co13,.int .i64 t257,.int .i64 t258,.int .i64 0]) ?_ 3 _ rfl;(with_reducible repeat (first | refine blk_drewN ?_ _ | refine blk_drew ?_ | refine blk_alloc ?_ _));refine blk_put (cs:=#[.slice Ao13 t254.length co13,.int .i64 t257,.int .i64 0,.int .i64 0]) ?_ 2 _ rfl;(with_reducible repeat (first | refine blk_drewN ?_ _ | refine blk_drew ?_ | refine blk_alloc ?_ _));refine blk_put (cs:=#[.slice Ao13 t254.length co13,.int .i64 0,.int .i64 0,.int .i64 0]) ?_ 1 _ rfl;(with_reducible repeat (first | refine blk_drewN ?_ _ | refine blk_drew ?_ | refine blk_alloc ?_ _));refine blk_put (cs:=#[.slice none 0 0,.int .i64 0,.int .i64 0,.int .i64 0]) ?_ 0 _ rfl;(with_reducible repeat (first | refine blk_drewN ?_ _ | refine blk_drew ?_ | refine blk_alloc ?_ _));exact BK260.out⟩,⟨by repeat (first | (with_reducible first | exact HB.out | apply below_alloc | apply pw_below_drewN | apply below_drew1 | refine below_set ?_ GE253.out | refine below_set ?_ GE260.out) | exact HB.out)⟩⟩
    ·rw [if_neg c18] at H
     have c18b0 : (t250 == t257) = false:=beq_eq_false_iff_ne.mpr c18
     have c18b1 : (t250 != t257) = true:=bne_iff_ne.mpr c18
     (first | rw [c18b0] | (simp only [i64_w,i32_w];rw [c18b0]) | skip)
     have H':=Aside0.mk H
     clear H
     have hnb33:=NB260_253.out
     have hnc33:=NB253_260.out
     have hcz34_0 : w12.cell? ⟨gb260,0,none⟩ = some (.slice none 0 0):=(blk_cell BK260.out 0).trans rfl
     have hcz34_1 : w12.cell? ⟨gb260,1,none⟩ = some (.int .i64 0):=(blk_cell BK260.out 1).trans rfl
     have hcz34_2 : w12.cell? ⟨gb260,2,none⟩ = some (.int .i64 0):=(blk_cell BK260.out 2).trans rfl
     have hcz34_3 : w12.cell? ⟨gb260,3,none⟩ = some (.int .i64 0):=(blk_cell BK260.out 3).trans rfl
     have hfz34_0:=blk_frozen BK260.out 0
     have hfz34_1:=blk_frozen BK260.out 1
     have hfz34_2:=blk_frozen BK260.out 2
     have hfz34_3:=blk_frozen BK260.out 3
     obtain ⟨Ao35,co35,eo35⟩:=Kd.S_slice HO249.out
     subst eo35
     go_wp2_with (first | ((with_reducible refine gate_callee (f:=9) rfl ?_);refine goesL_ (some 24) rfl rfl Tryd.func9 (by kernel_rfl) rfl #[.slice Ao35 t247.length co35,.slice Ao13 t254.length co13] rfl (by (try simp only [List.map_toArray,List.map_cons,List.map_nil]);first | done | rfl | (simp only [List.length_drop,List.length_take];rfl)) ?_;(with_reducible refine (tachographref09_Same.calls k _ _ t247 _ _ t254 true _ ?side1 ?side2 ?side3 ?side4 A16.out).mono ?_);(case side1 => refine (Kd.S_reads' (e:=41) (base:=w.heap.size) (ok:=fun k_ => (True ∧ some k_ ≠ (.slice Ao13 t254.length co13 : Value).ownBlock)) (n:=t247.length) (c:=co35) ?_).2.2;exact (by (with_reducible repeat (first | apply Kd.S_alloc | apply Kd.S_drewN | apply Kd.S_drew));exact (Kd.S_mono (Kd.S_far (p:=⟨gb260,3,none⟩) (Kd.S_far (p:=⟨gb260,2,none⟩) (Kd.S_far (p:=⟨gb260,1,none⟩) (Kd.S_far (p:=⟨gb260,0,none⟩) (Kd.S_types HO249.out BK260.out (by decide)) (fun _ hk => hk.2) (.slice Ao13 t254.length co13)) (fun _ hk => hk.2) (.int .i64 t257)) (fun _ hk => hk.2) (.int .i64 t258)) (fun _ hk => hk.2) (.int .i64 t259)) (fun _ h_ => h_.1))));(case side2 => exact (Kd.S_reads' HO249.out).2.1);(case side3 => refine (Kd.S_reads' (e:=41) (base:=w.heap.size) (ok:=fun k_ => (True ∧ some k_ ≠ (.slice Ao35 t247.length co35 : Value).ownBlock)) (n:=t254.length) (c:=co13) ?_).2.2;exact (by (with_reducible repeat (first | apply Kd.S_alloc | apply Kd.S_drewN | apply Kd.S_drew));exact (Kd.S_mono (Kd.S_far (p:=⟨gb260,3,none⟩) (Kd.S_far (p:=⟨gb260,2,none⟩) (Kd.S_far (p:=⟨gb260,1,none⟩) (Kd.S_far (p:=⟨gb260,0,none⟩) (Kd.S_types HO256.out BK260.out (by decide)) (fun _ hk => hk.2) (.slice Ao13 t254.length co13)) (fun _ hk => hk.2) (.int .i64 t257)) (fun _ hk => hk.2) (.int .i64 t258)) (fun _ hk => hk.2) (.int .i64 t259)) (fun _ h_ => h_.1))));(case side4 => exact (Kd.S_reads' HO256.out).2.1);rintro e w' ⟨rfl,⟨nd,rfl⟩⟩;refine ⟨_,rfl,?_⟩))
     go_meet
     case rel => exact ⟨_,(true),(by first | rfl | (simp;done) | (simp [*];done)),H',⟨by first | omega | exact Nat.le_refl _⟩,⟨by (with_reducible repeat (first | apply Kd.S_alloc | apply Kd.S_drewN | apply Kd.S_drew));exact Kd.S_mono (Kd.S_far (p:=⟨gb260,3,none⟩) (Kd.S_far (p:=⟨gb260,2,none⟩) (Kd.S_far (p:=⟨gb260,1,none⟩) (Kd.S_far (p:=⟨gb260,0,none⟩) (Kd.S_types HO249.out BK260.out (by decide)) (fun _ hk => hk.2) (.slice Ao13 t254.length co13)) (fun _ hk => hk.2) (.int .i64 t257)) (fun _ hk => hk.2) (.int .i64 t258)) (fun _ hk => hk.2) (.int .i64 t259)) (fun _ hk => hk.1.2)⟩,⟨by (with_reducible repeat (first | apply Kd.S_alloc | apply Kd.S_drewN | apply Kd.S_drew));exact Kd.S_mono (Kd.S_far (p:=⟨gb260,3,none⟩) (Kd.S_far (p:=⟨gb260,2,none⟩) (Kd.S_far (p:=⟨gb260,1,none⟩) (Kd.S_far (p:=⟨gb260,0,none⟩) (Kd.S_types HO256.out BK260.out (by decide)) (fun _ hk => hk.2) (.slice Ao13 t254.length co13)) (fun _ hk => hk.2) (.int .i64 t257)) (fun _ hk => hk.2) (.int .i64 t258)) (fun _ hk => hk.2) (.int .i64 t259)) (fun _ hk => hk.1.2)⟩,⟨by (with_reducible repeat (first | refine blk_drewN ?_ _ | refine blk_drew ?_ | refine blk_alloc ?_ _));refine blk_far ?_ NB253_260.out _;(with_reducible repeat (first | refine blk_drewN ?_ _ | refine blk_drew ?_ | refine blk_alloc ?_ _));refine blk_far ?_ NB253_260.out _;(with_reducible repeat (first | refine blk_drewN ?_ _ | refine blk_drew ?_ | refine blk_alloc ?_ _));refine blk_far ?_ NB253_260.out _;(with_reducible repeat (first | refine blk_drewN ?_ _ | refine blk_drew ?_ | refine blk_alloc ?_ _));refine blk_far ?_ NB253_260.out _;(with_reducible repeat (first | refine blk_drewN ?_ _ | refine blk_drew ?_ | refine blk_alloc ?_ _));exact BK253.out⟩,⟨by (with_reducible repeat (first | refine blk_drewN ?_ _ | refine blk_drew ?_ | refine blk_alloc ?_ _));refine blk_put (cs:=#[.slice Ao13 t254.length co13,.int .i64 t257,.int .i64 t258,.int .i64 0]) ?_ 3 _ rfl;(with_reducible repeat (first | refine blk_drewN ?_ _ | refine blk_drew ?_ | refine blk_alloc ?_ _));refine blk_put (cs:=#[.slice Ao13 t254.length co13,.int .i64 t257,.int .i64 0,.int .i64 0]) ?_ 2 _ rfl;(with_reducible repeat (first | refine blk_drewN ?_ _ | refine blk_drew ?_ | refine blk_alloc ?_ _));refine blk_put (cs:=#[.slice Ao13 t254.length co13,.int .i64 0,.int .i64 0,.int .i64 0]) ?_ 1 _ rfl;(with_reducible repeat (first | refine blk_drewN ?_ _ | refine blk_drew ?_ | refine blk_alloc ?_ _));refine blk_put (cs:=#[.slice none 0 0,.int .i64 0,.int .i64 0,.int .i64 0]) ?_ 0 _ rfl;(with_reducible repeat (first | refine blk_drewN ?_ _ | refine blk_drew ?_ | refine blk_alloc ?_ _));exact BK260.out⟩,⟨by repeat (first | (with_reducible first | exact HB.out | apply below_alloc | apply pw_below_drewN | apply below_drew1 | refine below_set ?_ GE253.out | refine below_set ?_ GE260.out) | exact HB.out)⟩⟩
   ·replace c17:=Bool.eq_false_iff.mpr c17
    subst c17
    have H1 : (if t250 = 0 then (tachographlaw10_SigtextParses.j0 k a0 t247 t250 true) else (if t250 = t257 then (if (!(t251 == t258) || (!(t252 == t259))) = true then (tachographlaw10_SigtextParses.j0 k a0 t247 t250 true) else (tachographlaw10_SigtextParses.j0 k a0 t247 t250 ((t247.length : Int) != 0))) else (tachographlaw10_SigtextParses.j0 k a0 t247 t250 true))) = some r:=by rw [if_neg (show ¬ (false = true) by decide)] at H;exact H
    clear H
    have H:=H1
    clear H1
    by_cases c36 : t250 = 0
    ·rw [if_pos c36] at H
     have c36b0 : (t250 == 0) = true:=beq_iff_eq.mpr c36
     have c36b1 : (t250 != 0) = false:=bne_eq_false_iff_eq.mpr c36
     clear c36
     have H':=Aside0.mk H
     clear H
     have hnb37:=NB260_253.out
     have hnc37:=NB253_260.out
     have hcz38_0 : w12.cell? ⟨gb260,0,none⟩ = some (.slice none 0 0):=(blk_cell BK260.out 0).trans rfl
     have hcz38_1 : w12.cell? ⟨gb260,1,none⟩ = some (.int .i64 0):=(blk_cell BK260.out 1).trans rfl
     have hcz38_2 : w12.cell? ⟨gb260,2,none⟩ = some (.int .i64 0):=(blk_cell BK260.out 2).trans rfl
     have hcz38_3 : w12.cell? ⟨gb260,3,none⟩ = some (.int .i64 0):=(blk_cell BK260.out 3).trans rfl
     have hfz38_0:=blk_frozen BK260.out 0
     have hfz38_1:=blk_frozen BK260.out 1
     have hfz38_2:=blk_frozen BK260.out 2
     have hfz38_3:=blk_frozen BK260.out 3
     obtain ⟨Ao39,co39,eo39⟩:=Kd.S_slice HO249.out
     subst eo39
     go_wp2_with (first | ((with_reducible refine gate_callee (f:=9) rfl ?_);refine goesL_ (some 24) rfl rfl Tryd.func9 (by kernel_rfl) rfl #[.slice Ao39 t247.length co39,.slice Ao13 t254.length co13] rfl (by (try simp only [List.map_toArray,List.map_cons,List.map_nil]);first | done | rfl | (simp only [List.length_drop,List.length_take];rfl)) ?_;(with_reducible refine (tachographref09_Same.calls k _ _ t247 _ _ t254 false _ ?side1 ?side2 ?side3 ?side4 A16.out).mono ?_);(case side1 => refine (Kd.S_reads' (e:=41) (base:=w.heap.size) (ok:=fun k_ => (True ∧ some k_ ≠ (.slice Ao13 t254.length co13 : Value).ownBlock)) (n:=t247.length) (c:=co39) ?_).2.2;exact (by (with_reducible repeat (first | apply Kd.S_alloc | apply Kd.S_drewN | apply Kd.S_drew));exact (Kd.S_mono (Kd.S_far (p:=⟨gb260,3,none⟩) (Kd.S_far (p:=⟨gb260,2,none⟩) (Kd.S_far (p:=⟨gb260,1,none⟩) (Kd.S_far (p:=⟨gb260,0,none⟩) (Kd.S_types HO249.out BK260.out (by decide)) (fun _ hk => hk.2) (.slice Ao13 t254.length co13)) (fun _ hk => hk.2) (.int .i64 t257)) (fun _ hk => hk.2) (.int .i64 t258)) (fun _ hk => hk.2) (.int .i64 t259)) (fun _ h_ => h_.1))));(case side2 => exact (Kd.S_reads' HO249.out).2.1);(case side3 => refine (Kd.S_reads' (e:=41) (base:=w.heap.size) (ok:=fun k_ => (True ∧ some k_ ≠ (.slice Ao39 t247.length co39 : Value).ownBlock)) (n:=t254.length) (c:=co13) ?_).2.2;exact (by (with_reducible repeat (first | apply Kd.S_alloc | apply Kd.S_drewN | apply Kd.S_drew));exact (Kd.S_mono (Kd.S_far (p:=⟨gb260,3,none⟩) (Kd.S_far (p:=⟨gb260,2,none⟩) (Kd.S_far (p:=⟨gb260,1,none⟩) (Kd.S_far (p:=⟨gb260,0,none⟩) (Kd.S_types HO256.out BK260.out (by decide)) (fun _ hk => hk.2) (.slice Ao13 t254.length co13)) (fun _ hk => hk.2) (.int .i64 t257)) (fun _ hk => hk.2) (.int .i64 t258)) (fun _ hk => hk.2) (.int .i64 t259)) (fun _ h_ => h_.1))));(case side4 => exact (Kd.S_reads' HO256.out).2.1);rintro e w' ⟨rfl,⟨nd,rfl⟩⟩;refine ⟨_,rfl,?_⟩))
     go_meet
     case rel => exact ⟨_,(true),(by first | rfl | (simp;done) | (simp [*];done)),H',⟨by first | omega | exact Nat.le_refl _⟩,⟨by (with_reducible repeat (first | apply Kd.S_alloc | apply Kd.S_drewN | apply Kd.S_drew));exact Kd.S_mono (Kd.S_far (p:=⟨gb260,3,none⟩) (Kd.S_far (p:=⟨gb260,2,none⟩) (Kd.S_far (p:=⟨gb260,1,none⟩) (Kd.S_far (p:=⟨gb260,0,none⟩) (Kd.S_types HO249.out BK260.out (by decide)) (fun _ hk => hk.2) (.slice Ao13 t254.length co13)) (fun _ hk => hk.2) (.int .i64 t257)) (fun _ hk => hk.2) (.int .i64 t258)) (fun _ hk => hk.2) (.int .i64 t259)) (fun _ hk => hk.1.2)⟩,⟨by (with_reducible repeat (first | apply Kd.S_alloc | apply Kd.S_drewN | apply Kd.S_drew));exact Kd.S_mono (Kd.S_far (p:=⟨gb260,3,none⟩) (Kd.S_far (p:=⟨gb260,2,none⟩) (Kd.S_far (p:=⟨gb260,1,none⟩) (Kd.S_far (p:=⟨gb260,0,none⟩) (Kd.S_types HO256.out BK260.out (by decide)) (fun _ hk => hk.2) (.slice Ao13 t254.length co13)) (fun _ hk => hk.2) (.int .i64 t257)) (fun _ hk => hk.2) (.int .i64 t258)) (fun _ hk => hk.2) (.int .i64 t259)) (fun _ hk => hk.1.2)⟩,⟨by (with_reducible repeat (first | refine blk_drewN ?_ _ | refine blk_drew ?_ | refine blk_alloc ?_ _));refine blk_far ?_ NB253_260.out _;(with_reducible repeat (first | refine blk_drewN ?_ _ | refine blk_drew ?_ | refine blk_alloc ?_ _));refine blk_far ?_ NB253_260.out _;(with_reducible repeat (first | refine blk_drewN ?_ _ | refine blk_drew ?_ | refine blk_alloc ?_ _));refine blk_far ?_ NB253_260.out _;(with_reducible repeat (first | refine blk_drewN ?_ _ | refine blk_drew ?_ | refine blk_alloc ?_ _));refine blk_far ?_ NB253_260.out _;(with_reducible repeat (first | refine blk_drewN ?_ _ | refine blk_drew ?_ | refine blk_alloc ?_ _));exact BK253.out⟩,⟨by (with_reducible repeat (first | refine blk_drewN ?_ _ | refine blk_drew ?_ | refine blk_alloc ?_ _));refine blk_put (cs:=#[.slice Ao13 t254.length co13,.int .i64 t257,.int .i64 t258,.int .i64 0]) ?_ 3 _ rfl;(with_reducible repeat (first | refine blk_drewN ?_ _ | refine blk_drew ?_ | refine blk_alloc ?_ _));refine blk_put (cs:=#[.slice Ao13 t254.length co13,.int .i64 t257,.int .i64 0,.int .i64 0]) ?_ 2 _ rfl;(with_reducible repeat (first | refine blk_drewN ?_ _ | refine blk_drew ?_ | refine blk_alloc ?_ _));refine blk_put (cs:=#[.slice Ao13 t254.length co13,.int .i64 0,.int .i64 0,.int .i64 0]) ?_ 1 _ rfl;(with_reducible repeat (first | refine blk_drewN ?_ _ | refine blk_drew ?_ | refine blk_alloc ?_ _));refine blk_put (cs:=#[.slice none 0 0,.int .i64 0,.int .i64 0,.int .i64 0]) ?_ 0 _ rfl;(with_reducible repeat (first | refine blk_drewN ?_ _ | refine blk_drew ?_ | refine blk_alloc ?_ _));exact BK260.out⟩,⟨by repeat (first | (with_reducible first | exact HB.out | apply below_alloc | apply pw_below_drewN | apply below_drew1 | refine below_set ?_ GE253.out | refine below_set ?_ GE260.out) | exact HB.out)⟩⟩
    ·rw [if_neg c36] at H
     have c36b0 : (t250 == 0) = false:=beq_eq_false_iff_ne.mpr c36
     have c36b1 : (t250 != 0) = true:=bne_iff_ne.mpr c36
     by_cases c40 : t250 = t257
     ·rw [if_pos c40] at H
      have c40b0 : (t250 == t257) = true:=beq_iff_eq.mpr c40
      have c40b1 : (t250 != t257) = false:=bne_eq_false_iff_eq.mpr c40
      clear c40
      by_cases c41 : (!(t251 == t258) || (!(t252 == t259))) = true
      ·rw [if_pos c41] at H
       have c41b0 : (!(t251 == t258) || (!(t252 == t259))) = true:=c41
       clear c41
       have H':=Aside0.mk H
       clear H
       have hnb42:=NB260_253.out
       have hnc42:=NB253_260.out
       have hcz43_0 : w12.cell? ⟨gb260,0,none⟩ = some (.slice none 0 0):=(blk_cell BK260.out 0).trans rfl
       have hcz43_1 : w12.cell? ⟨gb260,1,none⟩ = some (.int .i64 0):=(blk_cell BK260.out 1).trans rfl
       have hcz43_2 : w12.cell? ⟨gb260,2,none⟩ = some (.int .i64 0):=(blk_cell BK260.out 2).trans rfl
       have hcz43_3 : w12.cell? ⟨gb260,3,none⟩ = some (.int .i64 0):=(blk_cell BK260.out 3).trans rfl
       have hfz43_0:=blk_frozen BK260.out 0
       have hfz43_1:=blk_frozen BK260.out 1
       have hfz43_2:=blk_frozen BK260.out 2
       have hfz43_3:=blk_frozen BK260.out 3
       obtain ⟨Ao44,co44,eo44⟩:=Kd.S_slice HO249.out
       subst eo44
       go_wp2_with (first | ((with_reducible refine gate_callee (f:=9) rfl ?_);refine goesL_ (some 24) rfl rfl Tryd.func9 (by kernel_rfl) rfl #[.slice Ao44 t247.length co44,.slice Ao13 t254.length co13] rfl (by (try simp only [List.map_toArray,List.map_cons,List.map_nil]);first | done | rfl | (simp only [List.length_drop,List.length_take];rfl)) ?_;(with_reducible refine (tachographref09_Same.calls k _ _ t247 _ _ t254 false _ ?side1 ?side2 ?side3 ?side4 A16.out).mono ?_);(case side1 => refine (Kd.S_reads' (e:=41) (base:=w.heap.size) (ok:=fun k_ => (True ∧ some k_ ≠ (.slice Ao13 t254.length co13 : Value).ownBlock)) (n:=t247.length) (c:=co44) ?_).2.2;exact (by (with_reducible repeat (first | apply Kd.S_alloc | apply Kd.S_drewN | apply Kd.S_drew));exact (Kd.S_mono (Kd.S_far (p:=⟨gb260,3,none⟩) (Kd.S_far (p:=⟨gb260,2,none⟩) (Kd.S_far (p:=⟨gb260,1,none⟩) (Kd.S_far (p:=⟨gb260,0,none⟩) (Kd.S_types HO249.out BK260.out (by decide)) (fun _ hk => hk.2) (.slice Ao13 t254.length co13)) (fun _ hk => hk.2) (.int .i64 t257)) (fun _ hk => hk.2) (.int .i64 t258)) (fun _ hk => hk.2) (.int .i64 t259)) (fun _ h_ => h_.1))));(case side2 => exact (Kd.S_reads' HO249.out).2.1);(case side3 => refine (Kd.S_reads' (e:=41) (base:=w.heap.size) (ok:=fun k_ => (True ∧ some k_ ≠ (.slice Ao44 t247.length co44 : Value).ownBlock)) (n:=t254.length) (c:=co13) ?_).2.2;exact (by (with_reducible repeat (first | apply Kd.S_alloc | apply Kd.S_drewN | apply Kd.S_drew));exact (Kd.S_mono (Kd.S_far (p:=⟨gb260,3,none⟩) (Kd.S_far (p:=⟨gb260,2,none⟩) (Kd.S_far (p:=⟨gb260,1,none⟩) (Kd.S_far (p:=⟨gb260,0,none⟩) (Kd.S_types HO256.out BK260.out (by decide)) (fun _ hk => hk.2) (.slice Ao13 t254.length co13)) (fun _ hk => hk.2) (.int .i64 t257)) (fun _ hk => hk.2) (.int .i64 t258)) (fun _ hk => hk.2) (.int .i64 t259)) (fun _ h_ => h_.1))));(case side4 => exact (Kd.S_reads' HO256.out).2.1);rintro e w' ⟨rfl,⟨nd,rfl⟩⟩;refine ⟨_,rfl,?_⟩;have hcz45_0 : w12.cell? ⟨gb253,0,none⟩ = some (.int .i64 t251):=(blk_cell BK253.out 0).trans rfl;have hcz45_1 : w12.cell? ⟨gb253,1,none⟩ = some (.int .i64 t252):=(blk_cell BK253.out 1).trans rfl;have hfz45_0:=blk_frozen BK253.out 0;have hfz45_1:=blk_frozen BK253.out 1))
       go_meet
       case rel => exact ⟨_,(true),(by first | rfl | (simp;done) | (simp [*];done)),H',⟨by first | omega | exact Nat.le_refl _⟩,⟨by (with_reducible repeat (first | apply Kd.S_alloc | apply Kd.S_drewN | apply Kd.S_drew));exact Kd.S_mono (Kd.S_far (p:=⟨gb260,3,none⟩) (Kd.S_far (p:=⟨gb260,2,none⟩) (Kd.S_far (p:=⟨gb260,1,none⟩) (Kd.S_far (p:=⟨gb260,0,none⟩) (Kd.S_types HO249.out BK260.out (by decide)) (fun _ hk => hk.2) (.slice Ao13 t254.length co13)) (fun _ hk => hk.2) (.int .i64 t257)) (fun _ hk => hk.2) (.int .i64 t258)) (fun _ hk => hk.2) (.int .i64 t259)) (fun _ hk => hk.1.2)⟩,⟨by (with_reducible repeat (first | apply Kd.S_alloc | apply Kd.S_drewN | apply Kd.S_drew));exact Kd.S_mono (Kd.S_far (p:=⟨gb260,3,none⟩) (Kd.S_far (p:=⟨gb260,2,none⟩) (Kd.S_far (p:=⟨gb260,1,none⟩) (Kd.S_far (p:=⟨gb260,0,none⟩) (Kd.S_types HO256.out BK260.out (by decide)) (fun _ hk => hk.2) (.slice Ao13 t254.length co13)) (fun _ hk => hk.2) (.int .i64 t257)) (fun _ hk => hk.2) (.int .i64 t258)) (fun _ hk => hk.2) (.int .i64 t259)) (fun _ hk => hk.1.2)⟩,⟨by (with_reducible repeat (first | refine blk_drewN ?_ _ | refine blk_drew ?_ | refine blk_alloc ?_ _));refine blk_far ?_ NB253_260.out _;(with_reducible repeat (first | refine blk_drewN ?_ _ | refine blk_drew ?_ | refine blk_alloc ?_ _));refine blk_far ?_ NB253_260.out _;(with_reducible repeat (first | refine blk_drewN ?_ _ | refine blk_drew ?_ | refine blk_alloc ?_ _));refine blk_far ?_ NB253_260.out _;(with_reducible repeat (first | refine blk_drewN ?_ _ | refine blk_drew ?_ | refine blk_alloc ?_ _));refine blk_far ?_ NB253_260.out _;(with_reducible repeat (first | refine blk_drewN ?_ _ | refine blk_drew ?_ | refine blk_alloc ?_ _));exact BK253.out⟩,⟨by (with_reducible repeat (first | refine blk_drewN ?_ _ | refine blk_drew ?_ | refine blk_alloc ?_ _));refine blk_put (cs:=#[.slice Ao13 t254.length co13,.int .i64 t257,.int .i64 t258,.int .i64 0]) ?_ 3 _ rfl;(with_reducible repeat (first | refine blk_drewN ?_ _ | refine blk_drew ?_ | refine blk_alloc ?_ _));refine blk_put (cs:=#[.slice Ao13 t254.length co13,.int .i64 t257,.int .i64 0,.int .i64 0]) ?_ 2 _ rfl;(with_reducible repeat (first | refine blk_drewN ?_ _ | refine blk_drew ?_ | refine blk_alloc ?_ _));refine blk_put (cs:=#[.slice Ao13 t254.length co13,.int .i64 0,.int .i64 0,.int .i64 0]) ?_ 1 _ rfl;(with_reducible repeat (first | refine blk_drewN ?_ _ | refine blk_drew ?_ | refine blk_alloc ?_ _));refine blk_put (cs:=#[.slice none 0 0,.int .i64 0,.int .i64 0,.int .i64 0]) ?_ 0 _ rfl;(with_reducible repeat (first | refine blk_drewN ?_ _ | refine blk_drew ?_ | refine blk_alloc ?_ _));exact BK260.out⟩,⟨by repeat (first | (with_reducible first | exact HB.out | apply below_alloc | apply pw_below_drewN | apply below_drew1 | refine below_set ?_ GE253.out | refine below_set ?_ GE260.out) | exact HB.out)⟩⟩
      ·rw [if_neg c41] at H
       have c41b0 : (!(t251 == t258) || (!(t252 == t259))) = false:=by simpa using c41
       clear c41
       have H':=Aside0.mk H
       clear H
       have hnb46:=NB260_253.out
       have hnc46:=NB253_260.out
       have hcz47_0 : w12.cell? ⟨gb260,0,none⟩ = some (.slice none 0 0):=(blk_cell BK260.out 0).trans rfl
       have hcz47_1 : w12.cell? ⟨gb260,1,none⟩ = some (.int .i64 0):=(blk_cell BK260.out 1).trans rfl
       have hcz47_2 : w12.cell? ⟨gb260,2,none⟩ = some (.int .i64 0):=(blk_cell BK260.out 2).trans rfl
       have hcz47_3 : w12.cell? ⟨gb260,3,none⟩ = some (.int .i64 0):=(blk_cell BK260.out 3).trans rfl
       have hfz47_0:=blk_frozen BK260.out 0
       have hfz47_1:=blk_frozen BK260.out 1
       have hfz47_2:=blk_frozen BK260.out 2
       have hfz47_3:=blk_frozen BK260.out 3
       obtain ⟨Ao48,co48,eo48⟩:=Kd.S_slice HO249.out
       subst eo48
       go_wp2_with (first | ((with_reducible refine gate_callee (f:=9) rfl ?_);refine goesL_ (some 24) rfl rfl Tryd.func9 (by kernel_rfl) rfl #[.slice Ao48 t247.length co48,.slice Ao13 t254.length co13] rfl (by (try simp only [List.map_toArray,List.map_cons,List.map_nil]);first | done | rfl | (simp only [List.length_drop,List.length_take];rfl)) ?_;(with_reducible refine (tachographref09_Same.calls k _ _ t247 _ _ t254 false _ ?side1 ?side2 ?side3 ?side4 A16.out).mono ?_);(case side1 => refine (Kd.S_reads' (e:=41) (base:=w.heap.size) (ok:=fun k_ => (True ∧ some k_ ≠ (.slice Ao13 t254.length co13 : Value).ownBlock)) (n:=t247.length) (c:=co48) ?_).2.2;exact (by (with_reducible repeat (first | apply Kd.S_alloc | apply Kd.S_drewN | apply Kd.S_drew));exact (Kd.S_mono (Kd.S_far (p:=⟨gb260,3,none⟩) (Kd.S_far (p:=⟨gb260,2,none⟩) (Kd.S_far (p:=⟨gb260,1,none⟩) (Kd.S_far (p:=⟨gb260,0,none⟩) (Kd.S_types HO249.out BK260.out (by decide)) (fun _ hk => hk.2) (.slice Ao13 t254.length co13)) (fun _ hk => hk.2) (.int .i64 t257)) (fun _ hk => hk.2) (.int .i64 t258)) (fun _ hk => hk.2) (.int .i64 t259)) (fun _ h_ => h_.1))));(case side2 => exact (Kd.S_reads' HO249.out).2.1);(case side3 => refine (Kd.S_reads' (e:=41) (base:=w.heap.size) (ok:=fun k_ => (True ∧ some k_ ≠ (.slice Ao48 t247.length co48 : Value).ownBlock)) (n:=t254.length) (c:=co13) ?_).2.2;exact (by (with_reducible repeat (first | apply Kd.S_alloc | apply Kd.S_drewN | apply Kd.S_drew));exact (Kd.S_mono (Kd.S_far (p:=⟨gb260,3,none⟩) (Kd.S_far (p:=⟨gb260,2,none⟩) (Kd.S_far (p:=⟨gb260,1,none⟩) (Kd.S_far (p:=⟨gb260,0,none⟩) (Kd.S_types HO256.out BK260.out (by decide)) (fun _ hk => hk.2) (.slice Ao13 t254.length co13)) (fun _ hk => hk.2) (.int .i64 t257)) (fun _ hk => hk.2) (.int .i64 t258)) (fun _ hk => hk.2) (.int .i64 t259)) (fun _ h_ => h_.1))));(case side4 => exact (Kd.S_reads' HO256.out).2.1);rintro e w' ⟨rfl,⟨nd,rfl⟩⟩;refine ⟨_,rfl,?_⟩;have hcz49_0 : w12.cell? ⟨gb253,0,none⟩ = some (.int .i64 t251):=(blk_cell BK253.out 0).trans rfl;have hcz49_1 : w12.cell? ⟨gb253,1,none⟩ = some (.int .i64 t252):=(blk_cell BK253.out 1).trans rfl;have hfz49_0:=blk_frozen BK253.out 0;have hfz49_1:=blk_frozen BK253.out 1))
       go_meet
       case rel => exact ⟨_,(((t247.length : Int) != 0)),(by first | rfl | (simp;done) | (simp [*];done)),H',⟨by first | omega | exact Nat.le_refl _⟩,⟨by (with_reducible repeat (first | apply Kd.S_alloc | apply Kd.S_drewN | apply Kd.S_drew));exact Kd.S_mono (Kd.S_far (p:=⟨gb260,3,none⟩) (Kd.S_far (p:=⟨gb260,2,none⟩) (Kd.S_far (p:=⟨gb260,1,none⟩) (Kd.S_far (p:=⟨gb260,0,none⟩) (Kd.S_types HO249.out BK260.out (by decide)) (fun _ hk => hk.2) (.slice Ao13 t254.length co13)) (fun _ hk => hk.2) (.int .i64 t257)) (fun _ hk => hk.2) (.int .i64 t258)) (fun _ hk => hk.2) (.int .i64 t259)) (fun _ hk => hk.1.2)⟩,⟨by (with_reducible repeat (first | apply Kd.S_alloc | apply Kd.S_drewN | apply Kd.S_drew));exact Kd.S_mono (Kd.S_far (p:=⟨gb260,3,none⟩) (Kd.S_far (p:=⟨gb260,2,none⟩) (Kd.S_far (p:=⟨gb260,1,none⟩) (Kd.S_far (p:=⟨gb260,0,none⟩) (Kd.S_types HO256.out BK260.out (by decide)) (fun _ hk => hk.2) (.slice Ao13 t254.length co13)) (fun _ hk => hk.2) (.int .i64 t257)) (fun _ hk => hk.2) (.int .i64 t258)) (fun _ hk => hk.2) (.int .i64 t259)) (fun _ hk => hk.1.2)⟩,⟨by (with_reducible repeat (first | refine blk_drewN ?_ _ | refine blk_drew ?_ | refine blk_alloc ?_ _));refine blk_far ?_ NB253_260.out _;(with_reducible repeat (first | refine blk_drewN ?_ _ | refine blk_drew ?_ | refine blk_alloc ?_ _));refine blk_far ?_ NB253_260.out _;(with_reducible repeat (first | refine blk_drewN ?_ _ | refine blk_drew ?_ | refine blk_alloc ?_ _));refine blk_far ?_ NB253_260.out _;(with_reducible repeat (first | refine blk_drewN ?_ _ | refine blk_drew ?_ | refine blk_alloc ?_ _));refine blk_far ?_ NB253_260.out _;(with_reducible repeat (first | refine blk_drewN ?_ _ | refine blk_drew ?_ | refine blk_alloc ?_ _));exact BK253.out⟩,⟨by (with_reducible repeat (first | refine blk_drewN ?_ _ | refine blk_drew ?_ | refine blk_alloc ?_ _));refine blk_put (cs:=#[.slice Ao13 t254.length co13,.int .i64 t257,.int .i64 t258,.int .i64 0]) ?_ 3 _ rfl;(with_reducible repeat (first | refine blk_drewN ?_ _ | refine blk_drew ?_ | refine blk_alloc ?_ _));refine blk_put (cs:=#[.slice Ao13 t254.length co13,.int .i64 t257,.int .i64 0,.int .i64 0]) ?_ 2 _ rfl;(with_reducible repeat (first | refine blk_drewN ?_ _ | refine blk_drew ?_ | refine blk_alloc ?_ _));refine blk_put (cs:=#[.slice Ao13 t254.length co13,.int .i64 0,.int .i64 0,.int .i64 0]) ?_ 1 _ rfl;(with_reducible repeat (first | refine blk_drewN ?_ _ | refine blk_drew ?_ | refine blk_alloc ?_ _));refine blk_put (cs:=#[.slice none 0 0,.int .i64 0,.int .i64 0,.int .i64 0]) ?_ 0 _ rfl;(with_reducible repeat (first | refine blk_drewN ?_ _ | refine blk_drew ?_ | refine blk_alloc ?_ _));exact BK260.out⟩,⟨by repeat (first | (with_reducible first | exact HB.out | apply below_alloc | apply pw_below_drewN | apply below_drew1 | refine below_set ?_ GE253.out | refine below_set ?_ GE260.out) | exact HB.out)⟩⟩
     ·rw [if_neg c40] at H
      have c40b0 : (t250 == t257) = false:=beq_eq_false_iff_ne.mpr c40
      have c40b1 : (t250 != t257) = true:=bne_iff_ne.mpr c40
      have H':=Aside0.mk H
      clear H
      have hnb50:=NB260_253.out
      have hnc50:=NB253_260.out
      have hcz51_0 : w12.cell? ⟨gb260,0,none⟩ = some (.slice none 0 0):=(blk_cell BK260.out 0).trans rfl
      have hcz51_1 : w12.cell? ⟨gb260,1,none⟩ = some (.int .i64 0):=(blk_cell BK260.out 1).trans rfl
      have hcz51_2 : w12.cell? ⟨gb260,2,none⟩ = some (.int .i64 0):=(blk_cell BK260.out 2).trans rfl
      have hcz51_3 : w12.cell? ⟨gb260,3,none⟩ = some (.int .i64 0):=(blk_cell BK260.out 3).trans rfl
      have hfz51_0:=blk_frozen BK260.out 0
      have hfz51_1:=blk_frozen BK260.out 1
      have hfz51_2:=blk_frozen BK260.out 2
      have hfz51_3:=blk_frozen BK260.out 3
      obtain ⟨Ao52,co52,eo52⟩:=Kd.S_slice HO249.out
      subst eo52
      go_wp2_with (first | ((with_reducible refine gate_callee (f:=9) rfl ?_);refine goesL_ (some 24) rfl rfl Tryd.func9 (by kernel_rfl) rfl #[.slice Ao52 t247.length co52,.slice Ao13 t254.length co13] rfl (by (try simp only [List.map_toArray,List.map_cons,List.map_nil]);first | done | rfl | (simp only [List.length_drop,List.length_take];rfl)) ?_;(with_reducible refine (tachographref09_Same.calls k _ _ t247 _ _ t254 false _ ?side1 ?side2 ?side3 ?side4 A16.out).mono ?_);(case side1 => refine (Kd.S_reads' (e:=41) (base:=w.heap.size) (ok:=fun k_ => (True ∧ some k_ ≠ (.slice Ao13 t254.length co13 : Value).ownBlock)) (n:=t247.length) (c:=co52) ?_).2.2;exact (by (with_reducible repeat (first | apply Kd.S_alloc | apply Kd.S_drewN | apply Kd.S_drew));exact (Kd.S_mono (Kd.S_far (p:=⟨gb260,3,none⟩) (Kd.S_far (p:=⟨gb260,2,none⟩) (Kd.S_far (p:=⟨gb260,1,none⟩) (Kd.S_far (p:=⟨gb260,0,none⟩) (Kd.S_types HO249.out BK260.out (by decide)) (fun _ hk => hk.2) (.slice Ao13 t254.length co13)) (fun _ hk => hk.2) (.int .i64 t257)) (fun _ hk => hk.2) (.int .i64 t258)) (fun _ hk => hk.2) (.int .i64 t259)) (fun _ h_ => h_.1))));(case side2 => exact (Kd.S_reads' HO249.out).2.1);(case side3 => refine (Kd.S_reads' (e:=41) (base:=w.heap.size) (ok:=fun k_ => (True ∧ some k_ ≠ (.slice Ao52 t247.length co52 : Value).ownBlock)) (n:=t254.length) (c:=co13) ?_).2.2;exact (by (with_reducible repeat (first | apply Kd.S_alloc | apply Kd.S_drewN | apply Kd.S_drew));exact (Kd.S_mono (Kd.S_far (p:=⟨gb260,3,none⟩) (Kd.S_far (p:=⟨gb260,2,none⟩) (Kd.S_far (p:=⟨gb260,1,none⟩) (Kd.S_far (p:=⟨gb260,0,none⟩) (Kd.S_types HO256.out BK260.out (by decide)) (fun _ hk => hk.2) (.slice Ao13 t254.length co13)) (fun _ hk => hk.2) (.int .i64 t257)) (fun _ hk => hk.2) (.int .i64 t258)) (fun _ hk => hk.2) (.int .i64 t259)) (fun _ h_ => h_.1))));(case side4 => exact (Kd.S_reads' HO256.out).2.1);rintro e w' ⟨rfl,⟨nd,rfl⟩⟩;refine ⟨_,rfl,?_⟩))
      go_meet
      case rel => exact ⟨_,(true),(by first | rfl | (simp;done) | (simp [*];done)),H',⟨by first | omega | exact Nat.le_refl _⟩,⟨by (with_reducible repeat (first | apply Kd.S_alloc | apply Kd.S_drewN | apply Kd.S_drew));exact Kd.S_mono (Kd.S_far (p:=⟨gb260,3,none⟩) (Kd.S_far (p:=⟨gb260,2,none⟩) (Kd.S_far (p:=⟨gb260,1,none⟩) (Kd.S_far (p:=⟨gb260,0,none⟩) (Kd.S_types HO249.out BK260.out (by decide)) (fun _ hk => hk.2) (.slice Ao13 t254.length co13)) (fun _ hk => hk.2) (.int .i64 t257)) (fun _ hk => hk.2) (.int .i64 t258)) (fun _ hk => hk.2) (.int .i64 t259)) (fun _ hk => hk.1.2)⟩,⟨by (with_reducible repeat (first | apply Kd.S_alloc | apply Kd.S_drewN | apply Kd.S_drew));exact Kd.S_mono (Kd.S_far (p:=⟨gb260,3,none⟩) (Kd.S_far (p:=⟨gb260,2,none⟩) (Kd.S_far (p:=⟨gb260,1,none⟩) (Kd.S_far (p:=⟨gb260,0,none⟩) (Kd.S_types HO256.out BK260.out (by decide)) (fun _ hk => hk.2) (.slice Ao13 t254.length co13)) (fun _ hk => hk.2) (.int .i64 t257)) (fun _ hk => hk.2) (.int .i64 t258)) (fun _ hk => hk.2) (.int .i64 t259)) (fun _ hk => hk.1.2)⟩,⟨by (with_reducible repeat (first | refine blk_drewN ?_ _ | refine blk_drew ?_ | refine blk_alloc ?_ _));refine blk_far ?_ NB253_260.out _;(with_reducible repeat (first | refine blk_drewN ?_ _ | refine blk_drew ?_ | refine blk_alloc ?_ _));refine blk_far ?_ NB253_260.out _;(with_reducible repeat (first | refine blk_drewN ?_ _ | refine blk_drew ?_ | refine blk_alloc ?_ _));refine blk_far ?_ NB253_260.out _;(with_reducible repeat (first | refine blk_drewN ?_ _ | refine blk_drew ?_ | refine blk_alloc ?_ _));refine blk_far ?_ NB253_260.out _;(with_reducible repeat (first | refine blk_drewN ?_ _ | refine blk_drew ?_ | refine blk_alloc ?_ _));exact BK253.out⟩,⟨by (with_reducible repeat (first | refine blk_drewN ?_ _ | refine blk_drew ?_ | refine blk_alloc ?_ _));refine blk_put (cs:=#[.slice Ao13 t254.length co13,.int .i64 t257,.int .i64 t258,.int .i64 0]) ?_ 3 _ rfl;(with_reducible repeat (first | refine blk_drewN ?_ _ | refine blk_drew ?_ | refine blk_alloc ?_ _));refine blk_put (cs:=#[.slice Ao13 t254.length co13,.int .i64 t257,.int .i64 0,.int .i64 0]) ?_ 2 _ rfl;(with_reducible repeat (first | refine blk_drewN ?_ _ | refine blk_drew ?_ | refine blk_alloc ?_ _));refine blk_put (cs:=#[.slice Ao13 t254.length co13,.int .i64 0,.int .i64 0,.int .i64 0]) ?_ 1 _ rfl;(with_reducible repeat (first | refine blk_drewN ?_ _ | refine blk_drew ?_ | refine blk_alloc ?_ _));refine blk_put (cs:=#[.slice none 0 0,.int .i64 0,.int .i64 0,.int .i64 0]) ?_ 0 _ rfl;(with_reducible repeat (first | refine blk_drewN ?_ _ | refine blk_drew ?_ | refine blk_alloc ?_ _));exact BK260.out⟩,⟨by repeat (first | (with_reducible first | exact HB.out | apply below_alloc | apply pw_below_drewN | apply below_drew1 | refine below_set ?_ GE253.out | refine below_set ?_ GE260.out) | exact HB.out)⟩⟩
  case rest =>
   clear HC7
   try clear c1
   try clear c2
   try clear c2b0
   try clear c2b1
   try clear p2
   try clear c3
   try clear c4
   try clear c5
   try clear c6
   try clear c7
   try clear c8
   try clear c9
   try clear c14
   try clear c17
   try clear c18
   try clear c18b0
   try clear c18b1
   try clear c19
   try clear c19b0
   try clear c20
   try clear c24
   try clear c24b0
   try clear c24b1
   try clear c25
   try clear c29
   try clear c33
   try clear c36
   try clear c36b0
   try clear c36b1
   try clear c37
   try clear c40
   try clear c40b0
   try clear c40b1
   try clear c41
   try clear c41b0
   try clear c42
   try clear c46
   try clear c50
   try clear hcz10_0
   try clear hcz10_1
   try clear hcz15_0
   try clear hcz15_1
   try clear hcz15_2
   try clear hcz15_3
   try clear hcz21_0
   try clear hcz21_1
   try clear hcz21_2
   try clear hcz21_3
   try clear hcz23_0
   try clear hcz23_1
   try clear hcz26_0
   try clear hcz26_1
   try clear hcz26_2
   try clear hcz26_3
   try clear hcz28_0
   try clear hcz28_1
   try clear hcz30_0
   try clear hcz30_1
   try clear hcz30_2
   try clear hcz30_3
   try clear hcz32_0
   try clear hcz32_1
   try clear hcz34_0
   try clear hcz34_1
   try clear hcz34_2
   try clear hcz34_3
   try clear hcz38_0
   try clear hcz38_1
   try clear hcz38_2
   try clear hcz38_3
   try clear hcz43_0
   try clear hcz43_1
   try clear hcz43_2
   try clear hcz43_3
   try clear hcz45_0
   try clear hcz45_1
   try clear hcz47_0
   try clear hcz47_1
   try clear hcz47_2
   try clear hcz47_3
   try clear hcz49_0
   try clear hcz49_1
   try clear hcz51_0
   try clear hcz51_1
   try clear hcz51_2
   try clear hcz51_3
   try clear hfz10_0
   try clear hfz10_1
   try clear hfz15_0
   try clear hfz15_1
   try clear hfz15_2
   try clear hfz15_3
   try clear hfz21_0
   try clear hfz21_1
   try clear hfz21_2
   try clear hfz21_3
   try clear hfz23_0
   try clear hfz23_1
   try clear hfz26_0
   try clear hfz26_1
   try clear hfz26_2
   try clear hfz26_3
   try clear hfz28_0
   try clear hfz28_1
   try clear hfz30_0
   try clear hfz30_1
   try clear hfz30_2
   try clear hfz30_3
   try clear hfz32_0
   try clear hfz32_1
   try clear hfz34_0
   try clear hfz34_1
   try clear hfz34_2
   try clear hfz34_3
   try clear hfz38_0
   try clear hfz38_1
   try clear hfz38_2
   try clear hfz38_3
   try clear hfz43_0
   try clear hfz43_1
   try clear hfz43_2
   try clear hfz43_3
   try clear hfz45_0
   try clear hfz45_1
   try clear hfz47_0
   try clear hfz47_1
   try clear hfz47_2
   try clear hfz47_3
   try clear hfz49_0
   try clear hfz49_1
   try clear hfz51_0
   try clear hfz51_1
   try clear hfz51_2
   try clear hfz51_3
   obtain ⟨kq,x50_6,rfl,HA,HJ6,HO_3,HO_261000,BK253,BK260,HB⟩:=hcut
   cases kq with
   | zero => exact absurd HA.out (by simp [tachographlaw10_SigtextParses.j0])
   | succ kj6 =>
    have H:=HA.out
    clear HA
    simp only [tachographlaw10_SigtextParses.j0] at H
    by_cases c53 : x50_6 = true
    ·subst c53
     have H1 : (some false) = some r:=by rw [if_pos rfl] at H;exact H
     clear H
     have H:=H1
     clear H1
     obtain rfl:=Option.some.inj H
     go_wp2
     go_ret
     exact ⟨by first | rfl | (simp [errW_none,errW_some] <;> rfl) | (simp [*,errW_none,errW_some] <;> rfl),by repeat (first | (with_reducible first | exact HB.out | apply below_alloc | apply pw_below_drewN | apply below_drew1 | refine below_set ?_ GE253.out | refine below_set ?_ GE260.out) | exact HB.out)⟩
    ·replace c53:=Bool.eq_false_iff.mpr c53
     subst c53
     have H1 : ((sigtext_Print.f kj6 t247).bind fun bt262 => ((tachographlaw10_fixed.f kj6).bind fun t264 => (if t264 = true then (if t250 = 0 then (if bt262.2 = 0 then (some (bt262.1.toList == a0.toList)) else (some false)) else (some true)) else (some false)))) = some r:=by rw [if_neg (show ¬ (false = true) by decide)] at H;exact H
     clear H
     have H:=H1
     clear H1
     replace H:=Option.bind_eq_some_iff.mp H
     obtain ⟨⟨t262,t263⟩,A540,H⟩:=H
     replace H : ((tachographlaw10_fixed.f kj6).bind fun t264 => (if t264 = true then (if t250 = 0 then (if t263 = 0 then (some (t262.toList == a0.toList)) else (some false)) else (some true)) else (some false))) = some r:=H
     have A54:=Aside0.mk A540
     clear A540
     replace H:=Option.bind_eq_some_iff.mp H
     obtain ⟨t264,A550,H⟩:=H
     replace H : (if t264 = true then (if t250 = 0 then (if t263 = 0 then (some (t262.toList == a0.toList)) else (some false)) else (some true)) else (some false)) = some r:=H
     have A55:=Aside0.mk A550
     clear A550
     by_cases c56 : t264 = true
     ·subst c56
      have H1 : (if t250 = 0 then (if t263 = 0 then (some (t262.toList == a0.toList)) else (some false)) else (some true)) = some r:=by rw [if_pos rfl] at H;exact H
      clear H
      have H:=H1
      clear H1
      by_cases c57 : t250 = 0
      ·rw [if_pos c57] at H
       have c57b0 : (t250 == 0) = true:=beq_iff_eq.mpr c57
       have c57b1 : (t250 != 0) = false:=bne_eq_false_iff_eq.mpr c57
       clear c57
       by_cases c58 : t263 = 0
       ·rw [if_pos c58] at H
        have c58b0 : (t263 == 0) = true:=beq_iff_eq.mpr c58
        have c58b1 : (t263 != 0) = false:=bne_eq_false_iff_eq.mpr c58
        clear c58
        obtain rfl:=Option.some.inj H
        obtain ⟨Ao59,co59,eo59⟩:=Kd.S_slice HO_3.out
        subst eo59
        go_wp2_with (first | ((with_reducible refine gate_callee (f:=10) rfl ?_);refine goesL_ (some 53) rfl rfl Tryd.func10 (by kernel_rfl) rfl #[.slice Ao59 t247.length co59] rfl (by (try simp only [List.map_toArray,List.map_cons,List.map_nil]);first | done | rfl | (simp only [List.length_drop,List.length_take];rfl)) ?_;(with_reducible refine (sigtext_Print.calls kj6 _ _ t247 t262 t263 _ ?side1 ?side2 A54.out (HG.out.below (by repeat (first | (with_reducible first | exact HB.out | apply below_alloc | apply pw_below_drewN | apply below_drew1 | refine below_set ?_ GE253.out | refine below_set ?_ GE260.out) | exact HB.out)))).mono ?_);(case side1 => repeat (first | exact (Kd.S_reads' HO_3.out).2.2 | (with_reducible refine Kd.C_alloc ?_ _) | (with_reducible refine Kd.C_drewN ?_ _) | (with_reducible refine Kd.C_drew ?_)));(case side2 => exact (Kd.S_reads' HO_3.out).2.1);rintro e w60 ⟨rfl,hb⟩;refine ⟨_,rfl,?_⟩;have n0_:=Aside0.mk (Kd.S_below (by (with_reducible repeat (first | apply Kd.S_alloc | apply Kd.S_drewN | apply Kd.S_drew));exact HO_3.out) hb);have n1_:=Aside0.mk (Kd.S_below (by (with_reducible repeat (first | apply Kd.S_alloc | apply Kd.S_drewN | apply Kd.S_drew));exact HO_261000.out) hb);have n2_:=Aside0.mk (blk_below (g:=gb253) (o:=.cells #[.int .i64 t251,.int .i64 t252] 26 (0,0)) (by (with_reducible repeat (first | refine blk_drewN ?_ _ | refine blk_drew ?_ | refine blk_alloc ?_ _));exact BK253.out) hb);have n3_:=Aside0.mk (blk_below (g:=gb260) (o:=.cells #[.slice Ao13 t254.length co13,.int .i64 t257,.int .i64 t258,.int .i64 t259] 31 (0,0)) (by (with_reducible repeat (first | refine blk_drewN ?_ _ | refine blk_drew ?_ | refine blk_alloc ?_ _));exact BK260.out) hb);have n4_:=Aside0.mk (below_step (by repeat (first | (with_reducible first | exact HB.out | apply below_alloc | apply pw_below_drewN | apply below_drew1 | refine below_set ?_ GE253.out | refine below_set ?_ GE260.out) | exact HB.out)) hb);clear HO_3;clear HO_261000;clear BK253;clear BK260;clear HB;have HO_3:=n0_;have HO_261000:=n1_;have BK253:=n2_;have BK260:=n3_;have HB:=n4_;clear n0_ n1_ n2_ n3_ n4_;(try clear hb);(try clear hb2);(try clear hk);(try clear hi)) | ((with_reducible refine gate_callee (f:=6) rfl ?_);refine goesL_ (some 56) rfl rfl Tryd.func6 (by kernel_rfl) rfl #[] rfl (by (try simp only [List.map_toArray,List.map_cons,List.map_nil]);first | done | rfl | (simp only [List.length_drop,List.length_take];rfl)) ?_;(with_reducible refine (tachographlaw10_fixed.calls kj6  true _ A55.out (HG.out.below (by repeat (first | (with_reducible first | exact HB.out | apply below_alloc | apply pw_below_drewN | apply below_drew1 | refine below_set ?_ GE253.out | refine below_set ?_ GE260.out) | exact HB.out)))).mono ?_);rintro e w61 ⟨rfl,hb⟩;refine ⟨_,rfl,?_⟩;have n0_:=Aside0.mk (Kd.S_below (by (with_reducible repeat (first | apply Kd.S_alloc | apply Kd.S_drewN | apply Kd.S_drew));exact HO_3.out) hb);have n1_:=Aside0.mk (Kd.S_below (by (with_reducible repeat (first | apply Kd.S_alloc | apply Kd.S_drewN | apply Kd.S_drew));exact HO_261000.out) hb);have n2_:=Aside0.mk (blk_below (g:=gb253) (o:=.cells #[.int .i64 t251,.int .i64 t252] 26 (0,0)) (by (with_reducible repeat (first | refine blk_drewN ?_ _ | refine blk_drew ?_ | refine blk_alloc ?_ _));exact BK253.out) hb);have n3_:=Aside0.mk (blk_below (g:=gb260) (o:=.cells #[.slice Ao13 t254.length co13,.int .i64 t257,.int .i64 t258,.int .i64 t259] 31 (0,0)) (by (with_reducible repeat (first | refine blk_drewN ?_ _ | refine blk_drew ?_ | refine blk_alloc ?_ _));exact BK260.out) hb);have n4_:=Aside0.mk (below_step (by repeat (first | (with_reducible first | exact HB.out | apply below_alloc | apply pw_below_drewN | apply below_drew1 | refine below_set ?_ GE253.out | refine below_set ?_ GE260.out) | exact HB.out)) hb);clear HO_3;clear HO_261000;clear BK253;clear BK260;clear HB;have HO_3:=n0_;have HO_261000:=n1_;have BK253:=n2_;have BK260:=n3_;have HB:=n4_;clear n0_ n1_ n2_ n3_ n4_;(try clear hb);(try clear hb2);(try clear hk);(try clear hi)))
        go_ret
        exact ⟨by first | rfl | (simp [errW_none,errW_some] <;> rfl) | (simp [*,errW_none,errW_some] <;> rfl),by repeat (first | (with_reducible first | exact HB.out | apply below_alloc | apply pw_below_drewN | apply below_drew1 | refine below_set ?_ GE253.out | refine below_set ?_ GE260.out) | exact HB.out)⟩
       ·rw [if_neg c58] at H
        have c58b0 : (t263 == 0) = false:=beq_eq_false_iff_ne.mpr c58
        have c58b1 : (t263 != 0) = true:=bne_iff_ne.mpr c58
        obtain rfl:=Option.some.inj H
        obtain ⟨Ao62,co62,eo62⟩:=Kd.S_slice HO_3.out
        subst eo62
        go_wp2_with (first | ((with_reducible refine gate_callee (f:=10) rfl ?_);refine goesL_ (some 53) rfl rfl Tryd.func10 (by kernel_rfl) rfl #[.slice Ao62 t247.length co62] rfl (by (try simp only [List.map_toArray,List.map_cons,List.map_nil]);first | done | rfl | (simp only [List.length_drop,List.length_take];rfl)) ?_;(with_reducible refine (sigtext_Print.calls kj6 _ _ t247 t262 t263 _ ?side1 ?side2 A54.out (HG.out.below (by repeat (first | (with_reducible first | exact HB.out | apply below_alloc | apply pw_below_drewN | apply below_drew1 | refine below_set ?_ GE253.out | refine below_set ?_ GE260.out) | exact HB.out)))).mono ?_);(case side1 => repeat (first | exact (Kd.S_reads' HO_3.out).2.2 | (with_reducible refine Kd.C_alloc ?_ _) | (with_reducible refine Kd.C_drewN ?_ _) | (with_reducible refine Kd.C_drew ?_)));(case side2 => exact (Kd.S_reads' HO_3.out).2.1);rintro e w63 ⟨rfl,hb⟩;refine ⟨_,rfl,?_⟩;have n0_:=Aside0.mk (Kd.S_below (by (with_reducible repeat (first | apply Kd.S_alloc | apply Kd.S_drewN | apply Kd.S_drew));exact HO_3.out) hb);have n1_:=Aside0.mk (Kd.S_below (by (with_reducible repeat (first | apply Kd.S_alloc | apply Kd.S_drewN | apply Kd.S_drew));exact HO_261000.out) hb);have n2_:=Aside0.mk (blk_below (g:=gb253) (o:=.cells #[.int .i64 t251,.int .i64 t252] 26 (0,0)) (by (with_reducible repeat (first | refine blk_drewN ?_ _ | refine blk_drew ?_ | refine blk_alloc ?_ _));exact BK253.out) hb);have n3_:=Aside0.mk (blk_below (g:=gb260) (o:=.cells #[.slice Ao13 t254.length co13,.int .i64 t257,.int .i64 t258,.int .i64 t259] 31 (0,0)) (by (with_reducible repeat (first | refine blk_drewN ?_ _ | refine blk_drew ?_ | refine blk_alloc ?_ _));exact BK260.out) hb);have n4_:=Aside0.mk (below_step (by repeat (first | (with_reducible first | exact HB.out | apply below_alloc | apply pw_below_drewN | apply below_drew1 | refine below_set ?_ GE253.out | refine below_set ?_ GE260.out) | exact HB.out)) hb);clear HO_3;clear HO_261000;clear BK253;clear BK260;clear HB;have HO_3:=n0_;have HO_261000:=n1_;have BK253:=n2_;have BK260:=n3_;have HB:=n4_;clear n0_ n1_ n2_ n3_ n4_;(try clear hb);(try clear hb2);(try clear hk);(try clear hi)) | ((with_reducible refine gate_callee (f:=6) rfl ?_);refine goesL_ (some 56) rfl rfl Tryd.func6 (by kernel_rfl) rfl #[] rfl (by (try simp only [List.map_toArray,List.map_cons,List.map_nil]);first | done | rfl | (simp only [List.length_drop,List.length_take];rfl)) ?_;(with_reducible refine (tachographlaw10_fixed.calls kj6  true _ A55.out (HG.out.below (by repeat (first | (with_reducible first | exact HB.out | apply below_alloc | apply pw_below_drewN | apply below_drew1 | refine below_set ?_ GE253.out | refine below_set ?_ GE260.out) | exact HB.out)))).mono ?_);rintro e w64 ⟨rfl,hb⟩;refine ⟨_,rfl,?_⟩;have n0_:=Aside0.mk (Kd.S_below (by (with_reducible repeat (first | apply Kd.S_alloc | apply Kd.S_drewN | apply Kd.S_drew));exact HO_3.out) hb);have n1_:=Aside0.mk (Kd.S_below (by (with_reducible repeat (first | apply Kd.S_alloc | apply Kd.S_drewN | apply Kd.S_drew));exact HO_261000.out) hb);have n2_:=Aside0.mk (blk_below (g:=gb253) (o:=.cells #[.int .i64 t251,.int .i64 t252] 26 (0,0)) (by (with_reducible repeat (first | refine blk_drewN ?_ _ | refine blk_drew ?_ | refine blk_alloc ?_ _));exact BK253.out) hb);have n3_:=Aside0.mk (blk_below (g:=gb260) (o:=.cells #[.slice Ao13 t254.length co13,.int .i64 t257,.int .i64 t258,.int .i64 t259] 31 (0,0)) (by (with_reducible repeat (first | refine blk_drewN ?_ _ | refine blk_drew ?_ | refine blk_alloc ?_ _));exact BK260.out) hb);have n4_:=Aside0.mk (below_step (by repeat (first | (with_reducible first | exact HB.out | apply below_alloc | apply pw_below_drewN | apply below_drew1 | refine below_set ?_ GE253.out | refine below_set ?_ GE260.out) | exact HB.out)) hb);clear HO_3;clear HO_261000;clear BK253;clear BK260;clear HB;have HO_3:=n0_;have HO_261000:=n1_;have BK253:=n2_;have BK260:=n3_;have HB:=n4_;clear n0_ n1_ n2_ n3_ n4_;(try clear hb);(try clear hb2);(try clear hk);(try clear hi)))
        go_ret
        exact ⟨by first | rfl | (simp [errW_none,errW_some] <;> rfl) | (simp [*,errW_none,errW_some] <;> rfl),by repeat (first | (with_reducible first | exact HB.out | apply below_alloc | apply pw_below_drewN | apply below_drew1 | refine below_set ?_ GE253.out | refine below_set ?_ GE260.out) | exact HB.out)⟩
      ·rw [if_neg c57] at H
       have c57b0 : (t250 == 0) = false:=beq_eq_false_iff_ne.mpr c57
       have c57b1 : (t250 != 0) = true:=bne_iff_ne.mpr c57
       obtain rfl:=Option.some.inj H
       obtain ⟨Ao65,co65,eo65⟩:=Kd.S_slice HO_3.out
       subst eo65
       go_wp2_with (first | ((with_reducible refine gate_callee (f:=10) rfl ?_);refine goesL_ (some 53) rfl rfl Tryd.func10 (by kernel_rfl) rfl #[.slice Ao65 t247.length co65] rfl (by (try simp only [List.map_toArray,List.map_cons,List.map_nil]);first | done | rfl | (simp only [List.length_drop,List.length_take];rfl)) ?_;(with_reducible refine (sigtext_Print.calls kj6 _ _ t247 t262 t263 _ ?side1 ?side2 A54.out (HG.out.below (by repeat (first | (with_reducible first | exact HB.out | apply below_alloc | apply pw_below_drewN | apply below_drew1 | refine below_set ?_ GE253.out | refine below_set ?_ GE260.out) | exact HB.out)))).mono ?_);(case side1 => repeat (first | exact (Kd.S_reads' HO_3.out).2.2 | (with_reducible refine Kd.C_alloc ?_ _) | (with_reducible refine Kd.C_drewN ?_ _) | (with_reducible refine Kd.C_drew ?_)));(case side2 => exact (Kd.S_reads' HO_3.out).2.1);rintro e w66 ⟨rfl,hb⟩;refine ⟨_,rfl,?_⟩;have n0_:=Aside0.mk (Kd.S_below (by (with_reducible repeat (first | apply Kd.S_alloc | apply Kd.S_drewN | apply Kd.S_drew));exact HO_3.out) hb);have n1_:=Aside0.mk (Kd.S_below (by (with_reducible repeat (first | apply Kd.S_alloc | apply Kd.S_drewN | apply Kd.S_drew));exact HO_261000.out) hb);have n2_:=Aside0.mk (blk_below (g:=gb253) (o:=.cells #[.int .i64 t251,.int .i64 t252] 26 (0,0)) (by (with_reducible repeat (first | refine blk_drewN ?_ _ | refine blk_drew ?_ | refine blk_alloc ?_ _));exact BK253.out) hb);have n3_:=Aside0.mk (blk_below (g:=gb260) (o:=.cells #[.slice Ao13 t254.length co13,.int .i64 t257,.int .i64 t258,.int .i64 t259] 31 (0,0)) (by (with_reducible repeat (first | refine blk_drewN ?_ _ | refine blk_drew ?_ | refine blk_alloc ?_ _));exact BK260.out) hb);have n4_:=Aside0.mk (below_step (by repeat (first | (with_reducible first | exact HB.out | apply below_alloc | apply pw_below_drewN | apply below_drew1 | refine below_set ?_ GE253.out | refine below_set ?_ GE260.out) | exact HB.out)) hb);clear HO_3;clear HO_261000;clear BK253;clear BK260;clear HB;have HO_3:=n0_;have HO_261000:=n1_;have BK253:=n2_;have BK260:=n3_;have HB:=n4_;clear n0_ n1_ n2_ n3_ n4_;(try clear hb);(try clear hb2);(try clear hk);(try clear hi)) | ((with_reducible refine gate_callee (f:=6) rfl ?_);refine goesL_ (some 56) rfl rfl Tryd.func6 (by kernel_rfl) rfl #[] rfl (by (try simp only [List.map_toArray,List.map_cons,List.map_nil]);first | done | rfl | (simp only [List.length_drop,List.length_take];rfl)) ?_;(with_reducible refine (tachographlaw10_fixed.calls kj6  true _ A55.out (HG.out.below (by repeat (first | (with_reducible first | exact HB.out | apply below_alloc | apply pw_below_drewN | apply below_drew1 | refine below_set ?_ GE253.out | refine below_set ?_ GE260.out) | exact HB.out)))).mono ?_);rintro e w67 ⟨rfl,hb⟩;refine ⟨_,rfl,?_⟩;have n0_:=Aside0.mk (Kd.S_below (by (with_reducible repeat (first | apply Kd.S_alloc | apply Kd.S_drewN | apply Kd.S_drew));exact HO_3.out) hb);have n1_:=Aside0.mk (Kd.S_below (by (with_reducible repeat (first | apply Kd.S_alloc | apply Kd.S_drewN | apply Kd.S_drew));exact HO_261000.out) hb);have n2_:=Aside0.mk (blk_below (g:=gb253) (o:=.cells #[.int .i64 t251,.int .i64 t252] 26 (0,0)) (by (with_reducible repeat (first | refine blk_drewN ?_ _ | refine blk_drew ?_ | refine blk_alloc ?_ _));exact BK253.out) hb);have n3_:=Aside0.mk (blk_below (g:=gb260) (o:=.cells #[.slice Ao13 t254.length co13,.int .i64 t257,.int .i64 t258,.int .i64 t259] 31 (0,0)) (by (with_reducible repeat (first | refine blk_drewN ?_ _ | refine blk_drew ?_ | refine blk_alloc ?_ _));exact BK260.out) hb);have n4_:=Aside0.mk (below_step (by repeat (first | (with_reducible first | exact HB.out | apply below_alloc | apply pw_below_drewN | apply below_drew1 | refine below_set ?_ GE253.out | refine below_set ?_ GE260.out) | exact HB.out)) hb);clear HO_3;clear HO_261000;clear BK253;clear BK260;clear HB;have HO_3:=n0_;have HO_261000:=n1_;have BK253:=n2_;have BK260:=n3_;have HB:=n4_;clear n0_ n1_ n2_ n3_ n4_;(try clear hb);(try clear hb2);(try clear hk);(try clear hi)))
       go_ret
       exact ⟨by first | rfl | (simp [errW_none,errW_some] <;> rfl) | (simp [*,errW_none,errW_some] <;> rfl),by repeat (first | (with_reducible first | exact HB.out | apply below_alloc | apply pw_below_drewN | apply below_drew1 | refine below_set ?_ GE253.out | refine below_set ?_ GE260.out) | exact HB.out)⟩
     ·replace c56:=Bool.eq_false_iff.mpr c56
      subst c56
      have H1 : (some false) = some r:=by rw [if_neg (show ¬ (false = true) by decide)] at H;exact H
      clear H
      have H:=H1
      clear H1
      obtain rfl:=Option.some.inj H
      obtain ⟨Ao68,co68,eo68⟩:=Kd.S_slice HO_3.out
      subst eo68
      go_wp2_with (first | ((with_reducible refine gate_callee (f:=10) rfl ?_);refine goesL_ (some 53) rfl rfl Tryd.func10 (by kernel_rfl) rfl #[.slice Ao68 t247.length co68] rfl (by (try simp only [List.map_toArray,List.map_cons,List.map_nil]);first | done | rfl | (simp only [List.length_drop,List.length_take];rfl)) ?_;(with_reducible refine (sigtext_Print.calls kj6 _ _ t247 t262 t263 _ ?side1 ?side2 A54.out (HG.out.below (by repeat (first | (with_reducible first | exact HB.out | apply below_alloc | apply pw_below_drewN | apply below_drew1 | refine below_set ?_ GE253.out | refine below_set ?_ GE260.out) | exact HB.out)))).mono ?_);(case side1 => repeat (first | exact (Kd.S_reads' HO_3.out).2.2 | (with_reducible refine Kd.C_alloc ?_ _) | (with_reducible refine Kd.C_drewN ?_ _) | (with_reducible refine Kd.C_drew ?_)));(case side2 => exact (Kd.S_reads' HO_3.out).2.1);rintro e w69 ⟨rfl,hb⟩;refine ⟨_,rfl,?_⟩;have n0_:=Aside0.mk (Kd.S_below (by (with_reducible repeat (first | apply Kd.S_alloc | apply Kd.S_drewN | apply Kd.S_drew));exact HO_3.out) hb);have n1_:=Aside0.mk (Kd.S_below (by (with_reducible repeat (first | apply Kd.S_alloc | apply Kd.S_drewN | apply Kd.S_drew));exact HO_261000.out) hb);have n2_:=Aside0.mk (blk_below (g:=gb253) (o:=.cells #[.int .i64 t251,.int .i64 t252] 26 (0,0)) (by (with_reducible repeat (first | refine blk_drewN ?_ _ | refine blk_drew ?_ | refine blk_alloc ?_ _));exact BK253.out) hb);have n3_:=Aside0.mk (blk_below (g:=gb260) (o:=.cells #[.slice Ao13 t254.length co13,.int .i64 t257,.int .i64 t258,.int .i64 t259] 31 (0,0)) (by (with_reducible repeat (first | refine blk_drewN ?_ _ | refine blk_drew ?_ | refine blk_alloc ?_ _));exact BK260.out) hb);have n4_:=Aside0.mk (below_step (by repeat (first | (with_reducible first | exact HB.out | apply below_alloc | apply pw_below_drewN | apply below_drew1 | refine below_set ?_ GE253.out | refine below_set ?_ GE260.out) | exact HB.out)) hb);clear HO_3;clear HO_261000;clear BK253;clear BK260;clear HB;have HO_3:=n0_;have HO_261000:=n1_;have BK253:=n2_;have BK260:=n3_;have HB:=n4_;clear n0_ n1_ n2_ n3_ n4_;(try clear hb);(try clear hb2);(try clear hk);(try clear hi)) | ((with_reducible refine gate_callee (f:=6) rfl ?_);refine goesL_ (some 56) rfl rfl Tryd.func6 (by kernel_rfl) rfl #[] rfl (by (try simp only [List.map_toArray,List.map_cons,List.map_nil]);first | done | rfl | (simp only [List.length_drop,List.length_take];rfl)) ?_;(with_reducible refine (tachographlaw10_fixed.calls kj6  false _ A55.out (HG.out.below (by repeat (first | (with_reducible first | exact HB.out | apply below_alloc | apply pw_below_drewN | apply below_drew1 | refine below_set ?_ GE253.out | refine below_set ?_ GE260.out) | exact HB.out)))).mono ?_);rintro e w70 ⟨rfl,hb⟩;refine ⟨_,rfl,?_⟩;have n0_:=Aside0.mk (Kd.S_below (by (with_reducible repeat (first | apply Kd.S_alloc | apply Kd.S_drewN | apply Kd.S_drew));exact HO_3.out) hb);have n1_:=Aside0.mk (Kd.S_below (by (with_reducible repeat (first | apply Kd.S_alloc | apply Kd.S_drewN | apply Kd.S_drew));exact HO_261000.out) hb);have n2_:=Aside0.mk (blk_below (g:=gb253) (o:=.cells #[.int .i64 t251,.int .i64 t252] 26 (0,0)) (by (with_reducible repeat (first | refine blk_drewN ?_ _ | refine blk_drew ?_ | refine blk_alloc ?_ _));exact BK253.out) hb);have n3_:=Aside0.mk (blk_below (g:=gb260) (o:=.cells #[.slice Ao13 t254.length co13,.int .i64 t257,.int .i64 t258,.int .i64 t259] 31 (0,0)) (by (with_reducible repeat (first | refine blk_drewN ?_ _ | refine blk_drew ?_ | refine blk_alloc ?_ _));exact BK260.out) hb);have n4_:=Aside0.mk (below_step (by repeat (first | (with_reducible first | exact HB.out | apply below_alloc | apply pw_below_drewN | apply below_drew1 | refine below_set ?_ GE253.out | refine below_set ?_ GE260.out) | exact HB.out)) hb);clear HO_3;clear HO_261000;clear BK253;clear BK260;clear HB;have HO_3:=n0_;have HO_261000:=n1_;have BK253:=n2_;have BK260:=n3_;have HB:=n4_;clear n0_ n1_ n2_ n3_ n4_;(try clear hb);(try clear hb2);(try clear hk);(try clear hi)))
      go_ret
      exact ⟨by first | rfl | (simp [errW_none,errW_some] <;> rfl) | (simp [*,errW_none,errW_some] <;> rfl),by repeat (first | (with_reducible first | exact HB.out | apply below_alloc | apply pw_below_drewN | apply below_drew1 | refine below_set ?_ GE253.out | refine below_set ?_ GE260.out) | exact HB.out)⟩

/-- THE ONE PURE STATEMENT of tachographlaw10_SigtextParses: yours. -/
def tachographlaw10_SigtextParses.Pure : Prop:=∀ (a0 : ByteArray),a0.size ≤ 140737488351232 → ∃ k,tachographlaw10_SigtextParses.f k a0 = some true
theorem tachographlaw10_SigtextParses.walk (P : tachographlaw10_SigtextParses.Pure) (a0 : ByteArray) (w : World) (hg : Go.Proofs.YtmmfakdncjeoeacDoorAid.Glob w) (w0 : a0.size ≤ 140737488351232) :
  Calls Tryd.prog 4 #[.string a0] w fun e w' => e = .returned (.bool true) ∧ Below w.heap.size w w':=by
 obtain ⟨k,h⟩:=P a0 w0
 refine (tachographlaw10_SigtextParses.calls k a0 true w h hg).mono ?_
 rintro e w' ⟨rfl,hd⟩
 exact ⟨rfl,hd⟩

/-! ### tachographlaw09_Great: function 11 -/
def tachographlaw09_Great.l0 : Nat → List (S41) → List (S41) → Int → Int → Option (Bool)
 | 0, _, _, _, _ => none
 | k + 1, x0, x5, x6, x7 => if x7 < x6 then (if 0 ≤ x7 then (if x7 < (x5.length : Int) then (if (((rd_T41 x5 x7).f1).length : Int) > 30 then (some true) else (if (((rd_T41 x5 x7).f0).size : Int) > 100 then (some true) else (tachographlaw09_Great.l0 k x0 x5 x6 (wrap64 (x7 + 1))))) else (none)) else (none)) else (some (decide ((x0.length : Int) > 100)))
def tachographlaw09_Great.f (k : Nat) (l0 : List (S41)) : Option (Bool) := tachographlaw09_Great.l0 k l0 l0 (l0.length : Int) 0
theorem tachographlaw09_Great.mono_l : ∀ k, (∀ y0 y1 y2 y3, LeO (tachographlaw09_Great.l0 k y0 y1 y2 y3) (tachographlaw09_Great.l0 (k + 1) y0 y1 y2 y3))
 | 0 => fun _ _ _ _ r h => by simp [tachographlaw09_Great.l0] at h
 | k + 1 => by
  have ih0 := tachographlaw09_Great.mono_l k
  ·intro y0 y1 y2 y3
   unfold tachographlaw09_Great.l0
   repeat' first
   | (with_reducible exact ih0 _ _ _ _)
   | (with_reducible exact LeO.refl _)
   | (with_reducible exact LeO.none _)
   | (with_reducible refine LeO.ite ?_ ?_)
   | (with_reducible refine LeO.bind ?_ (fun _ => ?_))
   | exact ih0 _ _ _ _
   | exact LeO.none _
   | refine LeO.ite ?_ ?_
   | refine LeO.bind ?_ (fun _ => ?_)
theorem tachographlaw09_Great.mono : ∀ a0 k, LeO (tachographlaw09_Great.f k a0) (tachographlaw09_Great.f (k + 1) a0) := by
 intro a0 k
 have ih0 := tachographlaw09_Great.mono_l k
 unfold tachographlaw09_Great.f
 repeat' first
   | (with_reducible exact ih0 _ _ _ _)
   | (with_reducible exact LeO.refl _)
   | (with_reducible exact LeO.none _)
   | (with_reducible refine LeO.ite ?_ ?_)
   | (with_reducible refine LeO.bind ?_ (fun _ => ?_))
   | exact ih0 _ _ _ _
   | exact LeO.none _
   | refine LeO.ite ?_ ?_
   | refine LeO.bind ?_ (fun _ => ?_)
set_option maxHeartbeats 8000000 in
set_option maxRecDepth 100000 in
theorem tachographlaw09_Great.calls (k : Nat) (A0 : Option Addr) (c0 : Nat) (l0 : List (S41)) (r : Bool) (w : World) (hr0 : Kd.C k41 w A0 l0.length l0) (hc0 : l0.length ≤ c0) (h : tachographlaw09_Great.f k l0 = some r) :
  Calls Tryd.prog 11 #[.slice A0 l0.length c0] w fun e w' => e = .returned (.bool r) ∧ Below w.heap.size w w':=by
 have hu41:=Tryd.underlying41
 have HR0:=Aside0.mk hr0
 have HC0:=Aside0.mk hc0
 clear hr0 hc0
 have HB:=Aside0.mk (Below.refl w.heap.size w)
 have H : (tachographlaw09_Great.l0 k l0 l0 (l0.length : Int) 0) = some r:=h
 clear h
 have H':=Aside0.mk H
 clear H
 go_enter Tryd.func11,Tryd.ntmps11
 go_wp2
 go_loopg [7] k (fun kq v7 w' => ∃ (x7_1 : Int),v7 = .int .i64 x7_1 ∧ Aside0 (tachographlaw09_Great.l0 kq l0 l0 (l0.length : Int) x7_1 = some r) ∧ Aside0 (kq ≤ k) ∧ Aside0 (Below w.heap.size w w'))
 case atStart => exact ⟨(0),(by first | rfl | (simp;done) | (simp [*];done)),H',⟨Nat.le_refl _⟩,⟨by repeat (first | (with_reducible first | exact HB.out | apply below_alloc | apply pw_below_drewN | apply below_drew1) | exact HB.out)⟩⟩
 case round =>
  clear H'
  try clear c1
  obtain ⟨x7_1,rfl,HA,HK1,HB⟩:=hrel
  cases gk with
  | zero => exact absurd HA.out (by simp [tachographlaw09_Great.l0])
  | succ k1 =>
   have H:=HA.out
   clear HA
   simp only [tachographlaw09_Great.l0] at H
   by_cases c2 : x7_1 < (l0.length : Int)
   ·rw [if_pos c2] at H
    have c2b0 : decide (x7_1 < (l0.length : Int)) = true:=decide_eq_true c2
    clear c2
    by_cases c3 : 0 ≤ x7_1
    ·rw [if_pos c3] at H
     have c3b0 : decide (0 ≤ x7_1) = true:=decide_eq_true c3
     clear c3
     by_cases c4 : x7_1 < (l0.length : Int)
     ·rw [if_pos c4] at H
      have c4b0 : decide (x7_1 < (l0.length : Int)) = true:=decide_eq_true c4
      clear c4
      by_cases c5 : (((rd_T41 l0 x7_1).f1).length : Int) > 30
      ·rw [if_pos c5] at H
       have c5b0 : decide (30 < (((rd_T41 l0 x7_1).f1).length : Int)) = true:=decide_eq_true c5
       have c5b1 : decide (30 < ((rd_T41 l0 x7_1).f1).length) = true:=decide_eq_true (by omega)
       clear c5
       obtain rfl:=Option.some.inj H
       have p265 : 0 ≤ (x7_1 : Int):=of_decide_eq_true (by first | (with_reducible assumption) | assumption)
       have q265 : x7_1 < (l0.length : Int):=of_decide_eq_true (by first | (with_reducible assumption) | assumption)
       obtain ⟨ad265,A265_1,c265_1,e265,hx265_0,hx265_1,hl265_1,hi265_1⟩:=at_T41 HR0.out x7_1 p265 q265
       cases e265
       replace hx265_0:=(HB.out.cell (World.block_lt_of_cell? w _ hx265_0)).trans hx265_0
       replace hx265_1:=(HB.out.cell (World.block_lt_of_cell? w _ hx265_1)).trans hx265_1
       have HR265_1:=Aside0.mk hi265_1
       have HC265_1:=Aside0.mk hl265_1
       clear hi265_1 hl265_1
       replace p265:=eq_true p265
       replace q265:=eq_true q265
       go_wp2_with (first | ((with_reducible refine gate_dst (N:=4) rfl ?_);(try (refine gate_guard (by rfl) ?_;dsimp only));refine box_event ?hg (N:=4) ?hd (cs:=#[.string (⟨#[]⟩ : ByteArray),.slice none 0 0]) (t:=41) ?hr ?_;(case hd => rfl);(case hg => rfl);(case hr => first | (go_simp;done) | (go_simp;rfl));intro gb266 hg w6 hbox hb;have n0_:=Aside0.mk (below_step (by repeat (first | (with_reducible first | exact HB.out | apply below_alloc | apply pw_below_drewN | apply below_drew1) | exact HB.out)) hb);have n1_:=Aside0.mk (hbox);have n2_:=Aside0.mk ((by rw [hg];exact (below_size (by repeat (first | (with_reducible first | exact HB.out | apply below_alloc | apply pw_below_drewN | apply below_drew1) | exact HB.out))) : w.heap.size ≤ gb266));have n3_:=Aside0.mk ((by rw [hg];exact (below_size (by repeat (first | (with_reducible first | exact HB.out | apply below_alloc | apply pw_below_drewN | apply below_drew1) | exact HB.out))) : w.heap.size ≤ gb266));clear HB;have HB:=n0_;have BK266:=n1_;have GW266:=n2_;have GE266:=n3_;clear n0_ n1_ n2_ n3_;clear hb hbox hg;have hcz7_0 : w6.cell? ⟨gb266,0,none⟩ = some (.string (⟨#[]⟩ : ByteArray)):=(blk_cell BK266.out 0).trans rfl;have hcz7_1 : w6.cell? ⟨gb266,1,none⟩ = some (.slice none 0 0):=(blk_cell BK266.out 1).trans rfl;have hfz7_0:=blk_frozen BK266.out 0;have hfz7_1:=blk_frozen BK266.out 1))
       go_ret
       exact ⟨by first | rfl | (simp [errW_none,errW_some] <;> rfl) | (simp [*,errW_none,errW_some] <;> rfl),by repeat (first | (with_reducible first | exact HB.out | apply below_alloc | apply pw_below_drewN | apply below_drew1 | refine below_set ?_ GE266.out) | exact HB.out)⟩
      ·rw [if_neg c5] at H
       have c5b0 : decide (30 < (((rd_T41 l0 x7_1).f1).length : Int)) = false:=decide_eq_false c5
       have c5b1 : decide (30 < ((rd_T41 l0 x7_1).f1).length) = false:=decide_eq_false (by omega)
       clear c5
       by_cases c8 : (((rd_T41 l0 x7_1).f0).size : Int) > 100
       ·rw [if_pos c8] at H
        have c8b0 : decide (100 < (((rd_T41 l0 x7_1).f0).size : Int)) = true:=decide_eq_true c8
        have c8b1 : decide (100 < ((rd_T41 l0 x7_1).f0).size) = true:=decide_eq_true (by omega)
        clear c8
        obtain rfl:=Option.some.inj H
        have p265 : 0 ≤ (x7_1 : Int):=of_decide_eq_true (by first | (with_reducible assumption) | assumption)
        have q265 : x7_1 < (l0.length : Int):=of_decide_eq_true (by first | (with_reducible assumption) | assumption)
        obtain ⟨ad265,A265_1,c265_1,e265,hx265_0,hx265_1,hl265_1,hi265_1⟩:=at_T41 HR0.out x7_1 p265 q265
        cases e265
        replace hx265_0:=(HB.out.cell (World.block_lt_of_cell? w _ hx265_0)).trans hx265_0
        replace hx265_1:=(HB.out.cell (World.block_lt_of_cell? w _ hx265_1)).trans hx265_1
        have HR265_1:=Aside0.mk hi265_1
        have HC265_1:=Aside0.mk hl265_1
        clear hi265_1 hl265_1
        replace p265:=eq_true p265
        replace q265:=eq_true q265
        go_wp2_with (first | ((with_reducible refine gate_dst (N:=4) rfl ?_);(try (refine gate_guard (by rfl) ?_;dsimp only));refine box_event ?hg (N:=4) ?hd (cs:=#[.string (⟨#[]⟩ : ByteArray),.slice none 0 0]) (t:=41) ?hr ?_;(case hd => rfl);(case hg => rfl);(case hr => first | (go_simp;done) | (go_simp;rfl));intro gb266 hg w9 hbox hb;have n0_:=Aside0.mk (below_step (by repeat (first | (with_reducible first | exact HB.out | apply below_alloc | apply pw_below_drewN | apply below_drew1) | exact HB.out)) hb);have n1_:=Aside0.mk (hbox);have n2_:=Aside0.mk ((by rw [hg];exact (below_size (by repeat (first | (with_reducible first | exact HB.out | apply below_alloc | apply pw_below_drewN | apply below_drew1) | exact HB.out))) : w.heap.size ≤ gb266));have n3_:=Aside0.mk ((by rw [hg];exact (below_size (by repeat (first | (with_reducible first | exact HB.out | apply below_alloc | apply pw_below_drewN | apply below_drew1) | exact HB.out))) : w.heap.size ≤ gb266));clear HB;have HB:=n0_;have BK266:=n1_;have GW266:=n2_;have GE266:=n3_;clear n0_ n1_ n2_ n3_;clear hb hbox hg;have hcz10_0 : w9.cell? ⟨gb266,0,none⟩ = some (.string (⟨#[]⟩ : ByteArray)):=(blk_cell BK266.out 0).trans rfl;have hcz10_1 : w9.cell? ⟨gb266,1,none⟩ = some (.slice none 0 0):=(blk_cell BK266.out 1).trans rfl;have hfz10_0:=blk_frozen BK266.out 0;have hfz10_1:=blk_frozen BK266.out 1))
        go_ret
        exact ⟨by first | rfl | (simp [errW_none,errW_some] <;> rfl) | (simp [*,errW_none,errW_some] <;> rfl),by repeat (first | (with_reducible first | exact HB.out | apply below_alloc | apply pw_below_drewN | apply below_drew1 | refine below_set ?_ GE266.out) | exact HB.out)⟩
       ·rw [if_neg c8] at H
        have c8b0 : decide (100 < (((rd_T41 l0 x7_1).f0).size : Int)) = false:=decide_eq_false c8
        have c8b1 : decide (100 < ((rd_T41 l0 x7_1).f0).size) = false:=decide_eq_false (by omega)
        clear c8
        have H':=Aside0.mk H
        clear H
        have p265 : 0 ≤ (x7_1 : Int):=of_decide_eq_true (by first | (with_reducible assumption) | assumption)
        have q265 : x7_1 < (l0.length : Int):=of_decide_eq_true (by first | (with_reducible assumption) | assumption)
        obtain ⟨ad265,A265_1,c265_1,e265,hx265_0,hx265_1,hl265_1,hi265_1⟩:=at_T41 HR0.out x7_1 p265 q265
        cases e265
        replace hx265_0:=(HB.out.cell (World.block_lt_of_cell? w _ hx265_0)).trans hx265_0
        replace hx265_1:=(HB.out.cell (World.block_lt_of_cell? w _ hx265_1)).trans hx265_1
        have HR265_1:=Aside0.mk hi265_1
        have HC265_1:=Aside0.mk hl265_1
        clear hi265_1 hl265_1
        replace p265:=eq_true p265
        replace q265:=eq_true q265
        go_wp2_with (first | ((with_reducible refine gate_dst (N:=4) rfl ?_);(try (refine gate_guard (by rfl) ?_;dsimp only));refine box_event ?hg (N:=4) ?hd (cs:=#[.string (⟨#[]⟩ : ByteArray),.slice none 0 0]) (t:=41) ?hr ?_;(case hd => rfl);(case hg => rfl);(case hr => first | (go_simp;done) | (go_simp;rfl));intro gb266 hg w11 hbox hb;have n0_:=Aside0.mk (below_step (by repeat (first | (with_reducible first | exact HB.out | apply below_alloc | apply pw_below_drewN | apply below_drew1) | exact HB.out)) hb);have n1_:=Aside0.mk (hbox);have n2_:=Aside0.mk ((by rw [hg];exact (below_size (by repeat (first | (with_reducible first | exact HB.out | apply below_alloc | apply pw_below_drewN | apply below_drew1) | exact HB.out))) : w.heap.size ≤ gb266));have n3_:=Aside0.mk ((by rw [hg];exact (below_size (by repeat (first | (with_reducible first | exact HB.out | apply below_alloc | apply pw_below_drewN | apply below_drew1) | exact HB.out))) : w.heap.size ≤ gb266));clear HB;have HB:=n0_;have BK266:=n1_;have GW266:=n2_;have GE266:=n3_;clear n0_ n1_ n2_ n3_;clear hb hbox hg;have hcz12_0 : w11.cell? ⟨gb266,0,none⟩ = some (.string (⟨#[]⟩ : ByteArray)):=(blk_cell BK266.out 0).trans rfl;have hcz12_1 : w11.cell? ⟨gb266,1,none⟩ = some (.slice none 0 0):=(blk_cell BK266.out 1).trans rfl;have hfz12_0:=blk_frozen BK266.out 0;have hfz12_1:=blk_frozen BK266.out 1))
        go_roundg k1
        case measure => have:=HK1.out;omega
        case rel => exact ⟨(wrap64 (x7_1 + 1)),(by first | rfl | (simp;done) | (simp [*];done)),H',⟨by have:=HK1.out;omega⟩,⟨by repeat (first | (with_reducible first | exact HB.out | apply below_alloc | apply pw_below_drewN | apply below_drew1 | refine below_set ?_ GE266.out) | exact HB.out)⟩⟩
     ·rw [if_neg c4] at H
      exact absurd H (by simp)
    ·rw [if_neg c3] at H
     exact absurd H (by simp)
   ·rw [if_neg c2] at H
    have c2b0 : decide (x7_1 < (l0.length : Int)) = false:=decide_eq_false c2
    clear c2
    obtain rfl:=Option.some.inj H
    go_wp2
    go_ret
    exact ⟨by first | rfl | (simp [errW_none,errW_some] <;> rfl) | (simp [*,errW_none,errW_some] <;> rfl),by repeat (first | (with_reducible first | exact HB.out | apply below_alloc | apply pw_below_drewN | apply below_drew1) | exact HB.out)⟩

end Go.Proofs.YtmmfakdncjeoeacDoor.PE
