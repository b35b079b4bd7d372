-- Contracts of Go functions, each with its plain Lean function: written by wip/tools/myprint.py of this work (the kit's print, with contracts proved by hand spliced in).
import Derived.Test.YtmmfakdncjeoeaaPCx0
import Derived.Test.YtmmfakdncjeoeaaPCx3
import Derived.Test.YtmmfakdncjeoeaaPCx6
import Derived.Test.YtmmfakdncjeoeaaPCx7
namespace Go.Proofs.Ytmmfakdncjeoeaa.PC
open Go.RowKit Go.Proofs.YtmmfakdncjeoeaaW.PrintWords Go.Proofs.YtmmfakdncjeoeaaW.PrintLast Go.Proofs.YtmmfakdncjeoeaaW.PrintMore
attribute [local go_sem] max2_int min2_int max_two min_two max_three min_three max_four min_four   -- for this text's walks alone
set_option linter.unusedVariables false
set_option linter.unusedSimpArgs false

/-! ### cut_Blocks: function 18 -/
mutual
def cut_Blocks.l0 : Nat → List (S53) → List (S56) → Int → List (S56) → Int → Int → Option ((List (List (S56))) × Int)
 | 0, _, _, _, _, _, _ => none
 | k + 1, x0, x1, x2, x26, x27, x28 => if x28 < x27 then (if 0 ≤ x28 then (if x28 < (x26.length : Int) then ((cut_Fits.f k x0 ((rd_T56 x26 x28).f0) ((rd_T56 x26 x28).f1)).bind fun t220 => (if t220 = true then (cut_Blocks.l0 k x0 x1 x2 x26 x27 (wrap64 (x28 + 1))) else (some (([] : List (List (S56))), 6)))) else (none)) else (none)) else (cut_Blocks.l1 k x0 (mn x2 1024) ([] : List (List (S56))) x1)
def cut_Blocks.l1 : Nat → List (S53) → Int → List (List (S56)) → List (S56) → Option ((List (List (S56))) × Int)
 | 0, _, _, _, _ => none
 | k + 1, x0, x2, x12, x13 => if (x13.length : Int) > 0 then ((cut_end.f k x0 x13 x2).bind fun t221 => (if 0 ≤ t221 then (if t221 ≤ (x13.length : Int) then ((trace_Clone.f k (x13.take (t221 : Int).toNat)).bind fun t227 => (if x12.length < 5864062014805 then (cut_Blocks.l1 k x0 x2 (x12 ++ [t227]) (x13.drop (t221 : Int).toNat)) else (none))) else (none)) else (none))) else (some (x12, 0))
end
def cut_Blocks.f (k : Nat) (l0 : List (S53)) (l1 : List (S56)) (a2 : Int) : Option ((List (List (S56))) × Int) := if a2 < 1 then (some (([] : List (List (S56))), 1)) else ((trace_Check.f k l0 l1).bind fun bt216 => (if bt216.1 = 0 then (cut_Blocks.l0 k l0 l1 a2 l1 (l1.length : Int) 0) else (some (([] : List (List (S56))), bt216.1))))
theorem cut_Blocks.mono_l : ∀ k, (∀ y0 y1 y2 y3 y4 y5, LeO (cut_Blocks.l0 k y0 y1 y2 y3 y4 y5) (cut_Blocks.l0 (k + 1) y0 y1 y2 y3 y4 y5)) ∧ (∀ y0 y1 y2 y3, LeO (cut_Blocks.l1 k y0 y1 y2 y3) (cut_Blocks.l1 (k + 1) y0 y1 y2 y3))
 | 0 => ⟨fun _ _ _ _ _ _ r h => by simp [cut_Blocks.l0] at h, fun _ _ _ _ r h => by simp [cut_Blocks.l1] at h⟩
 | k + 1 => by
  obtain ⟨ih0, ih1⟩ := cut_Blocks.mono_l k
  refine ⟨?_, ?_⟩
  ·intro y0 y1 y2 y3 y4 y5
   unfold cut_Blocks.l0
   repeat' first
   | (with_reducible exact ih0 _ _ _ _ _ _)
   | (with_reducible exact ih1 _ _ _ _)
   | (with_reducible exact cut_Fits.mono _ _ _ _)
   | (with_reducible exact cut_end.mono _ _ _ _)
   | (with_reducible exact trace_Check.mono _ _ _)
   | (with_reducible exact trace_Clone.mono _ _)
   | (with_reducible exact LeO.refl _)
   | (with_reducible exact LeO.none _)
   | (with_reducible refine LeO.ite ?_ ?_)
   | (with_reducible refine LeO.bind ?_ (fun _ => ?_))
   | exact ih0 _ _ _ _ _ _
   | exact ih1 _ _ _ _
   | exact cut_Fits.mono _ _ _ _
   | exact cut_end.mono _ _ _ _
   | exact trace_Check.mono _ _ _
   | exact trace_Clone.mono _ _
   | exact LeO.none _
   | refine LeO.ite ?_ ?_
   | refine LeO.bind ?_ (fun _ => ?_)
  ·intro y0 y1 y2 y3
   unfold cut_Blocks.l1
   repeat' first
   | (with_reducible exact ih0 _ _ _ _ _ _)
   | (with_reducible exact ih1 _ _ _ _)
   | (with_reducible exact cut_Fits.mono _ _ _ _)
   | (with_reducible exact cut_end.mono _ _ _ _)
   | (with_reducible exact trace_Check.mono _ _ _)
   | (with_reducible exact trace_Clone.mono _ _)
   | (with_reducible exact LeO.refl _)
   | (with_reducible exact LeO.none _)
   | (with_reducible refine LeO.ite ?_ ?_)
   | (with_reducible refine LeO.bind ?_ (fun _ => ?_))
   | exact ih0 _ _ _ _ _ _
   | exact ih1 _ _ _ _
   | exact cut_Fits.mono _ _ _ _
   | exact cut_end.mono _ _ _ _
   | exact trace_Check.mono _ _ _
   | exact trace_Clone.mono _ _
   | exact LeO.none _
   | refine LeO.ite ?_ ?_
   | refine LeO.bind ?_ (fun _ => ?_)
theorem cut_Blocks.mono : ∀ a0 a1 a2 k, LeO (cut_Blocks.f k a0 a1 a2) (cut_Blocks.f (k + 1) a0 a1 a2) := by
 intro a0 a1 a2 k
 obtain ⟨ih0, ih1⟩ := cut_Blocks.mono_l k
 unfold cut_Blocks.f
 repeat' first
   | (with_reducible exact ih0 _ _ _ _ _ _)
   | (with_reducible exact ih1 _ _ _ _)
   | (with_reducible exact cut_Fits.mono _ _ _ _)
   | (with_reducible exact cut_end.mono _ _ _ _)
   | (with_reducible exact trace_Check.mono _ _ _)
   | (with_reducible exact trace_Clone.mono _ _)
   | (with_reducible exact LeO.refl _)
   | (with_reducible exact LeO.none _)
   | (with_reducible refine LeO.ite ?_ ?_)
   | (with_reducible refine LeO.bind ?_ (fun _ => ?_))
   | exact ih0 _ _ _ _ _ _
   | exact ih1 _ _ _ _
   | exact cut_Fits.mono _ _ _ _
   | exact cut_end.mono _ _ _ _
   | exact trace_Check.mono _ _ _
   | exact trace_Clone.mono _ _
   | exact LeO.none _
   | refine LeO.ite ?_ ?_
   | refine LeO.bind ?_ (fun _ => ?_)
def cut_Blocks.T17 : Bool × List (List Nat × List Nat) := (true, [([], []), ([], []), ([], []), ([1, 2], [1, 2]), ([3], [3]), ([4], [4]), ([0, 5, 4], [0, 5]), ([], []), ([], []), ([7, 8], [7, 8]), ([6, 6, 0, 1, 2, 3, 4, 5, 6], [0, 6]), ([9, 10, 0, 1, 2, 3, 4, 5, 6, 7, 8, 9, 10], [1, 7, 9])])
def cut_Blocks.B17 : List Nat := [0, 0, 0, 6, 14, 30, 63, 0, 0, 384, 127, 2047]
theorem cut_Blocks.tab17 : rtab .any (opsOf Try.f18 17) = cut_Blocks.T17 := by kernel_rfl
theorem cut_Blocks.bits17 : waitsOk cut_Blocks.T17.2 cut_Blocks.B17 = true := by kernel_rfl
set_option maxHeartbeats 8000000 in
set_option maxRecDepth 100000 in
theorem cut_Blocks.calls (k : Nat) (A0 : Option Addr) (c0 : Nat) (l0 : List (S53)) (P1_ : Nat → Prop) (A1 : Option Addr) (c1 : Nat) (l1 : List (S56)) (a2 : Int) (r1 : List (List (S56))) (r2 : Int) (w : World) (hr0 : Kd.C k53 w A0 l0.length l0) (hc0 : l0.length ≤ c0) (hs1 : Kd.V k56 56 w w.heap.size (fun k_ => P1_ k_) (.slice A1 l1.length c1) l1) (h : cut_Blocks.f k l0 l1 a2 = some (r1,r2)) :
  Calls Try.prog 18 #[.slice A0 l0.length c0,.slice A1 l1.length c1,.int .i64 a2] w fun e w' => ∃ v0_ : Value,e = .returned (.tuple #[v0_,.int .i64 r2]) ∧ Kd.R (Kd.slice 56 k56) 23 w' w.heap.size (fun k_ => (w.heap.size ≤ k_)) v0_ r1 ∧ Below w.heap.size w w':=by
 have hu56:=Try.underlying56
 have HR0:=Aside0.mk hr0
 have HC0:=Aside0.mk hc0
 clear hr0 hc0
 have HO1:=Aside0.mk (show Kd.V k56 56 w w.heap.size (fun k_ => (P1_ k_ ∨ w.heap.size ≤ k_)) (.slice A1 l1.length c1) l1 from Kd.V_mono hs1 (fun k_ hk => .inl hk))
 have HB:=Aside0.mk (Below.refl w.heap.size w)
 have H : (if a2 < 1 then (some (([] : List (List (S56))),1)) else ((trace_Check.f k l0 l1).bind fun bt216 => (if bt216.1 = 0 then (cut_Blocks.l0 k l0 l1 a2 l1 (l1.length : Int) 0) else (some (([] : List (List (S56))),bt216.1))))) = some (r1,r2):=h
 clear h
 by_cases c4 : a2 < 1
 ·rw [if_pos c4] at H
  have c4b0 : decide (a2 < 1) = true:=decide_eq_true c4
  clear c4
  simp only [Option.some.injEq,Prod.mk.injEq] at H
  obtain ⟨rfl,rfl⟩:=H
  go_enter Try.func18,Try.ntmps18
  go_wp2
  go_ret2
  exact ⟨_,by first | rfl | (simp [errW_none,errW_some] <;> rfl) | (simp [*,errW_none,errW_some] <;> rfl),by first | exact Kd.R_nil _ _ _ _ _ | exact Kd.N_nil _ _ _ _ _ | exact Kd.V_nil _ _ _ _ _ | exact Kd.Q_nil _ _ _ _ _ | exact Kd.S_nil _ _ _ _ _,by repeat (first | (with_reducible first | exact HB.out | apply below_alloc | apply pw_below_drewN | apply below_drew1) | exact HB.out)⟩
 ·rw [if_neg c4] at H
  have c4b0 : decide (a2 < 1) = false:=decide_eq_false c4
  clear c4
  replace H:=Option.bind_eq_some_iff.mp H
  obtain ⟨⟨t216,t217⟩,A50,H⟩:=H
  replace H : (if t216 = 0 then (cut_Blocks.l0 k l0 l1 a2 l1 (l1.length : Int) 0) else (some (([] : List (List (S56))),t216))) = some (r1,r2):=H
  have A5:=Aside0.mk A50
  clear A50
  by_cases c6 : t216 = 0
  ·rw [if_pos c6] at H
   have c6b0 : (t216 == 0) = true:=beq_iff_eq.mpr c6
   have c6b1 : (t216 != 0) = false:=bne_eq_false_iff_eq.mpr c6
   clear c6
   have H':=Aside0.mk H
   clear H
   go_enter Try.func18,Try.ntmps18
   go_wp2_with (first | ((with_reducible refine gate_callee (f:=16) rfl ?_);refine goesL_ (some 20) rfl rfl Try.func16 (by kernel_rfl) rfl #[.slice A0 l0.length c0,.slice A1 l1.length c1] rfl (by (try simp only [List.map_toArray,List.map_cons,List.map_nil]);first | done | rfl | (simp only [List.length_drop,List.length_take];rfl)) ?_;(with_reducible refine (trace_Check.calls k _ _ l0 _ _ l1 t216 t217 _ ?side1 ?side2 ?side3 ?side4 A5.out).mono ?_);(case side1 => repeat (first | exact HR0.out | (with_reducible refine Kd.C_alloc ?_ _) | (with_reducible refine Kd.C_drewN ?_ _) | (with_reducible refine Kd.C_drew ?_)));(case side2 => exact HC0.out);(case side3 => repeat (first | exact (Kd.V_reads' HO1.out).2.2 | (with_reducible refine Kd.C_alloc ?_ _) | (with_reducible refine Kd.C_drewN ?_ _) | (with_reducible refine Kd.C_drew ?_)));(case side4 => exact (Kd.V_reads' HO1.out).2.1);rintro e w7 ⟨rfl,hb⟩;refine ⟨_,rfl,?_⟩;have n0_:=Aside0.mk (Kd.V_below (by (with_reducible repeat (first | apply Kd.V_alloc | apply Kd.V_drewN | apply Kd.V_drew));exact HO1.out) hb);have n1_:=Aside0.mk (below_step (by repeat (first | (with_reducible first | exact HB.out | apply below_alloc | apply pw_below_drewN | apply below_drew1) | exact HB.out)) hb);clear HO1;clear HB;have HO1:=n0_;have HB:=n1_;clear n0_ n1_;(try clear hb);(try clear hb2);(try clear hk);(try clear hi)))
   go_loopg [28] k (fun kq v28 w' => ∃ (x28_1 : Int),v28 = .int .i64 x28_1 ∧ Aside0 (cut_Blocks.l0 kq l0 l1 a2 l1 (l1.length : Int) x28_1 = some (r1,r2)) ∧ Aside0 (kq ≤ k) ∧ Aside0 (Kd.V k56 56 w' w.heap.size (fun k_ => (P1_ k_ ∨ w.heap.size ≤ k_)) (.slice A1 l1.length c1) l1) ∧ Aside0 (Kd.V k56 56 w' w.heap.size (fun k_ => (P1_ k_ ∨ w.heap.size ≤ k_)) (.slice A1 l1.length c1) l1) ∧ Aside0 (Below w.heap.size w w'))
   case atStart => exact ⟨(0),(by first | rfl | (simp;done) | (simp [*];done)),H',⟨Nat.le_refl _⟩,⟨by (with_reducible repeat (first | apply Kd.V_alloc | apply Kd.V_drewN | apply Kd.V_drew));exact HO1.out⟩,⟨by (with_reducible repeat (first | apply Kd.V_alloc | apply Kd.V_drewN | apply Kd.V_drew));exact HO1.out⟩,⟨by repeat (first | (with_reducible first | exact HB.out | apply below_alloc | apply pw_below_drewN | apply below_drew1) | exact HB.out)⟩⟩
   case round =>
    clear H'
    try clear c1
    try clear p2
    try clear c4
    try clear c4b0
    try clear c6
    try clear c6b0
    try clear c6b1
    obtain ⟨x28_1,rfl,HA,HK1,HO_1,HO_26,HB⟩:=hrel
    cases gk with
    | zero => exact absurd HA.out (by simp [cut_Blocks.l0])
    | succ k1 =>
     have H:=HA.out
     clear HA
     simp only [cut_Blocks.l0] at H
     by_cases c8 : x28_1 < (l1.length : Int)
     ·rw [if_pos c8] at H
      have c8b0 : decide (x28_1 < (l1.length : Int)) = true:=decide_eq_true c8
      clear c8
      by_cases c9 : 0 ≤ x28_1
      ·rw [if_pos c9] at H
       have c9b0 : decide (0 ≤ x28_1) = true:=decide_eq_true c9
       clear c9
       by_cases c10 : x28_1 < (l1.length : Int)
       ·rw [if_pos c10] at H
        have c10b0 : decide (x28_1 < (l1.length : Int)) = true:=decide_eq_true c10
        clear c10
        replace H:=Option.bind_eq_some_iff.mp H
        obtain ⟨t220,A110,H⟩:=H
        replace H : (if t220 = true then (cut_Blocks.l0 k1 l0 l1 a2 l1 (l1.length : Int) (wrap64 (x28_1 + 1))) else (some (([] : List (List (S56))),6))) = some (r1,r2):=H
        have A11:=Aside0.mk A110
        clear A110
        by_cases c12 : t220 = true
        ·subst c12
         have H1 : (cut_Blocks.l0 k1 l0 l1 a2 l1 (l1.length : Int) (wrap64 (x28_1 + 1))) = some (r1,r2):=by rw [if_pos rfl] at H;exact H
         clear H
         have H:=H1
         clear H1
         have H':=Aside0.mk H
         clear H
         have p218 : 0 ≤ (x28_1 : Int):=of_decide_eq_true (by first | (with_reducible assumption) | assumption)
         have q218 : x28_1 < (l1.length : Int):=of_decide_eq_true (by first | (with_reducible assumption) | assumption)
         obtain ⟨ad218,A218_1,c218_1,e218,hx218_0,hx218_1,hl218_1,hi218_1⟩:=at_T56 (Kd.V_reads' HO_26.out).2.2 x28_1 p218 q218
         cases e218
         obtain ⟨ce218,hce218,hMe218,hcc218⟩:=Kd.V_get HO_26.out z56 x28_1 p218 (by first | exact q218 | exact of_decide_eq_true (by first | (with_reducible assumption) | assumption) | (have e_:=(Kd.V_reads' HO_26.out).1;omega))
         obtain ⟨ua218_1,uc218_1,rfl,ul218_1,ge218_1⟩:=k56_openF hMe218
         have hv218_1:=hcc218 1 _ rfl
         rw [add_field _ _ 1 (by omega)] at hv218_1
         replace hv218_1:=Option.some.inj (hv218_1.symm.trans hx218_1)
         injection hv218_1 with hva_ hvn_ hvc_
         rw [hva_] at ge218_1
         rw [hvc_] at ul218_1
         have HL218_1:=Aside0.mk (show Kd.V k59 59 _ w.heap.size _ _ ((rd_T56 l1 x28_1).f1) from Kd.V_mk ul218_1 ge218_1)
         clear hva_ hvn_ hvc_ ge218_1 ul218_1
         clear hcc218 hce218
         have HR218_1:=Aside0.mk hi218_1
         have HC218_1:=Aside0.mk hl218_1
         clear hi218_1 hl218_1
         replace p218:=eq_true p218
         replace q218:=eq_true q218
         go_wp2_with (first | ((with_reducible refine gate_dst (N:=11) rfl ?_);refine box_event ?hg (N:=11) ?hd (cs:=#[.int .u64 0,.slice none 0 0]) (t:=56) ?hr ?_;(case hd => rfl);(case hg => rfl);(case hr => first | (go_simp;done) | (go_simp;rfl));intro gb219 hg w13 hbox hb;have n0_:=Aside0.mk (Kd.V_below (Kd.V_elderB (by (with_reducible repeat (first | apply Kd.V_alloc | apply Kd.V_drewN | apply Kd.V_drew));exact HO_1.out) gb219 (Nat.le_of_eq hg.symm)) hb);have n1_:=Aside0.mk (Kd.V_below (Kd.V_elderB (by (with_reducible repeat (first | apply Kd.V_alloc | apply Kd.V_drewN | apply Kd.V_drew));exact HO_26.out) gb219 (Nat.le_of_eq hg.symm)) hb);have n2_:=Aside0.mk (Kd.V_below (Kd.V_elderB (by (with_reducible repeat (first | apply Kd.V_alloc | apply Kd.V_drewN | apply Kd.V_drew));exact HL218_1.out) gb219 (Nat.le_of_eq hg.symm)) hb);have n3_:=Aside0.mk (Kd.C_below (by repeat (first | (with_reducible exact HR218_1.out) | (with_reducible refine Kd.C_alloc ?_ _) | (with_reducible refine Kd.C_drewN ?_ _) | (with_reducible refine Kd.C_drew ?_) | exact HR218_1.out)) hb);have n4_:=Aside0.mk (below_step (by repeat (first | (with_reducible first | exact HB.out | apply below_alloc | apply pw_below_drewN | apply below_drew1) | exact HB.out)) hb);have n5_:=Aside0.mk (hbox);have n6_:=Aside0.mk ((by rw [hg];exact (below_size (by repeat (first | (with_reducible first | exact HB.out | apply below_alloc | apply pw_below_drewN | apply below_drew1) | exact HB.out))) : w.heap.size ≤ gb219));have n7_:=Aside0.mk ((by rw [hg];exact (below_size (by repeat (first | (with_reducible first | exact HB.out | apply below_alloc | apply pw_below_drewN | apply below_drew1) | exact HB.out))) : w.heap.size ≤ gb219));clear HO_1;clear HO_26;clear HL218_1;clear HR218_1;clear HB;have HO_1:=n0_;have HO_26:=n1_;have HL218_1:=n2_;have HR218_1:=n3_;have HB:=n4_;have BK219:=n5_;have GW219:=n6_;have GE219:=n7_;clear n0_ n1_ n2_ n3_ n4_ n5_ n6_ n7_;clear hb hbox hg;have hcz14_0 : w13.cell? ⟨gb219,0,none⟩ = some (.int .u64 0):=(blk_cell BK219.out 0).trans rfl;have hcz14_1 : w13.cell? ⟨gb219,1,none⟩ = some (.slice none 0 0):=(blk_cell BK219.out 1).trans rfl;have hfz14_0:=blk_frozen BK219.out 0;have hfz14_1:=blk_frozen BK219.out 1) | ((with_reducible refine gate_store (t:=56) (p:=11) rfl ?_);refine store_event (t:=56) (p:=11) (v:=?vo_w15) (w1:=((w13.setCell ⟨gb219,0,none⟩ (.int .u64 ((rd_T56 l1 x28_1).f0))).setCell ⟨gb219,1,none⟩ (.slice A218_1 ((rd_T56 l1 x28_1).f1).length c218_1))) ?hg ?ho ?hn ?hr ?_;(case ho => rfl);(case hg => rfl);(case hn => rfl);(case hr => first | (go_simp;done) | (go_simp;rfl));intro w15 hw;have n0_ : Aside0 (Kd.V k56 56 w15 w.heap.size (fun k_ => (P1_ k_ ∨ w.heap.size ≤ k_) ∧ k_ ≠ gb219) (.slice (some ad218) l1.length c1) l1):=⟨(by rw [hw];exact (by (with_reducible repeat (first | apply Kd.V_alloc | apply Kd.V_drewN | apply Kd.V_drew));exact Kd.V_mono (Kd.V_far (p:=⟨gb219,1,none⟩) (Kd.V_far (p:=⟨gb219,0,none⟩) (Kd.V_mono HO_1.out (fun k_ hk => (⟨hk,hk.2⟩ : _ ∧ k_ ≠ gb219))) (fun _ hk => hk.2) (.int .u64 ((rd_T56 l1 x28_1).f0))) (fun _ hk => hk.2) (.slice A218_1 ((rd_T56 l1 x28_1).f1).length c218_1)) (fun _ hk => ⟨hk.1.1,hk.1.2⟩)))⟩;have n1_ : Aside0 (Kd.V k56 56 w15 w.heap.size (fun k_ => (P1_ k_ ∨ w.heap.size ≤ k_) ∧ k_ ≠ gb219) (.slice (some ad218) l1.length c1) l1):=⟨(by rw [hw];exact (by (with_reducible repeat (first | apply Kd.V_alloc | apply Kd.V_drewN | apply Kd.V_drew));exact Kd.V_mono (Kd.V_far (p:=⟨gb219,1,none⟩) (Kd.V_far (p:=⟨gb219,0,none⟩) (Kd.V_mono HO_26.out (fun k_ hk => (⟨hk,hk.2⟩ : _ ∧ k_ ≠ gb219))) (fun _ hk => hk.2) (.int .u64 ((rd_T56 l1 x28_1).f0))) (fun _ hk => hk.2) (.slice A218_1 ((rd_T56 l1 x28_1).f1).length c218_1)) (fun _ hk => ⟨hk.1.1,hk.1.2⟩)))⟩;have n2_ : Aside0 (Kd.V k59 59 w15 w.heap.size (fun k_ => (P1_ k_ ∨ w.heap.size ≤ k_) ∧ k_ ≠ gb219) (.slice A218_1 ((rd_T56 l1 x28_1).f1).length c218_1) ((rd_T56 l1 x28_1).f1)):=⟨(by rw [hw];exact (by (with_reducible repeat (first | apply Kd.V_alloc | apply Kd.V_drewN | apply Kd.V_drew));exact Kd.V_mono (Kd.V_far (p:=⟨gb219,1,none⟩) (Kd.V_far (p:=⟨gb219,0,none⟩) (Kd.V_mono HL218_1.out (fun k_ hk => (⟨hk,hk.2⟩ : _ ∧ k_ ≠ gb219))) (fun _ hk => hk.2) (.int .u64 ((rd_T56 l1 x28_1).f0))) (fun _ hk => hk.2) (.slice A218_1 ((rd_T56 l1 x28_1).f1).length c218_1)) (fun _ hk => ⟨hk.1.1,hk.1.2⟩)))⟩;have n3_ : Aside0 (w15.heap[gb219]? = some (.cells #[.int .u64 ((rd_T56 l1 x28_1).f0),.slice A218_1 ((rd_T56 l1 x28_1).f1).length c218_1] 56 (0,0))):=⟨(by rw [hw];exact (by (with_reducible repeat (first | refine blk_drewN ?_ _ | refine blk_drew ?_ | refine blk_alloc ?_ _));refine blk_put (cs:=#[.int .u64 ((rd_T56 l1 x28_1).f0),.slice none 0 0]) ?_ 1 _ rfl;(with_reducible repeat (first | refine blk_drewN ?_ _ | refine blk_drew ?_ | refine blk_alloc ?_ _));refine blk_put (cs:=#[.int .u64 0,.slice none 0 0]) ?_ 0 _ rfl;(with_reducible repeat (first | refine blk_drewN ?_ _ | refine blk_drew ?_ | refine blk_alloc ?_ _));exact BK219.out))⟩;have n4_ : Aside0 (Below w.heap.size w w15):=⟨(by rw [hw];exact (by repeat (first | (with_reducible first | exact HB.out | apply below_alloc | apply pw_below_drewN | apply below_drew1 | refine below_set ?_ GE219.out) | exact HB.out)))⟩;clear hw;clear HO_1;clear HO_26;clear HL218_1;clear BK219;clear HB;have HO_1:=n0_;have HO_26:=n1_;have HL218_1:=n2_;have BK219:=n3_;have HB:=n4_;clear n0_ n1_ n2_ n3_ n4_;have hcz16_0 : w15.cell? ⟨gb219,0,none⟩ = some (.int .u64 ((rd_T56 l1 x28_1).f0)):=(blk_cell BK219.out 0).trans rfl;have hcz16_1 : w15.cell? ⟨gb219,1,none⟩ = some (.slice A218_1 ((rd_T56 l1 x28_1).f1).length c218_1):=(blk_cell BK219.out 1).trans rfl;have hfz16_0:=blk_frozen BK219.out 0;have hfz16_1:=blk_frozen BK219.out 1) | ((with_reducible refine gate_callee (f:=36) rfl ?_);refine goesL_ (some 34) rfl rfl Try.func36 (by kernel_rfl) rfl #[.slice A0 l0.length c0,.agg #[.int .u64 ((rd_T56 l1 x28_1).f0),.slice A218_1 ((rd_T56 l1 x28_1).f1).length c218_1]] rfl (by (try simp only [List.map_toArray,List.map_cons,List.map_nil]);first | done | rfl | (simp only [List.length_drop,List.length_take];rfl)) ?_;(with_reducible refine (cut_Fits.calls k1 _ _ l0 ((rd_T56 l1 x28_1).f0) (fun k_ => ((P1_ k_ ∨ w.heap.size ≤ k_) ∧ k_ ≠ gb219)) _ _ ((rd_T56 l1 x28_1).f1) true _ ?side1 ?side2 ?side3 A11.out).mono ?_);(case side1 => repeat (first | exact (Kd.C_below HR0.out HB.out) | (with_reducible refine Kd.C_alloc ?_ _) | (with_reducible refine Kd.C_drewN ?_ _) | (with_reducible refine Kd.C_drew ?_)));(case side2 => exact HC0.out);(case side3 => exact HL218_1.out);rintro e w17 ⟨rfl,hb⟩;refine ⟨_,rfl,?_⟩;have n0_:=Aside0.mk (Kd.V_below (by (with_reducible repeat (first | apply Kd.V_alloc | apply Kd.V_drewN | apply Kd.V_drew));exact HO_1.out) hb);have n1_:=Aside0.mk (Kd.V_below (by (with_reducible repeat (first | apply Kd.V_alloc | apply Kd.V_drewN | apply Kd.V_drew));exact HO_26.out) hb);have n2_:=Aside0.mk (Kd.V_below (by (with_reducible repeat (first | apply Kd.V_alloc | apply Kd.V_drewN | apply Kd.V_drew));exact HL218_1.out) hb);have n3_:=Aside0.mk (Kd.V_reads' n2_.out).2.2;have n4_:=Aside0.mk (blk_below (g:=gb219) (o:=.cells #[.int .u64 ((rd_T56 l1 x28_1).f0),.slice A218_1 ((rd_T56 l1 x28_1).f1).length c218_1] 56 (0,0)) (by (with_reducible repeat (first | refine blk_drewN ?_ _ | refine blk_drew ?_ | refine blk_alloc ?_ _));exact BK219.out) hb);have n5_:=Aside0.mk (below_step (by repeat (first | (with_reducible first | exact HB.out | apply below_alloc | apply pw_below_drewN | apply below_drew1 | refine below_set ?_ GE219.out) | exact HB.out)) hb);clear HO_1;clear HO_26;clear HL218_1;clear HR218_1;clear BK219;clear HB;have HO_1:=n0_;have HO_26:=n1_;have HL218_1:=n2_;have HR218_1:=n3_;have BK219:=n4_;have HB:=n5_;clear n0_ n1_ n2_ n3_ n4_ n5_;(try clear hb);(try clear hb2);(try clear hk);(try clear hi)))
         go_roundg k1
         case measure => have:=HK1.out;omega
         case rel => exact ⟨(wrap64 (x28_1 + 1)),(by first | rfl | (simp;done) | (simp [*];done)),H',⟨by have:=HK1.out;omega⟩,⟨by (with_reducible repeat (first | apply Kd.V_alloc | apply Kd.V_drewN | apply Kd.V_drew));exact Kd.V_mono HO_1.out (fun _ hk => hk.1)⟩,⟨by (with_reducible repeat (first | apply Kd.V_alloc | apply Kd.V_drewN | apply Kd.V_drew));exact Kd.V_mono HO_26.out (fun _ hk => hk.1)⟩,⟨by repeat (first | (with_reducible first | exact HB.out | apply below_alloc | apply pw_below_drewN | apply below_drew1 | refine below_set ?_ GE219.out) | exact HB.out)⟩⟩
        ·replace c12:=Bool.eq_false_iff.mpr c12
         subst c12
         have H1 : (some (([] : List (List (S56))),6)) = some (r1,r2):=by rw [if_neg (show ¬ (false = true) by decide)] at H;exact H
         clear H
         have H:=H1
         clear H1
         simp only [Option.some.injEq,Prod.mk.injEq] at H
         obtain ⟨rfl,rfl⟩:=H
         have p218 : 0 ≤ (x28_1 : Int):=of_decide_eq_true (by first | (with_reducible assumption) | assumption)
         have q218 : x28_1 < (l1.length : Int):=of_decide_eq_true (by first | (with_reducible assumption) | assumption)
         obtain ⟨ad218,A218_1,c218_1,e218,hx218_0,hx218_1,hl218_1,hi218_1⟩:=at_T56 (Kd.V_reads' HO_26.out).2.2 x28_1 p218 q218
         cases e218
         obtain ⟨ce218,hce218,hMe218,hcc218⟩:=Kd.V_get HO_26.out z56 x28_1 p218 (by first | exact q218 | exact of_decide_eq_true (by first | (with_reducible assumption) | assumption) | (have e_:=(Kd.V_reads' HO_26.out).1;omega))
         obtain ⟨ua218_1,uc218_1,rfl,ul218_1,ge218_1⟩:=k56_openF hMe218
         have hv218_1:=hcc218 1 _ rfl
         rw [add_field _ _ 1 (by omega)] at hv218_1
         replace hv218_1:=Option.some.inj (hv218_1.symm.trans hx218_1)
         injection hv218_1 with hva_ hvn_ hvc_
         rw [hva_] at ge218_1
         rw [hvc_] at ul218_1
         have HL218_1:=Aside0.mk (show Kd.V k59 59 _ w.heap.size _ _ ((rd_T56 l1 x28_1).f1) from Kd.V_mk ul218_1 ge218_1)
         clear hva_ hvn_ hvc_ ge218_1 ul218_1
         clear hcc218 hce218
         have HR218_1:=Aside0.mk hi218_1
         have HC218_1:=Aside0.mk hl218_1
         clear hi218_1 hl218_1
         replace p218:=eq_true p218
         replace q218:=eq_true q218
         go_wp2_with (first | ((with_reducible refine gate_dst (N:=11) rfl ?_);refine box_event ?hg (N:=11) ?hd (cs:=#[.int .u64 0,.slice none 0 0]) (t:=56) ?hr ?_;(case hd => rfl);(case hg => rfl);(case hr => first | (go_simp;done) | (go_simp;rfl));intro gb219 hg w18 hbox hb;have n0_:=Aside0.mk (Kd.V_below (Kd.V_elderB (by (with_reducible repeat (first | apply Kd.V_alloc | apply Kd.V_drewN | apply Kd.V_drew));exact HO_1.out) gb219 (Nat.le_of_eq hg.symm)) hb);have n1_:=Aside0.mk (Kd.V_below (Kd.V_elderB (by (with_reducible repeat (first | apply Kd.V_alloc | apply Kd.V_drewN | apply Kd.V_drew));exact HO_26.out) gb219 (Nat.le_of_eq hg.symm)) hb);have n2_:=Aside0.mk (Kd.V_below (Kd.V_elderB (by (with_reducible repeat (first | apply Kd.V_alloc | apply Kd.V_drewN | apply Kd.V_drew));exact HL218_1.out) gb219 (Nat.le_of_eq hg.symm)) hb);have n3_:=Aside0.mk (Kd.C_below (by repeat (first | (with_reducible exact HR218_1.out) | (with_reducible refine Kd.C_alloc ?_ _) | (with_reducible refine Kd.C_drewN ?_ _) | (with_reducible refine Kd.C_drew ?_) | exact HR218_1.out)) hb);have n4_:=Aside0.mk (below_step (by repeat (first | (with_reducible first | exact HB.out | apply below_alloc | apply pw_below_drewN | apply below_drew1) | exact HB.out)) hb);have n5_:=Aside0.mk (hbox);have n6_:=Aside0.mk ((by rw [hg];exact (below_size (by repeat (first | (with_reducible first | exact HB.out | apply below_alloc | apply pw_below_drewN | apply below_drew1) | exact HB.out))) : w.heap.size ≤ gb219));have n7_:=Aside0.mk ((by rw [hg];exact (below_size (by repeat (first | (with_reducible first | exact HB.out | apply below_alloc | apply pw_below_drewN | apply below_drew1) | exact HB.out))) : w.heap.size ≤ gb219));clear HO_1;clear HO_26;clear HL218_1;clear HR218_1;clear HB;have HO_1:=n0_;have HO_26:=n1_;have HL218_1:=n2_;have HR218_1:=n3_;have HB:=n4_;have BK219:=n5_;have GW219:=n6_;have GE219:=n7_;clear n0_ n1_ n2_ n3_ n4_ n5_ n6_ n7_;clear hb hbox hg;have hcz19_0 : w18.cell? ⟨gb219,0,none⟩ = some (.int .u64 0):=(blk_cell BK219.out 0).trans rfl;have hcz19_1 : w18.cell? ⟨gb219,1,none⟩ = some (.slice none 0 0):=(blk_cell BK219.out 1).trans rfl;have hfz19_0:=blk_frozen BK219.out 0;have hfz19_1:=blk_frozen BK219.out 1) | ((with_reducible refine gate_store (t:=56) (p:=11) rfl ?_);refine store_event (t:=56) (p:=11) (v:=?vo_w20) (w1:=((w18.setCell ⟨gb219,0,none⟩ (.int .u64 ((rd_T56 l1 x28_1).f0))).setCell ⟨gb219,1,none⟩ (.slice A218_1 ((rd_T56 l1 x28_1).f1).length c218_1))) ?hg ?ho ?hn ?hr ?_;(case ho => rfl);(case hg => rfl);(case hn => rfl);(case hr => first | (go_simp;done) | (go_simp;rfl));intro w20 hw;have n0_ : Aside0 (Kd.V k56 56 w20 w.heap.size (fun k_ => (P1_ k_ ∨ w.heap.size ≤ k_) ∧ k_ ≠ gb219) (.slice (some ad218) l1.length c1) l1):=⟨(by rw [hw];exact (by (with_reducible repeat (first | apply Kd.V_alloc | apply Kd.V_drewN | apply Kd.V_drew));exact Kd.V_mono (Kd.V_far (p:=⟨gb219,1,none⟩) (Kd.V_far (p:=⟨gb219,0,none⟩) (Kd.V_mono HO_1.out (fun k_ hk => (⟨hk,hk.2⟩ : _ ∧ k_ ≠ gb219))) (fun _ hk => hk.2) (.int .u64 ((rd_T56 l1 x28_1).f0))) (fun _ hk => hk.2) (.slice A218_1 ((rd_T56 l1 x28_1).f1).length c218_1)) (fun _ hk => ⟨hk.1.1,hk.1.2⟩)))⟩;have n1_ : Aside0 (Kd.V k56 56 w20 w.heap.size (fun k_ => (P1_ k_ ∨ w.heap.size ≤ k_) ∧ k_ ≠ gb219) (.slice (some ad218) l1.length c1) l1):=⟨(by rw [hw];exact (by (with_reducible repeat (first | apply Kd.V_alloc | apply Kd.V_drewN | apply Kd.V_drew));exact Kd.V_mono (Kd.V_far (p:=⟨gb219,1,none⟩) (Kd.V_far (p:=⟨gb219,0,none⟩) (Kd.V_mono HO_26.out (fun k_ hk => (⟨hk,hk.2⟩ : _ ∧ k_ ≠ gb219))) (fun _ hk => hk.2) (.int .u64 ((rd_T56 l1 x28_1).f0))) (fun _ hk => hk.2) (.slice A218_1 ((rd_T56 l1 x28_1).f1).length c218_1)) (fun _ hk => ⟨hk.1.1,hk.1.2⟩)))⟩;have n2_ : Aside0 (Kd.V k59 59 w20 w.heap.size (fun k_ => (P1_ k_ ∨ w.heap.size ≤ k_) ∧ k_ ≠ gb219) (.slice A218_1 ((rd_T56 l1 x28_1).f1).length c218_1) ((rd_T56 l1 x28_1).f1)):=⟨(by rw [hw];exact (by (with_reducible repeat (first | apply Kd.V_alloc | apply Kd.V_drewN | apply Kd.V_drew));exact Kd.V_mono (Kd.V_far (p:=⟨gb219,1,none⟩) (Kd.V_far (p:=⟨gb219,0,none⟩) (Kd.V_mono HL218_1.out (fun k_ hk => (⟨hk,hk.2⟩ : _ ∧ k_ ≠ gb219))) (fun _ hk => hk.2) (.int .u64 ((rd_T56 l1 x28_1).f0))) (fun _ hk => hk.2) (.slice A218_1 ((rd_T56 l1 x28_1).f1).length c218_1)) (fun _ hk => ⟨hk.1.1,hk.1.2⟩)))⟩;have n3_ : Aside0 (w20.heap[gb219]? = some (.cells #[.int .u64 ((rd_T56 l1 x28_1).f0),.slice A218_1 ((rd_T56 l1 x28_1).f1).length c218_1] 56 (0,0))):=⟨(by rw [hw];exact (by (with_reducible repeat (first | refine blk_drewN ?_ _ | refine blk_drew ?_ | refine blk_alloc ?_ _));refine blk_put (cs:=#[.int .u64 ((rd_T56 l1 x28_1).f0),.slice none 0 0]) ?_ 1 _ rfl;(with_reducible repeat (first | refine blk_drewN ?_ _ | refine blk_drew ?_ | refine blk_alloc ?_ _));refine blk_put (cs:=#[.int .u64 0,.slice none 0 0]) ?_ 0 _ rfl;(with_reducible repeat (first | refine blk_drewN ?_ _ | refine blk_drew ?_ | refine blk_alloc ?_ _));exact BK219.out))⟩;have n4_ : Aside0 (Below w.heap.size w w20):=⟨(by rw [hw];exact (by repeat (first | (with_reducible first | exact HB.out | apply below_alloc | apply pw_below_drewN | apply below_drew1 | refine below_set ?_ GE219.out) | exact HB.out)))⟩;clear hw;clear HO_1;clear HO_26;clear HL218_1;clear BK219;clear HB;have HO_1:=n0_;have HO_26:=n1_;have HL218_1:=n2_;have BK219:=n3_;have HB:=n4_;clear n0_ n1_ n2_ n3_ n4_;have hcz21_0 : w20.cell? ⟨gb219,0,none⟩ = some (.int .u64 ((rd_T56 l1 x28_1).f0)):=(blk_cell BK219.out 0).trans rfl;have hcz21_1 : w20.cell? ⟨gb219,1,none⟩ = some (.slice A218_1 ((rd_T56 l1 x28_1).f1).length c218_1):=(blk_cell BK219.out 1).trans rfl;have hfz21_0:=blk_frozen BK219.out 0;have hfz21_1:=blk_frozen BK219.out 1) | ((with_reducible refine gate_callee (f:=36) rfl ?_);refine goesL_ (some 34) rfl rfl Try.func36 (by kernel_rfl) rfl #[.slice A0 l0.length c0,.agg #[.int .u64 ((rd_T56 l1 x28_1).f0),.slice A218_1 ((rd_T56 l1 x28_1).f1).length c218_1]] rfl (by (try simp only [List.map_toArray,List.map_cons,List.map_nil]);first | done | rfl | (simp only [List.length_drop,List.length_take];rfl)) ?_;(with_reducible refine (cut_Fits.calls k1 _ _ l0 ((rd_T56 l1 x28_1).f0) (fun k_ => ((P1_ k_ ∨ w.heap.size ≤ k_) ∧ k_ ≠ gb219)) _ _ ((rd_T56 l1 x28_1).f1) false _ ?side1 ?side2 ?side3 A11.out).mono ?_);(case side1 => repeat (first | exact (Kd.C_below HR0.out HB.out) | (with_reducible refine Kd.C_alloc ?_ _) | (with_reducible refine Kd.C_drewN ?_ _) | (with_reducible refine Kd.C_drew ?_)));(case side2 => exact HC0.out);(case side3 => exact HL218_1.out);rintro e w22 ⟨rfl,hb⟩;refine ⟨_,rfl,?_⟩;have n0_:=Aside0.mk (Kd.V_below (by (with_reducible repeat (first | apply Kd.V_alloc | apply Kd.V_drewN | apply Kd.V_drew));exact HO_1.out) hb);have n1_:=Aside0.mk (Kd.V_below (by (with_reducible repeat (first | apply Kd.V_alloc | apply Kd.V_drewN | apply Kd.V_drew));exact HO_26.out) hb);have n2_:=Aside0.mk (Kd.V_below (by (with_reducible repeat (first | apply Kd.V_alloc | apply Kd.V_drewN | apply Kd.V_drew));exact HL218_1.out) hb);have n3_:=Aside0.mk (Kd.V_reads' n2_.out).2.2;have n4_:=Aside0.mk (blk_below (g:=gb219) (o:=.cells #[.int .u64 ((rd_T56 l1 x28_1).f0),.slice A218_1 ((rd_T56 l1 x28_1).f1).length c218_1] 56 (0,0)) (by (with_reducible repeat (first | refine blk_drewN ?_ _ | refine blk_drew ?_ | refine blk_alloc ?_ _));exact BK219.out) hb);have n5_:=Aside0.mk (below_step (by repeat (first | (with_reducible first | exact HB.out | apply below_alloc | apply pw_below_drewN | apply below_drew1 | refine below_set ?_ GE219.out) | exact HB.out)) hb);clear HO_1;clear HO_26;clear HL218_1;clear HR218_1;clear BK219;clear HB;have HO_1:=n0_;have HO_26:=n1_;have HL218_1:=n2_;have HR218_1:=n3_;have BK219:=n4_;have HB:=n5_;clear n0_ n1_ n2_ n3_ n4_ n5_;(try clear hb);(try clear hb2);(try clear hk);(try clear hi)))
         go_ret2
         exact ⟨_,by first | rfl | (simp [errW_none,errW_some] <;> rfl) | (simp [*,errW_none,errW_some] <;> rfl),by first | exact Kd.R_nil _ _ _ _ _ | exact Kd.N_nil _ _ _ _ _ | exact Kd.V_nil _ _ _ _ _ | exact Kd.Q_nil _ _ _ _ _ | exact Kd.S_nil _ _ _ _ _,by repeat (first | (with_reducible first | exact HB.out | apply below_alloc | apply pw_below_drewN | apply below_drew1 | refine below_set ?_ GE219.out) | exact HB.out)⟩
       ·rw [if_neg c10] at H
        exact absurd H (by simp)
      ·rw [if_neg c9] at H
       exact absurd H (by simp)
     ·rw [if_neg c8] at H
      have c8b0 : decide (x28_1 < (l1.length : Int)) = false:=decide_eq_false c8
      clear c8
      obtain ⟨ji23,hji23⟩ : ∃ j_ : Int,(mn a2 1024) = j_:=⟨_,rfl⟩
      replace H : (cut_Blocks.l1 k1 l0 ji23 ([] : List (List (S56))) l1) = some (r1,r2):=by first | (rw [hji23] at H;exact H) | (simp only [hji23] at H ⊢;exact H)
      have hji23_ : (if 1024 < a2 then 1024 else a2) = ji23:=hji23
      have H':=Aside0.mk H
      clear H
      go_wp2
      go_loopg [12,13] k1 (fun kq v12 v13 w' => ∃ (x12_2 : List (List (S56))) (x13_2 : List (S56)),Aside0 (cut_Blocks.l1 kq l0 ji23 x12_2 x13_2 = some (r1,r2)) ∧ Aside0 (kq ≤ k1) ∧ Aside0 (Kd.R (Kd.slice 56 k56) 23 w' w.heap.size (fun k_ => (w.heap.size ≤ k_)) v12 x12_2) ∧ Aside0 (Kd.V k56 56 w' w.heap.size (fun k_ => (P1_ k_ ∨ w.heap.size ≤ k_) ∧ some k_ ≠ (v12 : Value).ownBlock) v13 x13_2) ∧ Aside0 (Below w.heap.size w w'))
      case atStart => exact ⟨(([] : List (List (S56)))),(l1),H',⟨Nat.le_refl _⟩,⟨by first | exact Kd.R_nil _ _ _ _ _ | exact Kd.N_nil _ _ _ _ _ | exact Kd.V_nil _ _ _ _ _ | exact Kd.Q_nil _ _ _ _ _ | exact Kd.S_nil _ _ _ _ _⟩,⟨by (with_reducible repeat (first | apply Kd.V_alloc | apply Kd.V_drewN | apply Kd.V_drew));exact Kd.V_mono HO_1.out (fun _ hk => ⟨hk,(by simp [Value.ownBlock])⟩)⟩,⟨by repeat (first | (with_reducible first | exact HB.out | apply below_alloc | apply pw_below_drewN | apply below_drew1) | exact HB.out)⟩⟩
      case round =>
       clear H'
       try clear c1
       try clear c2
       try clear p2
       try clear q2
       try clear hx2
       try clear c3
       try clear c4
       try clear c4b0
       try clear c6
       try clear c6b0
       try clear c6b1
       try clear p6
       try clear c8
       try clear c8b0
       try clear c9
       try clear c9b0
       try clear c10
       try clear c10b0
       try clear c12
       try clear c16
       try clear c18
       try clear c21
       try clear p21
       try clear q21
       try clear hx21
       try clear hcz14_0
       try clear hcz14_1
       try clear hcz16_0
       try clear hcz16_1
       try clear hcz19_0
       try clear hcz19_1
       try clear hcz21_0
       try clear hcz21_1
       try clear hfz14_0
       try clear hfz14_1
       try clear hfz16_0
       try clear hfz16_1
       try clear hfz19_0
       try clear hfz19_1
       try clear hfz21_0
       try clear hfz21_1
       try clear hx218_0
       try clear hx218_1
       try clear p2
       try clear p218
       try clear q218
       obtain ⟨x12_2,x13_2,HA,HK2,HO_12,HO_13,HB⟩:=hrel
       cases gk with
       | zero => exact absurd HA.out (by simp [cut_Blocks.l1])
       | succ k2 =>
        have H:=HA.out
        clear HA
        simp only [cut_Blocks.l1] at H
        by_cases c24 : (x13_2.length : Int) > 0
        ·rw [if_pos c24] at H
         have c24b0 : decide (0 < (x13_2.length : Int)) = true:=decide_eq_true c24
         have c24b1 : decide (0 < x13_2.length) = true:=decide_eq_true (by omega)
         clear c24
         replace H:=Option.bind_eq_some_iff.mp H
         obtain ⟨t221,A250,H⟩:=H
         replace H : (if 0 ≤ t221 then (if t221 ≤ (x13_2.length : Int) then ((trace_Clone.f k2 (x13_2.take (t221 : Int).toNat)).bind fun t227 => (if x12_2.length < 5864062014805 then (cut_Blocks.l1 k2 l0 ji23 (x12_2 ++ [t227]) (x13_2.drop (t221 : Int).toNat)) else (none))) else (none)) else (none)) = some (r1,r2):=H
         have A25:=Aside0.mk A250
         clear A250
         by_cases c26 : 0 ≤ t221
         ·rw [if_pos c26] at H
          have c26b0:=eq_true c26
          have c26b1 : decide (0 ≤ t221) = true:=decide_eq_true c26
          clear c26
          by_cases c27 : t221 ≤ (x13_2.length : Int)
          ·rw [if_pos c27] at H
           have c27b0:=eq_true c27
           have c27b1 : decide (t221 ≤ (x13_2.length : Int)) = true:=decide_eq_true c27
           clear c27
           obtain ⟨y222,hy222⟩ : ∃ y_ : List (S56),y_ = (x13_2.take (t221 : Int).toNat):=⟨_,rfl⟩
           replace H : ((trace_Clone.f k2 y222).bind fun t227 => (if x12_2.length < 5864062014805 then (cut_Blocks.l1 k2 l0 ji23 (x12_2 ++ [t227]) (x13_2.drop (t221 : Int).toNat)) else (none))) = some (r1,r2):=by first | (rw [hy222];with_reducible exact H) | (have H2_:=(Option.bind_some _ _).symm.trans H;rw [hy222];with_reducible exact H2_) | (have H2_:=(Option.bind_some _ _).symm.trans H;with_reducible exact H2_) | with_reducible exact H | (rw [hy222];exact H) | exact H
           have Ny222:=Aside0.mk hy222
           clear hy222
           replace H:=Option.bind_eq_some_iff.mp H
           obtain ⟨t227,A280,H⟩:=H
           replace H : (if x12_2.length < 5864062014805 then (cut_Blocks.l1 k2 l0 ji23 (x12_2 ++ [t227]) (x13_2.drop (t221 : Int).toNat)) else (none)) = some (r1,r2):=H
           have A28:=Aside0.mk A280
           clear A280
           by_cases c29 : x12_2.length < 5864062014805
           ·rw [if_pos c29] at H
            have LMc29:=Aside0.mk c29
            clear c29
            obtain ⟨y230,hy230⟩ : ∃ y_ : List (List (S56)),y_ = (x12_2 ++ [t227]):=⟨_,rfl⟩
            replace H : (cut_Blocks.l1 k2 l0 ji23 y230 (x13_2.drop (t221 : Int).toNat)) = some (r1,r2):=by first | (rw [hy230];with_reducible exact H) | (have H2_:=(Option.bind_some _ _).symm.trans H;rw [hy230];with_reducible exact H2_) | (have H2_:=(Option.bind_some _ _).symm.trans H;with_reducible exact H2_) | with_reducible exact H | (rw [hy230];exact H) | exact H
            have Ny230:=Aside0.mk hy230
            clear hy230
            have c30b0:=eq_true (of_decide_eq_true (by first | (with_reducible assumption) | assumption) : 0 ≤ t221)
            have c31b0:=eq_true (of_decide_eq_true (by first | (with_reducible assumption) | assumption) : t221 ≤ (x13_2.length : Int))
            obtain ⟨y233,hy233⟩ : ∃ y_ : List (S56),y_ = (x13_2.drop (t221 : Int).toNat):=⟨_,rfl⟩
            replace H : (cut_Blocks.l1 k2 l0 ji23 y230 y233) = some (r1,r2):=by first | (rw [hy233];with_reducible exact H) | (have H2_:=(Option.bind_some _ _).symm.trans H;rw [hy233];with_reducible exact H2_) | (have H2_:=(Option.bind_some _ _).symm.trans H;with_reducible exact H2_) | with_reducible exact H | (rw [hy233];exact H) | exact H
            have Ny233:=Aside0.mk hy233
            clear hy233
            have H':=Aside0.mk H
            clear H
            obtain ⟨Ao32,co32,eo32⟩:=Kd.V_slice HO_13.out
            subst eo32
            try go_wp2_with (first | ((with_reducible refine gate_callee (f:=37) rfl ?_);refine goesL_ (some 46) rfl rfl Try.func37 (by kernel_rfl) rfl #[.slice A0 l0.length c0,.slice Ao32 x13_2.length co32,.int .i64 ji23] rfl (by (try simp only [List.map_toArray,List.map_cons,List.map_nil]);first | done | (simp only [hji23];rfl) | rfl | (simp only [List.length_drop,List.length_take];rfl)) ?_;(with_reducible refine (cut_end.calls k2 _ _ l0 _ _ x13_2 ji23 t221 _ ?side1 ?side2 ?side3 ?side4 A25.out).mono ?_);(case side1 => repeat (first | exact (Kd.C_below HR0.out HB.out) | (with_reducible refine Kd.C_alloc ?_ _) | (with_reducible refine Kd.C_drewN ?_ _) | (with_reducible refine Kd.C_drew ?_)));(case side2 => exact HC0.out);(case side3 => repeat (first | exact (Kd.V_reads' HO_13.out).2.2 | (with_reducible refine Kd.C_alloc ?_ _) | (with_reducible refine Kd.C_drewN ?_ _) | (with_reducible refine Kd.C_drew ?_)));(case side4 => exact (Kd.V_reads' HO_13.out).2.1);rintro e w33 ⟨rfl,hb⟩;refine ⟨_,rfl,?_⟩;have n0_:=Aside0.mk (Kd.R_below (by (with_reducible repeat (first | apply Kd.R_alloc | apply Kd.R_drewN | apply Kd.R_drew));exact HO_12.out) hb);have n1_:=Aside0.mk (Kd.V_below (by (with_reducible repeat (first | apply Kd.V_alloc | apply Kd.V_drewN | apply Kd.V_drew));exact HO_13.out) hb);have n2_:=Aside0.mk (below_step (by repeat (first | (with_reducible first | exact HB.out | apply below_alloc | apply pw_below_drewN | apply below_drew1) | exact HB.out)) hb);clear HO_12;clear HO_13;clear HB;have HO_12:=n0_;have HO_13:=n1_;have HB:=n2_;clear n0_ n1_ n2_;(try clear hb);(try clear hb2);(try clear hk);(try clear hi)))
            have n0_:=Aside0.mk (Kd.R_drew HO_12.out)
            have n1_:=Aside0.mk (Kd.V_drew HO_13.out)
            have n2_:=Aside0.mk (below_drew1 HB.out)
            clear HO_12
            clear HO_13
            clear HB
            have HO_12:=n0_
            have HO_13:=n1_
            have HB:=n2_
            clear n0_ n1_ n2_
            have q35 : (t221 : Int) ≤ ((x13_2.length : Int) : Int):=of_decide_eq_true (by first | (with_reducible assumption) | assumption)
            obtain ⟨i035,hi035,_,hsz35,_⟩:=info_parts info56
            have hroom35 : x13_2.length ≤ co32:=(Kd.V_reads' HO_13.out).2.1
            have hC35 : Kd.F k56 _ _ Ao32 x13_2.length x13_2:=(Kd.V_at (base:=w.heap.size) HO_13.out).2.2
            have hcut35:=cut_to (P:=Try.prog) 23 56 .i64 Try.underlying23 hi035 Ao32 x13_2.length co32 t221 (of_decide_eq_true (by first | (with_reducible assumption) | assumption)) q35 hroom35
            have hr35:=Kd.F_take (m:=(t221 : Int).toNat) hC35 (by omega)
            have hy35 : y222.length = (t221 : Int).toNat:=(by rw [Ny222.out,List.length_take];omega)
            rw [← Ny222.out] at hr35
            rw [← hy35] at hcut35
            have HO226:=Aside0.mk (show Kd.V k56 56 _ w.heap.size _ (.slice Ao32 y222.length co32) y222 from Kd.V_mk (by omega) hr35)
            have HC226:=Aside0.mk (show y222.length ≤ co32 from by omega)
            clear hr35 hC35 hroom35 hi035 hsz35
            have KY35:=Aside0.mk hy35
            clear hy35
            replace q35:=eq_true q35
            have q36 : (t221 : Int) ≤ ((x13_2.length : Int) : Int):=of_decide_eq_true (by first | (with_reducible assumption) | assumption)
            obtain ⟨i036,hi036,_,hsz36,_⟩:=info_parts info56
            have hroom36 : x13_2.length ≤ co32:=(Kd.V_reads' HO_13.out).2.1
            have hC36 : Kd.F k56 _ _ Ao32 x13_2.length x13_2:=(Kd.V_at (base:=w.heap.size) HO_13.out).2.2
            have q036 : (0 : Int) ≤ (t221 : Int):=of_decide_eq_true (by first | (with_reducible assumption) | assumption)
            have hcut36:=cut_from (P:=Try.prog) 23 56 .i64 Try.underlying23 hi036 2 hsz36 Ao32 x13_2.length co32 t221 q036 q36
            have hr36:=Kd.F_cut (m:=(t221 : Int).toNat) (c:=co32) hC36 (by omega) hroom36
            obtain ⟨A36,hA36⟩ : ∃ A1,A1 = (if co32 = (t221 : Int).toNat then Ao32 else (Ao32 : Option Addr).map (·.add ((t221 : Int).toNat * 2))):=⟨_,rfl⟩
            obtain ⟨c36,hc36⟩ : ∃ c1,c1 = co32 - (t221 : Int).toNat:=⟨_,rfl⟩
            have hy36 : y233.length = x13_2.length - (t221 : Int).toNat:=(by rw [Ny233.out,List.length_drop] <;> omega)
            rw [show (x13_2).drop (t221 : Int).toNat = y233 from Ny233.out.symm] at hr36
            replace hr36 : Kd.F k56 _ _ A36 y233.length y233:=(by rw [hA36];exact hr36)
            rw [← hy36,← hA36,← hc36] at hcut36
            have HO237:=Aside0.mk (show Kd.V k56 56 _ w.heap.size _ (.slice A36 y233.length c36) y233 from Kd.V_mk (by rw [hy36,hc36];exact Nat.sub_le_sub_right hroom36 _) hr36)
            have HC237:=Aside0.mk (show y233.length ≤ c36 from by rw [hy36,hc36];exact Nat.sub_le_sub_right hroom36 _)
            clear hr36 hC36 hroom36 hi036 hsz36 hc36
            have KY36:=Aside0.mk hy36
            have KA36:=Aside0.mk hA36
            clear hy36 hA36
            replace q36:=eq_true q36
            refine start_ (n:=12) (S:=fun w' => True) (ds:=[]) #[n_,n_,n_,n_,n_,n_,n_,n_,n_,n_,n_,n_] (by kernel_rfl) rfl rfl trivial (fun hHeld => ?_);refine with_tabW cut_Blocks.tab17 cut_Blocks.bits17 (fun HT_ HW_ => ?_)
            generalize w33.drew = w34 at HO_12 HO_13 HB HO226 HO237 hHeld ⊢
            refine pure_ (i:=0) (N:=some 47) (v:=?_) (a':=?_) #[y_,n_,n_,n_,n_,n_,n_,n_,n_,n_,n_,n_] rfl rfl (any_of HT_.out (by kernel_rfl)) (fun _ _ _ h => h) (Or.inl ⟨by rfl,?_⟩) ?_ ?_
            rotate_left
            ·intro w'
             go_simp
             with_reducible rfl
            rotate_left
            ·simp only [Act.put,sA_,sB_,sC_,i64_w,i32_w]
             rfl
            refine pure_ (i:=1) (N:=some 48) (v:=?_) (a':=?_) #[y_,y_,n_,n_,n_,n_,n_,n_,n_,n_,n_,n_] rfl rfl (any_of HT_.out (by kernel_rfl)) (fun _ _ _ h => h) (Or.inl ⟨by rfl,?_⟩) ?_ ?_
            rotate_left
            ·intro w'
             go_simp
             with_reducible rfl
            rotate_left
            ·simp only [Act.put,sA_,sB_,sC_,i64_w,i32_w]
             rfl
            refine pure_ (i:=2) (N:=some 49) (v:=?_) (a':=?_) #[y_,y_,y_,n_,n_,n_,n_,n_,n_,n_,n_,n_] rfl rfl (any_of HT_.out (by kernel_rfl)) (fun _ _ _ h => h) (Or.inl ⟨by rfl,?_⟩) ?_ ?_
            rotate_left
            ·intro w'
             go_simp
             with_reducible rfl
            rotate_left
            ·simp only [Act.put,sA_,sB_,sC_,i64_w,i32_w]
             rfl
            refine pure_ (i:=3) (N:=some 50) (v:=?_) (a':=?_) #[y_,y_,y_,y_,n_,n_,n_,n_,n_,n_,n_,n_] rfl rfl (any_of HT_.out (by kernel_rfl)) (fun _ _ _ h => h) (Or.inl ⟨by rfl,?_⟩) ?_ ?_
            rotate_left
            ·intro w'
             go_simp
             with_reducible rfl
            rotate_left
            ·simp only [Act.put,sA_,sB_,sC_,i64_w,i32_w]
             rfl
            refine pure_ (i:=7) (N:=some 54) (v:=?_) (a':=?_) #[y_,y_,y_,y_,n_,n_,n_,y_,n_,n_,n_,n_] rfl rfl (any_of HT_.out (by kernel_rfl)) (fun _ _ _ h => h) (Or.inl ⟨by rfl,?_⟩) ?_ ?_
            rotate_left
            ·intro w'
             go_simp
             with_reducible rfl
            rotate_left
            ·simp only [Act.put,sA_,sB_,sC_,i64_w,i32_w]
             rfl
            refine pure_ (i:=8) (N:=some 55) (v:=?_) (a':=?_) #[y_,y_,y_,y_,n_,n_,n_,y_,y_,n_,n_,n_] rfl rfl (any_of HT_.out (by kernel_rfl)) (fun _ _ _ h => h) (Or.inl ⟨by rfl,?_⟩) ?_ ?_
            rotate_left
            ·intro w'
             go_simp
             with_reducible rfl
            rotate_left
            ·simp only [Act.put,sA_,sB_,sC_,i64_w,i32_w]
             rfl
            refine pure_ (i:=9) (N:=some 56) (v:=?_) (a':=?_) #[y_,y_,y_,y_,n_,n_,n_,y_,y_,y_,n_,n_] rfl rfl (any_of HT_.out (by kernel_rfl)) (fun _ _ _ h => h) (Or.inl ⟨by rfl,?_⟩) ?_ ?_
            rotate_left
            ·intro w'
             go_simp
             with_reducible rfl
            rotate_left
            ·simp only [Act.put,sA_,sB_,sC_,i64_w,i32_w]
             rfl
            refine one_ (i:=4) (N:=some 51) #[y_,y_,y_,y_,y_,n_,n_,y_,y_,y_,n_,n_] rfl rfl (one_of HT_.out (by kernel_rfl)) (by decide) (fun K hK => ?_)
            refine goes_ Try.func38 (by kernel_rfl) rfl #[.slice Ao32 y222.length co32] (by rfl) rfl rfl (by (try simp only [List.map_toArray,List.map_cons,List.map_nil]);first | done | rfl | (simp only [List.length_drop,List.length_take];rfl)) ?_
            with_reducible refine (trace_Clone.calls k2 _ _ y222 t227 _ ?side1 ?side2 A28.out).mono ?_
            (case side1 => repeat (first | exact (Kd.V_reads' HO226.out).2.2 | (with_reducible refine Kd.C_alloc ?_ _) | (with_reducible refine Kd.C_drewN ?_ _) | (with_reducible refine Kd.C_drew ?_)))
            (case side2 => exact (Kd.V_reads' HO226.out).2.1)
            rintro e w37 ⟨v228,rfl,ho0,hb⟩
            refine ⟨_,rfl,?_⟩
            have n0_:=Aside0.mk (Kd.R_elder' (by (with_reducible repeat (first | apply Kd.R_alloc | apply Kd.R_drewN | apply Kd.R_drew));exact HO_12.out) (Kd.R_base ho0) hb)
            have n1_:=Aside0.mk (Kd.V_elder' (by (with_reducible repeat (first | apply Kd.V_alloc | apply Kd.V_drewN | apply Kd.V_drew));exact HO_13.out) (Kd.R_base ho0) hb)
            have n2_:=Aside0.mk (Kd.V_elder' (by (with_reducible repeat (first | apply Kd.V_alloc | apply Kd.V_drewN | apply Kd.V_drew));exact HO226.out) (Kd.R_base ho0) hb)
            have n3_:=Aside0.mk (Kd.V_elder' (by (with_reducible repeat (first | apply Kd.V_alloc | apply Kd.V_drewN | apply Kd.V_drew));exact HO237.out) (Kd.R_base ho0) hb)
            have n4_:=Aside0.mk (Kd.R_lower (Kd.R_newM (M:=fun k_ => (w.heap.size ≤ k_)) ho0 (below_size (by repeat (first | (with_reducible first | exact HB.out | apply below_alloc | apply pw_below_drewN | apply below_drew1) | exact HB.out))) (fun k_ h_ => h_)) (below_size (by repeat (first | (with_reducible first | exact HB.out | apply below_alloc | apply pw_below_drewN | apply below_drew1) | exact HB.out))))
            have n5_:=Aside0.mk (below_step (by repeat (first | (with_reducible first | exact HB.out | apply below_alloc | apply pw_below_drewN | apply below_drew1) | exact HB.out)) hb)
            clear HO_12
            clear HO_13
            clear HO226
            clear HO237
            clear HB
            have HO_12:=n0_
            have HO_13:=n1_
            have HO226:=n2_
            have HO237:=n3_
            have HO229:=n4_
            have HB:=n5_
            clear n0_ n1_ n2_ n3_ n4_ n5_
            (try clear hb)
            (try clear hb2)
            (try clear hk)
            (try clear hi)
            (try clear ho0)
            obtain ⟨Ao39,co39,eo39⟩:=Kd.R_slice HO229.out
            (first | subst eo39 | (injection eo39 with f1_ f2_ f3_;have f4_:=f1_.symm;have f5_:=f3_.symm;clear f1_ f2_ f3_;subst f4_;subst f5_))
            refine hK.out _ _ trivial (fun hHeld => ?_)
            clear hK K
            refine norm_ (a':=?_) ?_ ?_
            rotate_left
            ·show Act.put _ (some 51) _ = _
             simp only [Act.put,sA_,sB_,sC_,i64_w,i32_w]
             rfl
            refine one_ (i:=5) (N:=some 52) #[y_,y_,y_,y_,y_,y_,n_,y_,y_,y_,n_,n_] rfl rfl (one_of HT_.out (by kernel_rfl)) (by decide) (fun K hK => ?_)
            refine value_ (w1:=?_) (v:=?_) (by rfl) rfl ?_ ?_
            rotate_left 2
            ·go_simp
             constructor
             ·rfl
             ·rfl
            refine hK.out _ _ trivial (fun hHeld => ?_)
            clear hK K
            refine norm_ (a':=?_) ?_ ?_
            rotate_left
            ·show Act.put _ (some 52) _ = _
             simp only [Act.put,sA_,sB_,sC_,i64_w,i32_w]
             rfl
            refine one_ (i:=6) (N:=some 53) #[y_,y_,y_,y_,y_,y_,y_,y_,y_,y_,n_,n_] rfl rfl (one_of HT_.out (by kernel_rfl)) (by decide) (fun K hK => ?_)
            refine Kd.R_append_step (Kd.slice 56 k56) (w0:=w) w.heap.size (by rfl) (.tmp 47) (.tmp 52) 47 23 (.slice none 0 0) 24 rfl Try.underlying47 info23 rfl (by decide) (by omega) u12 x12_2 t227 [.slice Ao39 t227.length co39] (fun k_ => (w.heap.size ≤ k_)) (fun k_ => ((fun k_ => (w.heap.size ≤ k_))) k_ ∧ some k_ ≠ (u12 : Value).ownBlock) rfl rfl ?aP (fun _ hk => hk) ?aF ?aO ?aB ?aS ?aL ?_
            (case aP => exact Kd.M_row (Kd.R_mono (Kd.R_apart' (HO229.out) (Kd.R_typed HO_12.out) (by decide)) (fun k_ hk => ⟨hk.1.1,hk.2⟩)))
            (case aB => exact (by repeat (first | (with_reducible first | exact HB.out | apply below_alloc | apply pw_below_drewN | apply below_drew1) | exact HB.out)))
            (case aF => exact (fun k_ hk => (Nat.le_trans (below_size (by repeat (first | (with_reducible first | exact HB.out | apply below_alloc | apply pw_below_drewN | apply below_drew1) | exact HB.out))) hk)))
            (case aO => exact (by (with_reducible repeat (first | apply Kd.R_alloc | apply Kd.R_drewN | apply Kd.R_drew));exact Kd.R_mono HO_12.out (fun _ hk => hk.1)))
            (case aS => exact (below_size (by repeat (first | (with_reducible first | exact HB.out | apply below_alloc | apply pw_below_drewN | apply below_drew1) | exact HB.out))))
            (case aL => have:=LMc29.out;omega)
            intro v231 w38 ho hb hg hat
            rw [← Ny230.out] at ho
            have n0_:=Aside0.mk (Kd.V_afterv (ok:=(fun k_ => (P1_ k_ ∨ w.heap.size ≤ k_) ∧ some k_ ≠ (.slice Ao39 t227.length co39 : Value).ownBlock)) (by (with_reducible repeat (first | apply Kd.V_alloc | apply Kd.V_drewN | apply Kd.V_drew));exact Kd.V_mono HO_13.out (fun _ hk => ⟨⟨hk.1.1,hk.2⟩,hk.1.2⟩)) hg hat)
            have n1_:=Aside0.mk (Kd.V_afterv (ok:=(fun k_ => (P1_ k_ ∨ w.heap.size ≤ k_) ∧ some k_ ≠ (.slice Ao39 t227.length co39 : Value).ownBlock)) (by (with_reducible repeat (first | apply Kd.V_alloc | apply Kd.V_drewN | apply Kd.V_drew));exact Kd.V_mono HO226.out (fun _ hk => ⟨⟨hk.1.1,hk.2⟩,hk.1.2⟩)) hg hat)
            have n2_:=Aside0.mk (Kd.V_afterv (ok:=(fun k_ => (P1_ k_ ∨ w.heap.size ≤ k_) ∧ some k_ ≠ (.slice Ao39 t227.length co39 : Value).ownBlock)) (by (with_reducible repeat (first | apply Kd.V_alloc | apply Kd.V_drewN | apply Kd.V_drew));exact Kd.V_mono HO237.out (fun _ hk => ⟨⟨hk.1.1,hk.2⟩,hk.1.2⟩)) hg hat)
            have n3_:=Aside0.mk (hb)
            have n4_:=Aside0.mk (ho)
            clear HO_13
            clear HO226
            clear HO237
            clear HB
            clear HO_12
            clear HO229
            have HO_13:=n0_
            have HO226:=n1_
            have HO237:=n2_
            have HB:=n3_
            have HO232:=n4_
            clear n0_ n1_ n2_ n3_ n4_
            clear ho hb hg hat
            refine hK.out _ _ trivial (fun hHeld => ?_)
            clear hK K
            refine norm_ (a':=?_) ?_ ?_
            rotate_left
            ·show Act.put _ (some 53) _ = _
             simp only [Act.put,sA_,sB_,sC_,i64_w,i32_w]
             rfl
            refine pure_ (i:=10) (N:=some 12) (v:=?_) (a':=?_) #[y_,y_,y_,y_,y_,y_,y_,y_,y_,y_,y_,n_] rfl rfl (any_of HT_.out (by kernel_rfl)) (fun _ _ _ h => h) (Or.inl ⟨by rfl,?_⟩) ?_ ?_
            rotate_left
            ·intro w'
             go_simp
             with_reducible rfl
            rotate_left
            ·simp only [Act.put,sA_,sB_,sC_,i64_w,i32_w]
             rfl
            refine pure_ (i:=11) (N:=some 13) (v:=?_) (a':=?_) #[y_,y_,y_,y_,y_,y_,y_,y_,y_,y_,y_,y_] rfl rfl (any_of HT_.out (by kernel_rfl)) (fun _ _ _ h => h) (Or.inl ⟨by rfl,?_⟩) ?_ ?_
            rotate_left
            ·intro w'
             go_simp
             with_reducible rfl
            rotate_left
            ·simp only [Act.put,sA_,sB_,sC_,i64_w,i32_w]
             rfl
            refine done_ (done_of HT_.out (by kernel_rfl)) ?_
            try go_wp2
            go_roundg k2
            case measure => have:=HK1.out;have:=HK2.out;omega
            case rel => exact ⟨(y230),(y233),H',⟨by have:=HK1.out;have:=HK2.out;omega⟩,⟨by (with_reducible repeat (first | apply Kd.R_alloc | apply Kd.R_drewN | apply Kd.R_drew));exact HO232.out⟩,⟨by (with_reducible repeat (first | apply Kd.V_alloc | apply Kd.V_drewN | apply Kd.V_drew));exact Kd.V_mono HO237.out (fun _ hk => ⟨hk.1.1,hk.2⟩)⟩,⟨by repeat (first | (with_reducible first | exact HB.out | apply below_alloc | apply pw_below_drewN | apply below_drew1) | exact HB.out)⟩⟩
           ·rw [if_neg c29] at H
            exact absurd H (by simp)
          ·rw [if_neg c27] at H
           exact absurd H (by simp)
         ·rw [if_neg c26] at H
          exact absurd H (by simp)
        ·rw [if_neg c24] at H
         have c24b0 : decide (0 < (x13_2.length : Int)) = false:=decide_eq_false c24
         have c24b1 : decide (0 < x13_2.length) = false:=decide_eq_false (by omega)
         clear c24
         simp only [Option.some.injEq,Prod.mk.injEq] at H
         obtain ⟨rfl,rfl⟩:=H
         obtain ⟨Ao40,co40,eo40⟩:=Kd.V_slice HO_13.out
         subst eo40
         go_wp2
         go_ret2
         exact ⟨_,by first | rfl | (simp [errW_none,errW_some] <;> rfl) | (simp only [← hji23];first | rfl | (simp [errW_none,errW_some] <;> rfl)) | (simp [*,errW_none,errW_some] <;> rfl),by (with_reducible repeat (first | apply Kd.R_alloc | apply Kd.R_drewN | apply Kd.R_drew));exact HO_12.out,by repeat (first | (with_reducible first | exact HB.out | apply below_alloc | apply pw_below_drewN | apply below_drew1) | exact HB.out)⟩
  ·rw [if_neg c6] at H
   have c6b0 : (t216 == 0) = false:=beq_eq_false_iff_ne.mpr c6
   have c6b1 : (t216 != 0) = true:=bne_iff_ne.mpr c6
   simp only [Option.some.injEq,Prod.mk.injEq] at H
   obtain ⟨rfl,rfl⟩:=H
   go_enter Try.func18,Try.ntmps18
   go_wp2_with (first | ((with_reducible refine gate_callee (f:=16) rfl ?_);refine goesL_ (some 20) rfl rfl Try.func16 (by kernel_rfl) rfl #[.slice A0 l0.length c0,.slice A1 l1.length c1] rfl (by (try simp only [List.map_toArray,List.map_cons,List.map_nil]);first | done | rfl | (simp only [List.length_drop,List.length_take];rfl)) ?_;(with_reducible refine (trace_Check.calls k _ _ l0 _ _ l1 t216 t217 _ ?side1 ?side2 ?side3 ?side4 A5.out).mono ?_);(case side1 => repeat (first | exact HR0.out | (with_reducible refine Kd.C_alloc ?_ _) | (with_reducible refine Kd.C_drewN ?_ _) | (with_reducible refine Kd.C_drew ?_)));(case side2 => exact HC0.out);(case side3 => repeat (first | exact (Kd.V_reads' HO1.out).2.2 | (with_reducible refine Kd.C_alloc ?_ _) | (with_reducible refine Kd.C_drewN ?_ _) | (with_reducible refine Kd.C_drew ?_)));(case side4 => exact (Kd.V_reads' HO1.out).2.1);rintro e w41 ⟨rfl,hb⟩;refine ⟨_,rfl,?_⟩;have n0_:=Aside0.mk (Kd.V_below (by (with_reducible repeat (first | apply Kd.V_alloc | apply Kd.V_drewN | apply Kd.V_drew));exact HO1.out) hb);have n1_:=Aside0.mk (below_step (by repeat (first | (with_reducible first | exact HB.out | apply below_alloc | apply pw_below_drewN | apply below_drew1) | exact HB.out)) hb);clear HO1;clear HB;have HO1:=n0_;have HB:=n1_;clear n0_ n1_;(try clear hb);(try clear hb2);(try clear hk);(try clear hi)))
   go_ret2
   exact ⟨_,by first | rfl | (simp [errW_none,errW_some] <;> rfl) | (simp [*,errW_none,errW_some] <;> rfl),by first | exact Kd.R_nil _ _ _ _ _ | exact Kd.N_nil _ _ _ _ _ | exact Kd.V_nil _ _ _ _ _ | exact Kd.Q_nil _ _ _ _ _ | exact Kd.S_nil _ _ _ _ _,by repeat (first | (with_reducible first | exact HB.out | apply below_alloc | apply pw_below_drewN | apply below_drew1) | exact HB.out)⟩

/-! ### cut_Sizes: function 34 -/
def cut_Sizes.l0 : Nat → Int → List Int → List (List (S56)) → Int → Int → Option (List Int × Int)
 | 0, _, _, _, _, _ => none
 | k + 1, x9, x10, x20, x21, x22 => if x22 < x21 then (if 0 ≤ x22 then (if x22 < (x20.length : Int) then (if x10.length < 17592186044416 then (cut_Sizes.l0 k x9 (x10 ++ [((rd_L11 x20 x22).length : Int)]) x20 x21 (wrap64 (x22 + 1))) else (none)) else (none)) else (none)) else (some (x10, x9))
def cut_Sizes.f (k : Nat) (l0 : List (S53)) (l1 : List (S56)) (a2 : Int) : Option (List Int × Int) := (cut_Blocks.f k l0 l1 a2).bind fun bt238 => (cut_Sizes.l0 k bt238.2 ([] : List Int) bt238.1 (bt238.1.length : Int) 0)
theorem cut_Sizes.mono_l : ∀ k, (∀ y0 y1 y2 y3 y4, LeO (cut_Sizes.l0 k y0 y1 y2 y3 y4) (cut_Sizes.l0 (k + 1) y0 y1 y2 y3 y4))
 | 0 => fun _ _ _ _ _ r h => by simp [cut_Sizes.l0] at h
 | k + 1 => by
  have ih0 := cut_Sizes.mono_l k
  ·intro y0 y1 y2 y3 y4
   unfold cut_Sizes.l0
   repeat' first
   | (with_reducible exact ih0 _ _ _ _ _)
   | (with_reducible exact cut_Blocks.mono _ _ _ _)
   | (with_reducible exact LeO.refl _)
   | (with_reducible exact LeO.none _)
   | (with_reducible refine LeO.ite ?_ ?_)
   | (with_reducible refine LeO.bind ?_ (fun _ => ?_))
   | exact ih0 _ _ _ _ _
   | exact cut_Blocks.mono _ _ _ _
   | exact LeO.none _
   | refine LeO.ite ?_ ?_
   | refine LeO.bind ?_ (fun _ => ?_)
theorem cut_Sizes.mono : ∀ a0 a1 a2 k, LeO (cut_Sizes.f k a0 a1 a2) (cut_Sizes.f (k + 1) a0 a1 a2) := by
 intro a0 a1 a2 k
 have ih0 := cut_Sizes.mono_l k
 unfold cut_Sizes.f
 repeat' first
   | (with_reducible exact ih0 _ _ _ _ _)
   | (with_reducible exact cut_Blocks.mono _ _ _ _)
   | (with_reducible exact LeO.refl _)
   | (with_reducible exact LeO.none _)
   | (with_reducible refine LeO.ite ?_ ?_)
   | (with_reducible refine LeO.bind ?_ (fun _ => ?_))
   | exact ih0 _ _ _ _ _
   | exact cut_Blocks.mono _ _ _ _
   | exact LeO.none _
   | refine LeO.ite ?_ ?_
   | refine LeO.bind ?_ (fun _ => ?_)
set_option maxHeartbeats 8000000 in
set_option maxRecDepth 100000 in
theorem cut_Sizes.calls (k : Nat) (A0 : Option Addr) (c0 : Nat) (l0 : List (S53)) (A1 : Option Addr) (c1 : Nat) (l1 : List (S56)) (a2 : Int) (r1 : List Int) (r2 : Int) (w : World) (hr0 : Kd.C k53 w A0 l0.length l0) (hc0 : l0.length ≤ c0) (hr1 : Kd.C k56 w A1 l1.length l1) (hc1 : l1.length ≤ c1) (h : cut_Sizes.f k l0 l1 a2 = some (r1,r2)) :
  Calls Try.prog 34 #[.slice A0 l0.length c0,.slice A1 l1.length c1,.int .i64 a2] w fun e w' => ∃ v0_ : Value,e = .returned (.tuple #[v0_,.int .i64 r2]) ∧ Kd.R (Kd.int .i64) 3 w' w.heap.size (fun _ => True) v0_ r1 ∧ Below w.heap.size w w':=by
 have HR0:=Aside0.mk hr0
 have HC0:=Aside0.mk hc0
 clear hr0 hc0
 have HR1:=Aside0.mk hr1
 have HC1:=Aside0.mk hc1
 clear hr1 hc1
 have HB:=Aside0.mk (Below.refl w.heap.size w)
 have H : ((cut_Blocks.f k l0 l1 a2).bind fun bt238 => (cut_Sizes.l0 k bt238.2 ([] : List Int) bt238.1 (bt238.1.length : Int) 0)) = some (r1,r2):=h
 clear h
 replace H:=Option.bind_eq_some_iff.mp H
 obtain ⟨⟨t238,t241⟩,A40,H⟩:=H
 replace H : (cut_Sizes.l0 k t241 ([] : List Int) t238 (t238.length : Int) 0) = some (r1,r2):=H
 have A4:=Aside0.mk A40
 clear A40
 have H':=Aside0.mk H
 clear H
 go_enter Try.func34,Try.ntmps34
 go_wp2_with (first | ((with_reducible refine gate_callee (f:=18) rfl ?_);refine goesL_ (some 17) rfl rfl Try.func18 (by kernel_rfl) rfl #[.slice A0 l0.length c0,.slice A1 l1.length c1,.int .i64 a2] rfl (by (try simp only [List.map_toArray,List.map_cons,List.map_nil]);first | done | rfl | (simp only [List.length_drop,List.length_take];rfl)) ?_;(with_reducible refine (cut_Blocks.calls k _ _ l0 (fun k_ => k_ < w.heap.size) _ _ l1 a2 t238 t241 _ ?side1 ?side2 ?side3 A4.out).mono ?_);(case side1 => repeat (first | exact HR0.out | (with_reducible refine Kd.C_alloc ?_ _) | (with_reducible refine Kd.C_drewN ?_ _) | (with_reducible refine Kd.C_drew ?_)));(case side2 => exact HC0.out);(case side3 => exact Kd.V_mk HC1.out (Kd.F_below (Kd.C_F k56_heap HR1.out) (by repeat (first | (with_reducible first | exact HB.out | apply below_alloc | apply pw_below_drewN | apply below_drew1) | exact HB.out))));rintro e w5 ⟨v239,rfl,ho0,hb⟩;refine ⟨_,rfl,?_⟩;have n0_:=Aside0.mk (Kd.R_lower (Kd.R_mono (ok':=fun k_ => True) ho0 (fun _ hk_ => trivial)) (below_size (by repeat (first | (with_reducible first | exact HB.out | apply below_alloc | apply pw_below_drewN | apply below_drew1) | exact HB.out))));have n1_:=Aside0.mk (below_step (by repeat (first | (with_reducible first | exact HB.out | apply below_alloc | apply pw_below_drewN | apply below_drew1) | exact HB.out)) hb);clear HB;have HO240:=n0_;have HB:=n1_;clear n0_ n1_;(try clear hb);(try clear hb2);(try clear hk);(try clear hi);(try clear ho0);obtain ⟨Ao6,co6,eo6⟩:=Kd.R_slice HO240.out;subst eo6))
 go_loopg [10,22] k (fun kq v10 v22 w' => ∃ (x10_1 : List Int) (x22_1 : Int),v22 = .int .i64 x22_1 ∧ Aside0 (cut_Sizes.l0 kq t241 x10_1 t238 (t238.length : Int) x22_1 = some (r1,r2)) ∧ Aside0 (kq ≤ k) ∧ Aside0 (Kd.R (Kd.int .i64) 3 w' w.heap.size (fun _ => True) v10 x10_1) ∧ Aside0 (Kd.R (Kd.slice 56 k56) 23 w' w.heap.size (fun _ => True) (.slice Ao6 t238.length co6) t238) ∧ Aside0 (Below w.heap.size w w'))
 case atStart => exact ⟨(([] : List Int)),(0),(by first | rfl | (simp;done) | (simp [*];done)),H',⟨Nat.le_refl _⟩,⟨by first | exact Kd.R_nil _ _ _ _ _ | exact Kd.N_nil _ _ _ _ _ | exact Kd.V_nil _ _ _ _ _ | exact Kd.Q_nil _ _ _ _ _ | exact Kd.S_nil _ _ _ _ _⟩,⟨by (with_reducible repeat (first | apply Kd.R_alloc | apply Kd.R_drewN | apply Kd.R_drew));exact HO240.out⟩,⟨by repeat (first | (with_reducible first | exact HB.out | apply below_alloc | apply pw_below_drewN | apply below_drew1) | exact HB.out)⟩⟩
 case round =>
  clear H'
  try clear c1
  try clear p2
  try clear c3
  obtain ⟨x10_1,x22_1,rfl,HA,HK1,HO_10,HO_20,HB⟩:=hrel
  cases gk with
  | zero => exact absurd HA.out (by simp [cut_Sizes.l0])
  | succ k1 =>
   have H:=HA.out
   clear HA
   simp only [cut_Sizes.l0] at H
   by_cases c7 : x22_1 < (t238.length : Int)
   ·rw [if_pos c7] at H
    have c7b0 : decide (x22_1 < (t238.length : Int)) = true:=decide_eq_true c7
    clear c7
    by_cases c8 : 0 ≤ x22_1
    ·rw [if_pos c8] at H
     have c8b0 : decide (0 ≤ x22_1) = true:=decide_eq_true c8
     clear c8
     by_cases c9 : x22_1 < (t238.length : Int)
     ·rw [if_pos c9] at H
      have c9b0 : decide (x22_1 < (t238.length : Int)) = true:=decide_eq_true c9
      clear c9
      by_cases c10 : x10_1.length < 17592186044416
      ·rw [if_pos c10] at H
       have LMc10:=Aside0.mk c10
       clear c10
       obtain ⟨y243,hy243⟩ : ∃ y_ : List Int,y_ = (x10_1 ++ [((rd_L11 t238 x22_1).length : Int)]):=⟨_,rfl⟩
       replace H : (cut_Sizes.l0 k1 t241 y243 t238 (t238.length : Int) (wrap64 (x22_1 + 1))) = some (r1,r2):=by first | (rw [hy243];with_reducible exact H) | (have H2_:=(Option.bind_some _ _).symm.trans H;rw [hy243];with_reducible exact H2_) | (have H2_:=(Option.bind_some _ _).symm.trans H;with_reducible exact H2_) | with_reducible exact H | (rw [hy243];exact H) | exact H
       have Ny243:=Aside0.mk hy243
       clear hy243
       have H':=Aside0.mk H
       clear H
       have p242 : 0 ≤ (x22_1 : Int):=of_decide_eq_true (by first | (with_reducible assumption) | assumption)
       have q242 : x22_1 < (t238.length : Int):=of_decide_eq_true (by first | (with_reducible assumption) | assumption)
       obtain ⟨ad242,A242_0,c242_0,e242,hx242_0,hl242_0,hi242_0⟩:=at_L11 (Kd.R_reads' HO_20.out).2.2 x22_1 p242 q242
       cases e242
       obtain ⟨ce242,hce242,hMe242,hcc242⟩:=Kd.R_get HO_20.out [] x22_1 p242 (by first | exact q242 | exact of_decide_eq_true (by first | (with_reducible assumption) | assumption) | (have e_:=(Kd.R_reads' HO_20.out).1;omega))
       obtain ⟨ve242_0,rfl,ge242_0⟩:=hMe242
       have hv242_0:=hcc242 0 _ rfl
       rw [Nat.add_zero,show ((Kd.slice 56 k56)).sz = 1 from rfl,Nat.mul_one] at hv242_0
       replace hv242_0:=Option.some.inj (hv242_0.symm.trans hx242_0)
       rw [hv242_0] at ge242_0
       have HL242_0:=Aside0.mk (show Kd.R k56 56 _ _ _ _ (rd_L11 t238 x22_1) from ge242_0)
       clear hv242_0 ge242_0
       clear hcc242 hce242
       have HR242_0:=Aside0.mk hi242_0
       have HC242_0:=Aside0.mk hl242_0
       clear hi242_0 hl242_0
       replace p242:=eq_true p242
       replace q242:=eq_true q242
       go_wp2_with (first | ((with_reducible refine gate_builtin (b:=.append) (xs:=#[.tmp 26,.tmp 29]) rfl ?_);at_builtin;refine Kd.R_append (Kd.int .i64) (w0:=w) w.heap.size rfl (.tmp 26) (.tmp 29) 51 3 (.int .i64 0) 8 rfl Try.underlying51 info3 rfl (by decide) (by omega) u10 x10_1 ((rd_L11 t238 x22_1).length : Int) [.int .i64 ((rd_L11 t238 x22_1).length : Int)] (fun _ => True) (fun _ => False) rfl rfl ?aP (fun _ hk => hk.elim) ?aF ?aO ?aB ?aS ?aL ?_;(case aP => exact rfl);(case aB => exact (by repeat (first | (with_reducible first | exact HB.out | apply below_alloc | apply pw_below_drewN | apply below_drew1) | exact HB.out)));(case aF => exact (fun _ _ => trivial));(case aO => exact (by (with_reducible repeat (first | apply Kd.R_alloc | apply Kd.R_drewN | apply Kd.R_drew));exact HO_10.out));(case aS => exact (below_size (by repeat (first | (with_reducible first | exact HB.out | apply below_alloc | apply pw_below_drewN | apply below_drew1) | exact HB.out))));(case aL => have:=LMc10.out;omega);intro v244 w11 ho hb hg hat;rw [← Ny243.out] at ho;have n0_:=Aside0.mk (Kd.R_over' (by (with_reducible repeat (first | apply Kd.R_alloc | apply Kd.R_drewN | apply Kd.R_drew));exact HO_20.out) (Kd.R_typed (by (with_reducible repeat (first | apply Kd.R_alloc | apply Kd.R_drewN | apply Kd.R_drew));exact HO_10.out)) (by decide) hg);have n1_:=Aside0.mk (Kd.R_over' (by (with_reducible repeat (first | apply Kd.R_alloc | apply Kd.R_drewN | apply Kd.R_drew));exact HL242_0.out) (Kd.R_typed (by (with_reducible repeat (first | apply Kd.R_alloc | apply Kd.R_drewN | apply Kd.R_drew));exact HO_10.out)) (by decide) hg);have n2_:=Aside0.mk (hb);have n3_:=Aside0.mk (ho);clear HO_20;clear HL242_0;clear HB;clear HO_10;have HO_20:=n0_;have HL242_0:=n1_;have HB:=n2_;have HO245:=n3_;clear n0_ n1_ n2_ n3_;clear ho hb hg hat))
       go_roundg k1
       case measure => have:=HK1.out;omega
       case rel => exact ⟨(y243),(wrap64 (x22_1 + 1)),(by first | rfl | (simp;done) | (simp [*];done)),H',⟨by have:=HK1.out;omega⟩,⟨by (with_reducible repeat (first | apply Kd.R_alloc | apply Kd.R_drewN | apply Kd.R_drew));exact HO245.out⟩,⟨by (with_reducible repeat (first | apply Kd.R_alloc | apply Kd.R_drewN | apply Kd.R_drew));exact HO_20.out⟩,⟨by repeat (first | (with_reducible first | exact HB.out | apply below_alloc | apply pw_below_drewN | apply below_drew1) | exact HB.out)⟩⟩
      ·rw [if_neg c10] at H
       exact absurd H (by simp)
     ·rw [if_neg c9] at H
      exact absurd H (by simp)
    ·rw [if_neg c8] at H
     exact absurd H (by simp)
   ·rw [if_neg c7] at H
    have c7b0 : decide (x22_1 < (t238.length : Int)) = false:=decide_eq_false c7
    clear c7
    simp only [Option.some.injEq,Prod.mk.injEq] at H
    obtain ⟨rfl,rfl⟩:=H
    go_wp2
    go_ret2
    exact ⟨_,by first | rfl | (simp [errW_none,errW_some] <;> rfl) | (simp [*,errW_none,errW_some] <;> rfl),by (with_reducible repeat (first | apply Kd.R_alloc | apply Kd.R_drewN | apply Kd.R_drew));exact HO_10.out,by repeat (first | (with_reducible first | exact HB.out | apply below_alloc | apply pw_below_drewN | apply below_drew1) | exact HB.out)⟩

/-! ### tachographref16_Same: function 35 -/
def tachographref16_Same.l0 : Nat → List Int → List Int → Int → Option (Bool)
 | 0, _, _, _ => none
 | k + 1, x0, x1, x5 => if x5 < (x0.length : Int) then (if 0 ≤ x5 then (if x5 < (x1.length : Int) then (if (rd x0 x5) = (rd x1 x5) then (tachographref16_Same.l0 k x0 x1 (wrap64 (x5 + 1))) else (some false)) else (none)) else (none)) else (some true)
def tachographref16_Same.f (k : Nat) (l0 : List Int) (l1 : List Int) : Option (Bool) := if (l0.length : Int) = (l1.length : Int) then (tachographref16_Same.l0 k l0 l1 0) else (some false)
theorem tachographref16_Same.mono_l : ∀ k, (∀ y0 y1 y2, LeO (tachographref16_Same.l0 k y0 y1 y2) (tachographref16_Same.l0 (k + 1) y0 y1 y2))
 | 0 => fun _ _ _ r h => by simp [tachographref16_Same.l0] at h
 | k + 1 => by
  have ih0 := tachographref16_Same.mono_l k
  ·intro y0 y1 y2
   unfold tachographref16_Same.l0
   repeat' first
   | (with_reducible exact ih0 _ _ _)
   | (with_reducible exact LeO.refl _)
   | (with_reducible exact LeO.none _)
   | (with_reducible refine LeO.ite ?_ ?_)
   | (with_reducible refine LeO.bind ?_ (fun _ => ?_))
   | exact ih0 _ _ _
   | exact LeO.none _
   | refine LeO.ite ?_ ?_
   | refine LeO.bind ?_ (fun _ => ?_)
theorem tachographref16_Same.mono : ∀ a0 a1 k, LeO (tachographref16_Same.f k a0 a1) (tachographref16_Same.f (k + 1) a0 a1) := by
 intro a0 a1 k
 have ih0 := tachographref16_Same.mono_l k
 unfold tachographref16_Same.f
 repeat' first
   | (with_reducible exact ih0 _ _ _)
   | (with_reducible exact LeO.refl _)
   | (with_reducible exact LeO.none _)
   | (with_reducible refine LeO.ite ?_ ?_)
   | (with_reducible refine LeO.bind ?_ (fun _ => ?_))
   | exact ih0 _ _ _
   | exact LeO.none _
   | refine LeO.ite ?_ ?_
   | refine LeO.bind ?_ (fun _ => ?_)
set_option maxHeartbeats 8000000 in
set_option maxRecDepth 100000 in
theorem tachographref16_Same.calls (k : Nat) (A0 : Option Addr) (c0 : Nat) (l0 : List Int) (A1 : Option Addr) (c1 : Nat) (l1 : List Int) (r : Bool) (w : World) (hr0 : Kd.C (Kd.int .i64) w A0 l0.length l0) (hc0 : l0.length ≤ c0) (hr1 : Kd.C (Kd.int .i64) w A1 l1.length l1) (hc1 : l1.length ≤ c1) (h : tachographref16_Same.f k l0 l1 = some r) :
  Calls Try.prog 35 #[.slice A0 l0.length c0,.slice A1 l1.length c1] w fun e w' => e = .returned (.bool r) ∧ Drawn0 w w':=by
 have HR0:=Aside0.mk hr0
 have HC0:=Aside0.mk hc0
 clear hr0 hc0
 have HR1:=Aside0.mk hr1
 have HC1:=Aside0.mk hc1
 clear hr1 hc1
 have H : (if (l0.length : Int) = (l1.length : Int) then (tachographref16_Same.l0 k l0 l1 0) else (some false)) = some r:=h
 clear h
 by_cases c3 : (l0.length : Int) = (l1.length : Int)
 ·rw [if_pos c3] at H
  have c3b0 : ((l0.length : Int) == (l1.length : Int)) = true:=beq_iff_eq.mpr c3
  have c3b1 : ((l0.length : Int) != (l1.length : Int)) = false:=bne_eq_false_iff_eq.mpr c3
  have c3b2 : (l0.length == l1.length) = true:=by first | simpa using c3 | (simp at c3 ⊢;omega)
  clear c3
  have H':=Aside0.mk H
  clear H
  go_enter Try.func35,Try.ntmps35
  go_wp2
  repeat (go_quiet (fail);try go_wp2)
  go_loopg [5] k (fun kq v5 w' => ∃ (x5_1 : Int),v5 = .int .i64 x5_1 ∧ Aside0 (tachographref16_Same.l0 kq l0 l1 x5_1 = some r) ∧ Aside0 (kq ≤ k) ∧ Drawn0 w w')
  case atStart => exact ⟨(0),(by first | rfl | (simp;done) | (simp [*];done)),H',⟨Nat.le_refl _⟩,by repeat (first | exact Drawn0.refl _ | apply Drawn0.step)⟩
  case round =>
   clear H'
   try clear c1
   try clear p2
   try clear c3
   try clear c3b0
   try clear c3b1
   try clear c3b2
   obtain ⟨x5_1,rfl,HA,HK1,⟨m1,rfl⟩⟩:=hrel
   cases gk with
   | zero => exact absurd HA.out (by simp [tachographref16_Same.l0])
   | succ k1 =>
    have H:=HA.out
    clear HA
    simp only [tachographref16_Same.l0] at H
    by_cases c4 : x5_1 < (l0.length : Int)
    ·rw [if_pos c4] at H
     have c4b0 : decide (x5_1 < (l0.length : Int)) = true:=decide_eq_true c4
     clear c4
     by_cases c5 : 0 ≤ x5_1
     ·rw [if_pos c5] at H
      have c5b0 : decide (0 ≤ x5_1) = true:=decide_eq_true c5
      clear c5
      by_cases c6 : x5_1 < (l1.length : Int)
      ·rw [if_pos c6] at H
       have c6b0 : decide (x5_1 < (l1.length : Int)) = true:=decide_eq_true c6
       clear c6
       by_cases c7 : (rd l0 x5_1) = (rd l1 x5_1)
       ·rw [if_pos c7] at H
        have c7b0 : ((rd l0 x5_1) == (rd l1 x5_1)) = true:=beq_iff_eq.mpr c7
        have c7b1 : ((rd l0 x5_1) != (rd l1 x5_1)) = false:=bne_eq_false_iff_eq.mpr c7
        clear c7
        have H':=Aside0.mk H
        clear H
        have p246 : 0 ≤ (x5_1 : Int):=of_decide_eq_true (by first | (with_reducible assumption) | assumption)
        have q246 : x5_1 < (l0.length : Int):=of_decide_eq_true (by first | (with_reducible assumption) | assumption)
        obtain ⟨ad246,e246,hx246_0⟩:=Kd.at_int HR0.out x5_1 p246 q246
        cases e246
        replace p246:=eq_true p246
        replace q246:=eq_true q246
        have p247 : 0 ≤ (x5_1 : Int):=of_decide_eq_true (by first | (with_reducible assumption) | assumption)
        have q247 : x5_1 < (l1.length : Int):=of_decide_eq_true (by first | (with_reducible assumption) | assumption)
        obtain ⟨ad247,e247,hx247_0⟩:=Kd.at_int HR1.out x5_1 p247 q247
        cases e247
        replace p247:=eq_true p247
        replace q247:=eq_true q247
        go_wp2
        repeat (go_quiet (fail);try go_wp2)
        go_roundg k1
        case measure => have:=HK1.out;omega
        case rel => exact ⟨(wrap64 (x5_1 + 1)),(by first | rfl | (simp;done) | (simp [*];done)),H',⟨by have:=HK1.out;omega⟩,by repeat (first | exact Drawn0.refl _ | apply Drawn0.step)⟩
       ·rw [if_neg c7] at H
        have c7b0 : ((rd l0 x5_1) == (rd l1 x5_1)) = false:=beq_eq_false_iff_ne.mpr c7
        have c7b1 : ((rd l0 x5_1) != (rd l1 x5_1)) = true:=bne_iff_ne.mpr c7
        obtain rfl:=Option.some.inj H
        have p246 : 0 ≤ (x5_1 : Int):=of_decide_eq_true (by first | (with_reducible assumption) | assumption)
        have q246 : x5_1 < (l0.length : Int):=of_decide_eq_true (by first | (with_reducible assumption) | assumption)
        obtain ⟨ad246,e246,hx246_0⟩:=Kd.at_int HR0.out x5_1 p246 q246
        cases e246
        replace p246:=eq_true p246
        replace q246:=eq_true q246
        have p247 : 0 ≤ (x5_1 : Int):=of_decide_eq_true (by first | (with_reducible assumption) | assumption)
        have q247 : x5_1 < (l1.length : Int):=of_decide_eq_true (by first | (with_reducible assumption) | assumption)
        obtain ⟨ad247,e247,hx247_0⟩:=Kd.at_int HR1.out x5_1 p247 q247
        cases e247
        replace p247:=eq_true p247
        replace q247:=eq_true q247
        go_wp2
        repeat (go_quiet (fail);try go_wp2)
        go_ret
        exact ⟨by first | rfl | (simp;done) | (simp [*];done),by repeat (first | exact Drawn0.refl _ | apply Drawn0.step)⟩
      ·rw [if_neg c6] at H
       exact absurd H (by simp)
     ·rw [if_neg c5] at H
      exact absurd H (by simp)
    ·rw [if_neg c4] at H
     have c4b0 : decide (x5_1 < (l0.length : Int)) = false:=decide_eq_false c4
     clear c4
     obtain rfl:=Option.some.inj H
     go_wp2
     repeat (go_quiet (fail);try go_wp2)
     go_ret
     exact ⟨by first | rfl | (simp;done) | (simp [*];done),by repeat (first | exact Drawn0.refl _ | apply Drawn0.step)⟩
 ·rw [if_neg c3] at H
  have c3b0 : ((l0.length : Int) == (l1.length : Int)) = false:=beq_eq_false_iff_ne.mpr c3
  have c3b1 : ((l0.length : Int) != (l1.length : Int)) = true:=bne_iff_ne.mpr c3
  have c3b2 : (l0.length == l1.length) = false:=by first | simpa using c3 | (simp at c3 ⊢;omega)
  obtain rfl:=Option.some.inj H
  go_enter Try.func35,Try.ntmps35
  go_wp2
  repeat (go_quiet (fail);try go_wp2)
  go_ret
  exact ⟨by first | rfl | (simp;done) | (simp [*];done),by repeat (first | exact Drawn0.refl _ | apply Drawn0.step)⟩

end Go.Proofs.Ytmmfakdncjeoeaa.PC
