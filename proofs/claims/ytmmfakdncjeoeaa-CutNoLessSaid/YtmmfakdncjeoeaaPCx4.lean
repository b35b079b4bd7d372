-- Contracts of Go functions, each with its plain Lean function: written by wip/tools/myprint.py of this work (the kit's print, with contracts proved by hand spliced in).
import Derived.Test.YtmmfakdncjeoeaaPCx0
import Derived.Test.YtmmfakdncjeoeaaPCx3
namespace Go.Proofs.Ytmmfakdncjeoeaa.PC
open Go.RowKit Go.Proofs.YtmmfakdncjeoeaaW.PrintWords Go.Proofs.YtmmfakdncjeoeaaW.PrintLast Go.Proofs.YtmmfakdncjeoeaaW.PrintMore
attribute [local go_sem] max2_int min2_int max_two min_two max_three min_three max_four min_four   -- for this text's walks alone
set_option linter.unusedVariables false
set_option linter.unusedSimpArgs false

/-! ### dict_Of: function 57 -/
mutual
def dict_Of.l0 : Nat → List (S56) → Int → Int → ByteArray → Option ByteArray
  | 0, _, _, _, _ => none
  | k + 1, x11, x12, x13, x126000 => if x13 < x12 then (if 0 ≤ x13 then (if x13 < (x11.length : Int) then (dict_Of.l1 k x11 x12 x13 ((rd_T56 x11 x13).f1) (((rd_T56 x11 x13).f1).length : Int) 0 x126000) else (none)) else (none)) else (some x126000)
def dict_Of.l1 : Nat → List (S56) → Int → Int → List (S59) → Int → Int → ByteArray → Option ByteArray
  | 0, _, _, _, _, _, _, _ => none
  | k + 1, x11, x12, x13, x18, x19, x20, x126000 => if x20 < x19 then (if 0 ≤ x20 then (if x20 < (x18.length : Int) then (dict_Of.l2 k x11 x12 x13 x18 x19 x20 ((rd_T59 x18 x20).f1) (((rd_T59 x18 x20).f1).length : Int) 0 x126000) else (none)) else (none)) else (dict_Of.l0 k x11 x12 (wrap64 (x13 + 1)) x126000)
def dict_Of.l2 : Nat → List (S56) → Int → Int → List (S59) → Int → Int → List (S61) → Int → Int → ByteArray → Option ByteArray
  | 0, _, _, _, _, _, _, _, _, _, _ => none
  | k + 1, x11, x12, x13, x18, x19, x20, x25, x26, x27, x126000 => if x27 < x26 then (if 0 ≤ x27 then (if x27 < (x25.length : Int) then (if ((rd_T61 x25 x27).f0) = 2 then ((dict_Dict_Put.f x126000 ((rd_T61 x25 x27).f2)).bind fun bt136 => (dict_Of.l2 k x11 x12 x13 x18 x19 x20 x25 x26 (wrap64 (x27 + 1)) bt136.2)) else (dict_Of.l2 k x11 x12 x13 x18 x19 x20 x25 x26 (wrap64 (x27 + 1)) x126000)) else (none)) else (none)) else (dict_Of.l1 k x11 x12 x13 x18 x19 (wrap64 (x20 + 1)) x126000)
end
def dict_Of.f (k : Nat) (l0 : List (S56)) : Option ByteArray := (dict_New.f).bind fun t124 => (dict_Of.l0 k l0 (l0.length : Int) 0 t124)
theorem dict_Of.mono_l : ∀ k, (∀ y0 y1 y2 y3, LeO (dict_Of.l0 k y0 y1 y2 y3) (dict_Of.l0 (k + 1) y0 y1 y2 y3)) ∧ (∀ y0 y1 y2 y3 y4 y5 y6, LeO (dict_Of.l1 k y0 y1 y2 y3 y4 y5 y6) (dict_Of.l1 (k + 1) y0 y1 y2 y3 y4 y5 y6)) ∧ (∀ y0 y1 y2 y3 y4 y5 y6 y7 y8 y9, LeO (dict_Of.l2 k y0 y1 y2 y3 y4 y5 y6 y7 y8 y9) (dict_Of.l2 (k + 1) y0 y1 y2 y3 y4 y5 y6 y7 y8 y9))
  | 0 => ⟨fun _ _ _ _ r h => by simp [dict_Of.l0] at h, fun _ _ _ _ _ _ _ r h => by simp [dict_Of.l1] at h, fun _ _ _ _ _ _ _ _ _ _ r h => by simp [dict_Of.l2] at h⟩
  | k + 1 => by
    obtain ⟨ih0, ih1, ih2⟩ := dict_Of.mono_l k
    refine ⟨?_, ?_, ?_⟩
    · intro y0 y1 y2 y3
      unfold dict_Of.l0
      repeat' first
      | (with_reducible exact ih0 _ _ _ _)
      | (with_reducible exact ih1 _ _ _ _ _ _ _)
      | (with_reducible exact ih2 _ _ _ _ _ _ _ _ _ _)
      | (with_reducible exact LeO.refl _)
      | (with_reducible exact LeO.none _)
      | (with_reducible refine LeO.ite ?_ ?_)
      | (with_reducible refine LeO.bind ?_ (fun _ => ?_))
      | exact ih0 _ _ _ _
      | exact ih1 _ _ _ _ _ _ _
      | exact ih2 _ _ _ _ _ _ _ _ _ _
      | exact LeO.none _
      | refine LeO.ite ?_ ?_
      | refine LeO.bind ?_ (fun _ => ?_)
    · intro y0 y1 y2 y3 y4 y5 y6
      unfold dict_Of.l1
      repeat' first
      | (with_reducible exact ih0 _ _ _ _)
      | (with_reducible exact ih1 _ _ _ _ _ _ _)
      | (with_reducible exact ih2 _ _ _ _ _ _ _ _ _ _)
      | (with_reducible exact LeO.refl _)
      | (with_reducible exact LeO.none _)
      | (with_reducible refine LeO.ite ?_ ?_)
      | (with_reducible refine LeO.bind ?_ (fun _ => ?_))
      | exact ih0 _ _ _ _
      | exact ih1 _ _ _ _ _ _ _
      | exact ih2 _ _ _ _ _ _ _ _ _ _
      | exact LeO.none _
      | refine LeO.ite ?_ ?_
      | refine LeO.bind ?_ (fun _ => ?_)
    · intro y0 y1 y2 y3 y4 y5 y6 y7 y8 y9
      unfold dict_Of.l2
      repeat' first
      | (with_reducible exact ih0 _ _ _ _)
      | (with_reducible exact ih1 _ _ _ _ _ _ _)
      | (with_reducible exact ih2 _ _ _ _ _ _ _ _ _ _)
      | (with_reducible exact LeO.refl _)
      | (with_reducible exact LeO.none _)
      | (with_reducible refine LeO.ite ?_ ?_)
      | (with_reducible refine LeO.bind ?_ (fun _ => ?_))
      | exact ih0 _ _ _ _
      | exact ih1 _ _ _ _ _ _ _
      | exact ih2 _ _ _ _ _ _ _ _ _ _
      | exact LeO.none _
      | refine LeO.ite ?_ ?_
      | refine LeO.bind ?_ (fun _ => ?_)
theorem dict_Of.mono : ∀ a0 k, LeO (dict_Of.f k a0) (dict_Of.f (k + 1) a0) := by
  intro a0 k
  obtain ⟨ih0, ih1, ih2⟩ := dict_Of.mono_l k
  unfold dict_Of.f
  repeat' first
      | (with_reducible exact ih0 _ _ _ _)
      | (with_reducible exact ih1 _ _ _ _ _ _ _)
      | (with_reducible exact ih2 _ _ _ _ _ _ _ _ _ _)
      | (with_reducible exact LeO.refl _)
      | (with_reducible exact LeO.none _)
      | (with_reducible refine LeO.ite ?_ ?_)
      | (with_reducible refine LeO.bind ?_ (fun _ => ?_))
      | exact ih0 _ _ _ _
      | exact ih1 _ _ _ _ _ _ _
      | exact ih2 _ _ _ _ _ _ _ _ _ _
      | exact LeO.none _
      | refine LeO.ite ?_ ?_
      | refine LeO.bind ?_ (fun _ => ?_)
set_option maxHeartbeats 8000000 in
set_option maxRecDepth 100000 in
theorem dict_Of.calls (k : Nat) (A0 : Option Addr) (c0 : Nat) (l0 : List (S56)) (r : ByteArray) (w0 w : World) (hB0 : Below w0.heap.size w0 w) (hr0 : Kd.C k56 w A0 l0.length l0) (hc0 : l0.length ≤ c0) (h : dict_Of.f k l0 = some r) :
    Calls Try.prog 57 #[.slice A0 l0.length c0] w fun e w' => ∃ g_ : Nat, e = .returned (.pointer (some ⟨g_, 0, none⟩)) ∧ IsS143 w0 w' g_ r ∧ Below w0.heap.size w0 w' ∧ Below w.heap.size w w' := by
  have HB0 := Aside0.mk hB0
  clear hB0
  have hu56 := Try.underlying56
  have hu59 := Try.underlying59
  have hu61 := Try.underlying61
  have HR0 := Aside0.mk hr0
  have HC0 := Aside0.mk hc0
  clear hr0 hc0
  have HB := Aside0.mk (Below.refl w.heap.size w)
  have H : ((dict_New.f).bind fun t124 => (dict_Of.l0 k l0 (l0.length : Int) 0 t124)) = some r := h
  clear h
  replace H := Option.bind_eq_some_iff.mp H
  obtain ⟨t124, A20, H⟩ := H
  replace H : (dict_Of.l0 k l0 (l0.length : Int) 0 t124) = some r := H
  have A2 := Aside0.mk A20
  clear A20
  have H' := Aside0.mk H
  clear H
  go_enter Try.func57, Try.ntmps57
  go_wp2_with (first | ((with_reducible refine gate_callee (f := 73) rfl ?_); refine goesL_ (some 10) rfl rfl Try.func73 (by kernel_rfl) rfl #[] rfl (by (try simp only [List.map_toArray, List.map_cons, List.map_nil]); first | done | rfl | (simp only [List.length_drop, List.length_take]; rfl) | (refine congrArg (fun z_ => #[z_]) (congrArg (Value.int IntKind.u64) (Eq.symm (Go.Proofs.YtmmfakdncjeoeaaAid.wrap_len _ (by omega)))))) ?_; (with_reducible refine (dict_New.calls  t124 w _ ?side1 A2.out).mono ?_); (case side1 => repeat (first | (with_reducible first | exact HB.out | apply below_alloc | apply pw_below_drewN | apply below_drew1) | exact HB.out)); rintro e w3 ⟨g125, rfl, hi, hb, hb2⟩; refine ⟨_, rfl, ?_⟩; have n0_ := Aside0.mk (hb); have n1_ := Aside0.mk (hi); clear HB; have HB := n0_; have HI125 := n1_; clear n0_ n1_; (try clear hb); (try clear hb2); (try clear hk); (try clear hi)))
  go_loopg [13] k (fun kq v13 w' => ∃ (x13_1 : Int) (x126000_1 : ByteArray), v13 = .int .i64 x13_1 ∧ Aside0 (dict_Of.l0 kq l0 (l0.length : Int) x13_1 x126000_1 = some r) ∧ Aside0 (kq ≤ k) ∧ Aside0 (IsS143 w w' g125 x126000_1) ∧ Aside0 (Below w.heap.size w w'))
  case atStart => exact ⟨(0), (t124), (by first | rfl | (simp; done) | (simp [*]; done)), H', ⟨Nat.le_refl _⟩, ⟨by repeat (first | (with_reducible first | exact HI125.out | apply IsS143.alloc | apply IsS143.drewN | apply IsS143.drew | apply IsS143.set_0) | exact HI125.out)⟩, ⟨by repeat (first | (with_reducible first | exact HB.out | apply below_alloc | apply pw_below_drewN | apply below_drew1 | refine below_set ?_ (IsS143.ge HI125.out)) | exact HB.out)⟩⟩
  case round =>
    clear H'
    try clear p2
    obtain ⟨x13_1, x126000_1, rfl, HA, HK1, HI125, HB⟩ := hrel
    cases gk with
    | zero => exact absurd HA.out (by simp [dict_Of.l0])
    | succ k1 =>
      have H := HA.out
      clear HA
      simp only [dict_Of.l0] at H
      by_cases c4 : x13_1 < (l0.length : Int)
      · rw [if_pos c4] at H
        have c4b0 : decide (x13_1 < (l0.length : Int)) = true := decide_eq_true c4
        clear c4
        by_cases c5 : 0 ≤ x13_1
        · rw [if_pos c5] at H
          have c5b0 : decide (0 ≤ x13_1) = true := decide_eq_true c5
          clear c5
          by_cases c6 : x13_1 < (l0.length : Int)
          · rw [if_pos c6] at H
            have c6b0 : decide (x13_1 < (l0.length : Int)) = true := decide_eq_true c6
            clear c6
            have H' := Aside0.mk H
            clear H
            have p130 : 0 ≤ (x13_1 : Int) := of_decide_eq_true (by first | (with_reducible assumption) | assumption)
            have q130 : x13_1 < (l0.length : Int) := of_decide_eq_true (by first | (with_reducible assumption) | assumption)
            obtain ⟨ad130, A130_1, c130_1, e130, hx130_0, hx130_1, hl130_1, hi130_1⟩ := at_T56 HR0.out x13_1 p130 q130
            cases e130
            replace hx130_0 := (HB.out.cell (World.block_lt_of_cell? w _ hx130_0)).trans hx130_0
            replace hx130_1 := (HB.out.cell (World.block_lt_of_cell? w _ hx130_1)).trans hx130_1
            have HR130_1 := Aside0.mk hi130_1
            have HC130_1 := Aside0.mk hl130_1
            clear hi130_1 hl130_1
            replace p130 := eq_true p130
            replace q130 := eq_true q130
            go_wp2_with (first | ((with_reducible refine gate_dst (N := 5) rfl ?_); refine box_event ?hg (N := 5) ?hd (cs := #[.int .u64 0, .slice none 0 0]) (t := 56) ?hr ?_; (case hd => rfl); (case hg => rfl); (case hr => first | (go_simp; done) | (go_simp; rfl)); intro gb131 hg w7 hbox hb; have n0_ := Aside0.mk (IsS143.below (by repeat (first | (with_reducible first | exact HI125.out | apply IsS143.alloc | apply IsS143.drewN | apply IsS143.drew | apply IsS143.set_0) | exact HI125.out)) hb); have n1_ := Aside0.mk (below_step (by repeat (first | (with_reducible first | exact HB.out | apply below_alloc | apply pw_below_drewN | apply below_drew1 | refine below_set ?_ (IsS143.ge HI125.out)) | exact HB.out)) hb); have n2_ := Aside0.mk (hbox); have n3_ := Aside0.mk ((by rw [hg]; exact (below_size (by repeat (first | (with_reducible first | exact HB.out | apply below_alloc | apply pw_below_drewN | apply below_drew1 | refine below_set ?_ (IsS143.ge HI125.out)) | exact HB.out))) : w.heap.size ≤ gb131)); have n4_ := Aside0.mk ((by rw [hg]; exact (below_size (by repeat (first | (with_reducible first | exact HB.out | apply below_alloc | apply pw_below_drewN | apply below_drew1 | refine below_set ?_ (IsS143.ge HI125.out)) | exact HB.out))) : w.heap.size ≤ gb131)); have n5_ := Aside0.mk ((by rw [hg]; exact Nat.ne_of_lt (IsS143.lt (show IsS143 w _ g125 x126000_1 from by repeat (first | (with_reducible first | exact HI125.out | apply IsS143.alloc | apply IsS143.drewN | apply IsS143.drew | apply IsS143.set_0) | exact HI125.out))) : g125 ≠ gb131)); have n6_ := Aside0.mk ((by rw [hg]; exact Nat.ne_of_gt (IsS143.lt (show IsS143 w _ g125 x126000_1 from by repeat (first | (with_reducible first | exact HI125.out | apply IsS143.alloc | apply IsS143.drewN | apply IsS143.drew | apply IsS143.set_0) | exact HI125.out))) : gb131 ≠ g125)); clear HI125; clear HB; have HI125 := n0_; have HB := n1_; have BK131 := n2_; have GW131 := n3_; have GE131 := n4_; have NB125_131 := n5_; have NB131_125 := n6_; clear n0_ n1_ n2_ n3_ n4_ n5_ n6_; clear hb hbox hg; have hnb8 := NB131_125.out; have hnc8 := NB125_131.out; have hcz9_0 : w7.cell? ⟨gb131, 0, none⟩ = some (.int .u64 0) := (blk_cell BK131.out 0).trans rfl; have hcz9_1 : w7.cell? ⟨gb131, 1, none⟩ = some (.slice none 0 0) := (blk_cell BK131.out 1).trans rfl; have hfz9_0 := blk_frozen BK131.out 0; have hfz9_1 := blk_frozen BK131.out 1))
            go_loopg [20] k1 (fun kq v20 w' => ∃ (x20_2 : Int) (x126000_2 : ByteArray), v20 = .int .i64 x20_2 ∧ Aside0 (dict_Of.l1 kq l0 (l0.length : Int) x13_1 ((rd_T56 l0 x13_1).f1) (((rd_T56 l0 x13_1).f1).length : Int) x20_2 x126000_2 = some r) ∧ Aside0 (kq ≤ k1) ∧ Aside0 (w'.heap[gb131]? = some (.cells #[.int .u64 ((rd_T56 l0 x13_1).f0), (.slice A130_1 ((rd_T56 l0 x13_1).f1).length c130_1)] 56 (0, 0))) ∧ Aside0 (IsS143 w w' g125 x126000_2) ∧ Aside0 (Below w.heap.size w w'))
            case atStart => exact ⟨(0), (x126000_1), (by first | rfl | (simp; done) | (simp [*]; done)), H', ⟨Nat.le_refl _⟩, ⟨by (with_reducible repeat (first | refine blk_drewN ?_ _ | refine blk_drew ?_ | refine blk_alloc ?_ _)); refine blk_put (cs := #[.int .u64 ((rd_T56 l0 x13_1).f0), .slice none 0 0]) ?_ 1 _ rfl; (with_reducible repeat (first | refine blk_drewN ?_ _ | refine blk_drew ?_ | refine blk_alloc ?_ _)); refine blk_put (cs := #[.int .u64 0, .slice none 0 0]) ?_ 0 _ rfl; (with_reducible repeat (first | refine blk_drewN ?_ _ | refine blk_drew ?_ | refine blk_alloc ?_ _)); exact BK131.out⟩, ⟨by repeat (first | (with_reducible first | exact HI125.out | apply IsS143.alloc | apply IsS143.drewN | apply IsS143.drew | apply IsS143.set_0 | refine IsS143.farT (t := 56) (a := gb131) ?_ (by (with_reducible repeat (first | exact Go.Proofs.YtmmfakdncjeoeaaAid.TyAt.mk BK131.out | apply Go.Proofs.YtmmfakdncjeoeaaAid.TyAt.set | apply Go.Proofs.YtmmfakdncjeoeaaAid.TyAt.alloc | apply Go.Proofs.YtmmfakdncjeoeaaAid.TyAt.drewN | apply Go.Proofs.YtmmfakdncjeoeaaAid.TyAt.drew))) (by decide) (by decide) _) | exact HI125.out)⟩, ⟨by repeat (first | (with_reducible first | exact HB.out | apply below_alloc | apply pw_below_drewN | apply below_drew1 | refine below_set ?_ (IsS143.ge HI125.out) | refine below_set ?_ GE131.out) | exact HB.out)⟩⟩
            case round =>
              clear H'
              try clear c1
              try clear p1
              try clear q1
              try clear hx1
              try clear p2
              try clear c4
              try clear c4b0
              try clear c5
              try clear c5b0
              try clear c6
              try clear c6b0
              try clear c7
              try clear c8
              try clear hcz9_0
              try clear hcz9_1
              try clear hfz9_0
              try clear hfz9_1
              try clear hx130_0
              try clear hx130_1
              try clear p130
              try clear p2
              try clear q130
              obtain ⟨x20_2, x126000_2, rfl, HA, HK2, BK131, HI125, HB⟩ := hrel
              cases gk with
              | zero => exact absurd HA.out (by simp [dict_Of.l1])
              | succ k2 =>
                have H := HA.out
                clear HA
                simp only [dict_Of.l1] at H
                by_cases c10 : x20_2 < (((rd_T56 l0 x13_1).f1).length : Int)
                · rw [if_pos c10] at H
                  have c10b0 : decide (x20_2 < (((rd_T56 l0 x13_1).f1).length : Int)) = true := decide_eq_true c10
                  clear c10
                  by_cases c11 : 0 ≤ x20_2
                  · rw [if_pos c11] at H
                    have c11b0 : decide (0 ≤ x20_2) = true := decide_eq_true c11
                    clear c11
                    by_cases c12 : x20_2 < (((rd_T56 l0 x13_1).f1).length : Int)
                    · rw [if_pos c12] at H
                      have c12b0 : decide (x20_2 < (((rd_T56 l0 x13_1).f1).length : Int)) = true := decide_eq_true c12
                      clear c12
                      have H' := Aside0.mk H
                      clear H
                      have p132 : 0 ≤ (x20_2 : Int) := of_decide_eq_true (by first | (with_reducible assumption) | assumption)
                      have q132 : x20_2 < (((rd_T56 l0 x13_1).f1).length : Int) := of_decide_eq_true (by first | (with_reducible assumption) | assumption)
                      obtain ⟨ad132, A132_1, c132_1, e132, hx132_0, hx132_1, hl132_1, hi132_1⟩ := at_T59 HR130_1.out x20_2 p132 q132
                      cases e132
                      replace hx132_0 := (HB.out.cell (World.block_lt_of_cell? w _ hx132_0)).trans hx132_0
                      replace hx132_1 := (HB.out.cell (World.block_lt_of_cell? w _ hx132_1)).trans hx132_1
                      have HR132_1 := Aside0.mk hi132_1
                      have HC132_1 := Aside0.mk hl132_1
                      clear hi132_1 hl132_1
                      replace p132 := eq_true p132
                      replace q132 := eq_true q132
                      go_wp2_with (first | ((with_reducible refine gate_dst (N := 7) rfl ?_); refine box_event ?hg (N := 7) ?hd (cs := #[.int .i64 0, .slice none 0 0]) (t := 59) ?hr ?_; (case hd => rfl); (case hg => rfl); (case hr => first | (go_simp; done) | (go_simp; rfl)); intro gb133 hg w13 hbox hb; have n0_ := Aside0.mk (blk_below (g := gb131) (o := .cells #[.int .u64 ((rd_T56 l0 x13_1).f0), .slice (some ad132) ((rd_T56 l0 x13_1).f1).length c130_1] 56 (0, 0)) (by (with_reducible repeat (first | refine blk_drewN ?_ _ | refine blk_drew ?_ | refine blk_alloc ?_ _)); exact BK131.out) hb); have n1_ := Aside0.mk (IsS143.below (by repeat (first | (with_reducible first | exact HI125.out | apply IsS143.alloc | apply IsS143.drewN | apply IsS143.drew | apply IsS143.set_0 | refine IsS143.farT (t := 56) (a := gb131) ?_ (by (with_reducible repeat (first | exact Go.Proofs.YtmmfakdncjeoeaaAid.TyAt.mk BK131.out | apply Go.Proofs.YtmmfakdncjeoeaaAid.TyAt.set | apply Go.Proofs.YtmmfakdncjeoeaaAid.TyAt.alloc | apply Go.Proofs.YtmmfakdncjeoeaaAid.TyAt.drewN | apply Go.Proofs.YtmmfakdncjeoeaaAid.TyAt.drew))) (by decide) (by decide) _) | exact HI125.out)) hb); have n2_ := Aside0.mk (below_step (by repeat (first | (with_reducible first | exact HB.out | apply below_alloc | apply pw_below_drewN | apply below_drew1 | refine below_set ?_ (IsS143.ge HI125.out) | refine below_set ?_ GE131.out) | exact HB.out)) hb); have n3_ := Aside0.mk (hbox); have n4_ := Aside0.mk ((by rw [hg]; exact (below_size (by repeat (first | (with_reducible first | exact HB.out | apply below_alloc | apply pw_below_drewN | apply below_drew1 | refine below_set ?_ (IsS143.ge HI125.out) | refine below_set ?_ GE131.out) | exact HB.out))) : w.heap.size ≤ gb133)); have n5_ := Aside0.mk ((by rw [hg]; exact (below_size (by repeat (first | (with_reducible first | exact HB.out | apply below_alloc | apply pw_below_drewN | apply below_drew1 | refine below_set ?_ (IsS143.ge HI125.out) | refine below_set ?_ GE131.out) | exact HB.out))) : w.heap.size ≤ gb133)); have n6_ := Aside0.mk ((by rw [hg]; exact Nat.ne_of_lt (blk_lt (g := gb131) (o := .cells #[.int .u64 ((rd_T56 l0 x13_1).f0), .slice (some ad132) ((rd_T56 l0 x13_1).f1).length c130_1] 56 (0, 0)) (by (with_reducible repeat (first | refine blk_drewN ?_ _ | refine blk_drew ?_ | refine blk_alloc ?_ _)); exact BK131.out)) : gb131 ≠ gb133)); have n7_ := Aside0.mk ((by rw [hg]; exact Nat.ne_of_gt (blk_lt (g := gb131) (o := .cells #[.int .u64 ((rd_T56 l0 x13_1).f0), .slice (some ad132) ((rd_T56 l0 x13_1).f1).length c130_1] 56 (0, 0)) (by (with_reducible repeat (first | refine blk_drewN ?_ _ | refine blk_drew ?_ | refine blk_alloc ?_ _)); exact BK131.out)) : gb133 ≠ gb131)); have n8_ := Aside0.mk ((by rw [hg]; exact Nat.ne_of_lt (IsS143.lt (show IsS143 w _ g125 x126000_2 from by repeat (first | (with_reducible first | exact HI125.out | apply IsS143.alloc | apply IsS143.drewN | apply IsS143.drew | apply IsS143.set_0 | refine IsS143.farT (t := 56) (a := gb131) ?_ (by (with_reducible repeat (first | exact Go.Proofs.YtmmfakdncjeoeaaAid.TyAt.mk BK131.out | apply Go.Proofs.YtmmfakdncjeoeaaAid.TyAt.set | apply Go.Proofs.YtmmfakdncjeoeaaAid.TyAt.alloc | apply Go.Proofs.YtmmfakdncjeoeaaAid.TyAt.drewN | apply Go.Proofs.YtmmfakdncjeoeaaAid.TyAt.drew))) (by decide) (by decide) _) | exact HI125.out))) : g125 ≠ gb133)); have n9_ := Aside0.mk ((by rw [hg]; exact Nat.ne_of_gt (IsS143.lt (show IsS143 w _ g125 x126000_2 from by repeat (first | (with_reducible first | exact HI125.out | apply IsS143.alloc | apply IsS143.drewN | apply IsS143.drew | apply IsS143.set_0 | refine IsS143.farT (t := 56) (a := gb131) ?_ (by (with_reducible repeat (first | exact Go.Proofs.YtmmfakdncjeoeaaAid.TyAt.mk BK131.out | apply Go.Proofs.YtmmfakdncjeoeaaAid.TyAt.set | apply Go.Proofs.YtmmfakdncjeoeaaAid.TyAt.alloc | apply Go.Proofs.YtmmfakdncjeoeaaAid.TyAt.drewN | apply Go.Proofs.YtmmfakdncjeoeaaAid.TyAt.drew))) (by decide) (by decide) _) | exact HI125.out))) : gb133 ≠ g125)); clear BK131; clear HI125; clear HB; have BK131 := n0_; have HI125 := n1_; have HB := n2_; have BK133 := n3_; have GW133 := n4_; have GE133 := n5_; have NB131_133 := n6_; have NB133_131 := n7_; have NB125_133 := n8_; have NB133_125 := n9_; clear n0_ n1_ n2_ n3_ n4_ n5_ n6_ n7_ n8_ n9_; clear hb hbox hg; have hnb14 := NB133_131.out; have hnc14 := NB131_133.out; have hnb15 := NB133_125.out; have hnc15 := NB125_133.out; have hcz16_0 : w13.cell? ⟨gb133, 0, none⟩ = some (.int .i64 0) := (blk_cell BK133.out 0).trans rfl; have hcz16_1 : w13.cell? ⟨gb133, 1, none⟩ = some (.slice none 0 0) := (blk_cell BK133.out 1).trans rfl; have hfz16_0 := blk_frozen BK133.out 0; have hfz16_1 := blk_frozen BK133.out 1))
                      go_loopg [27] k2 (fun kq v27 w' => ∃ (x27_3 : Int) (x126000_3 : ByteArray), v27 = .int .i64 x27_3 ∧ Aside0 (dict_Of.l2 kq l0 (l0.length : Int) x13_1 ((rd_T56 l0 x13_1).f1) (((rd_T56 l0 x13_1).f1).length : Int) x20_2 ((rd_T59 ((rd_T56 l0 x13_1).f1) x20_2).f1) (((rd_T59 ((rd_T56 l0 x13_1).f1) x20_2).f1).length : Int) x27_3 x126000_3 = some r) ∧ Aside0 (kq ≤ k2) ∧ Aside0 (w'.heap[gb131]? = some (.cells #[.int .u64 ((rd_T56 l0 x13_1).f0), (.slice (some ad132) ((rd_T56 l0 x13_1).f1).length c130_1)] 56 (0, 0))) ∧ Aside0 (w'.heap[gb133]? = some (.cells #[.int .i64 ((rd_T59 ((rd_T56 l0 x13_1).f1) x20_2).f0), (.slice A132_1 ((rd_T59 ((rd_T56 l0 x13_1).f1) x20_2).f1).length c132_1)] 59 (0, 0))) ∧ Aside0 (IsS143 w w' g125 x126000_3) ∧ Aside0 (Below w.heap.size w w'))
                      case atStart => exact ⟨(0), (x126000_2), (by first | rfl | (simp; done) | (simp [*]; done)), H', ⟨Nat.le_refl _⟩, ⟨by (with_reducible repeat (first | refine blk_drewN ?_ _ | refine blk_drew ?_ | refine blk_alloc ?_ _)); refine blk_far ?_ NB131_133.out _; (with_reducible repeat (first | refine blk_drewN ?_ _ | refine blk_drew ?_ | refine blk_alloc ?_ _)); refine blk_far ?_ NB131_133.out _; (with_reducible repeat (first | refine blk_drewN ?_ _ | refine blk_drew ?_ | refine blk_alloc ?_ _)); exact BK131.out⟩, ⟨by (with_reducible repeat (first | refine blk_drewN ?_ _ | refine blk_drew ?_ | refine blk_alloc ?_ _)); refine blk_put (cs := #[.int .i64 ((rd_T59 ((rd_T56 l0 x13_1).f1) x20_2).f0), .slice none 0 0]) ?_ 1 _ rfl; (with_reducible repeat (first | refine blk_drewN ?_ _ | refine blk_drew ?_ | refine blk_alloc ?_ _)); refine blk_put (cs := #[.int .i64 0, .slice none 0 0]) ?_ 0 _ rfl; (with_reducible repeat (first | refine blk_drewN ?_ _ | refine blk_drew ?_ | refine blk_alloc ?_ _)); exact BK133.out⟩, ⟨by repeat (first | (with_reducible first | exact HI125.out | apply IsS143.alloc | apply IsS143.drewN | apply IsS143.drew | apply IsS143.set_0 | refine IsS143.farT (t := 56) (a := gb131) ?_ (by (with_reducible repeat (first | exact Go.Proofs.YtmmfakdncjeoeaaAid.TyAt.mk BK131.out | apply Go.Proofs.YtmmfakdncjeoeaaAid.TyAt.set | apply Go.Proofs.YtmmfakdncjeoeaaAid.TyAt.alloc | apply Go.Proofs.YtmmfakdncjeoeaaAid.TyAt.drewN | apply Go.Proofs.YtmmfakdncjeoeaaAid.TyAt.drew))) (by decide) (by decide) _ | refine IsS143.farT (t := 59) (a := gb133) ?_ (by (with_reducible repeat (first | exact Go.Proofs.YtmmfakdncjeoeaaAid.TyAt.mk BK133.out | apply Go.Proofs.YtmmfakdncjeoeaaAid.TyAt.set | apply Go.Proofs.YtmmfakdncjeoeaaAid.TyAt.alloc | apply Go.Proofs.YtmmfakdncjeoeaaAid.TyAt.drewN | apply Go.Proofs.YtmmfakdncjeoeaaAid.TyAt.drew))) (by decide) (by decide) _) | exact HI125.out)⟩, ⟨by repeat (first | (with_reducible first | exact HB.out | apply below_alloc | apply pw_below_drewN | apply below_drew1 | refine below_set ?_ (IsS143.ge HI125.out) | refine below_set ?_ GE131.out | refine below_set ?_ GE133.out) | exact HB.out)⟩⟩
                      case round =>
                        clear H'
                        try clear c1
                        try clear p1
                        try clear q1
                        try clear hx1
                        try clear p2
                        try clear c4
                        try clear c4b0
                        try clear c5
                        try clear c5b0
                        try clear c6
                        try clear c6b0
                        try clear c7
                        try clear c8
                        try clear c10
                        try clear c10b0
                        try clear c11
                        try clear c11b0
                        try clear c12
                        try clear c12b0
                        try clear c13
                        try clear p13
                        try clear q13
                        try clear hx13
                        try clear c14
                        try clear c15
                        try clear hcz16_0
                        try clear hcz16_1
                        try clear hcz9_0
                        try clear hcz9_1
                        try clear hfz16_0
                        try clear hfz16_1
                        try clear hfz9_0
                        try clear hfz9_1
                        try clear hx130_0
                        try clear hx130_1
                        try clear hx132_0
                        try clear hx132_1
                        try clear p1
                        try clear p130
                        try clear p132
                        try clear p2
                        try clear q1
                        try clear q130
                        try clear q132
                        obtain ⟨x27_3, x126000_3, rfl, HA, HK3, BK131, BK133, HI125, HB⟩ := hrel
                        cases gk with
                        | zero => exact absurd HA.out (by simp [dict_Of.l2])
                        | succ k3 =>
                          have H := HA.out
                          clear HA
                          simp only [dict_Of.l2] at H
                          by_cases c17 : x27_3 < (((rd_T59 ((rd_T56 l0 x13_1).f1) x20_2).f1).length : Int)
                          · rw [if_pos c17] at H
                            have c17b0 : decide (x27_3 < (((rd_T59 ((rd_T56 l0 x13_1).f1) x20_2).f1).length : Int)) = true := decide_eq_true c17
                            clear c17
                            by_cases c18 : 0 ≤ x27_3
                            · rw [if_pos c18] at H
                              have c18b0 : decide (0 ≤ x27_3) = true := decide_eq_true c18
                              clear c18
                              by_cases c19 : x27_3 < (((rd_T59 ((rd_T56 l0 x13_1).f1) x20_2).f1).length : Int)
                              · rw [if_pos c19] at H
                                have c19b0 : decide (x27_3 < (((rd_T59 ((rd_T56 l0 x13_1).f1) x20_2).f1).length : Int)) = true := decide_eq_true c19
                                clear c19
                                by_cases c20 : ((rd_T61 ((rd_T59 ((rd_T56 l0 x13_1).f1) x20_2).f1) x27_3).f0) = 2
                                · rw [if_pos c20] at H
                                  have c20b0 : (((rd_T61 ((rd_T59 ((rd_T56 l0 x13_1).f1) x20_2).f1) x27_3).f0) == 2) = true := beq_iff_eq.mpr c20
                                  have c20b1 : (((rd_T61 ((rd_T59 ((rd_T56 l0 x13_1).f1) x20_2).f1) x27_3).f0) != 2) = false := bne_eq_false_iff_eq.mpr c20
                                  clear c20
                                  replace H := Option.bind_eq_some_iff.mp H
                                  obtain ⟨⟨t136, t137⟩, A210, H⟩ := H
                                  replace H : (dict_Of.l2 k3 l0 (l0.length : Int) x13_1 ((rd_T56 l0 x13_1).f1) (((rd_T56 l0 x13_1).f1).length : Int) x20_2 ((rd_T59 ((rd_T56 l0 x13_1).f1) x20_2).f1) (((rd_T59 ((rd_T56 l0 x13_1).f1) x20_2).f1).length : Int) (wrap64 (x27_3 + 1)) t137) = some r := H
                                  have A21 := Aside0.mk A210
                                  clear A210
                                  have H' := Aside0.mk H
                                  clear H
                                  have p134 : 0 ≤ (x27_3 : Int) := of_decide_eq_true (by first | (with_reducible assumption) | assumption)
                                  have q134 : x27_3 < (((rd_T59 ((rd_T56 l0 x13_1).f1) x20_2).f1).length : Int) := of_decide_eq_true (by first | (with_reducible assumption) | assumption)
                                  obtain ⟨ad134, e134, hx134_0, hx134_1, hx134_2⟩ := at_T61 HR132_1.out x27_3 p134 q134
                                  cases e134
                                  replace hx134_0 := (HB.out.cell (World.block_lt_of_cell? w _ hx134_0)).trans hx134_0
                                  replace hx134_1 := (HB.out.cell (World.block_lt_of_cell? w _ hx134_1)).trans hx134_1
                                  replace hx134_2 := (HB.out.cell (World.block_lt_of_cell? w _ hx134_2)).trans hx134_2
                                  replace p134 := eq_true p134
                                  replace q134 := eq_true q134
                                  go_wp2_with (first | ((with_reducible refine gate_dst (N := 9) rfl ?_); refine box_event ?hg (N := 9) ?hd (cs := #[.int .i64 0, .int .i64 0, .string (⟨#[]⟩ : ByteArray)]) (t := 61) ?hr ?_; (case hd => rfl); (case hg => rfl); (case hr => first | (go_simp; done) | (go_simp; rfl)); intro gb135 hg w22 hbox hb; have n0_ := Aside0.mk (blk_below (g := gb131) (o := .cells #[.int .u64 ((rd_T56 l0 x13_1).f0), .slice (some ad132) ((rd_T56 l0 x13_1).f1).length c130_1] 56 (0, 0)) (by (with_reducible repeat (first | refine blk_drewN ?_ _ | refine blk_drew ?_ | refine blk_alloc ?_ _)); exact BK131.out) hb); have n1_ := Aside0.mk (blk_below (g := gb133) (o := .cells #[.int .i64 ((rd_T59 ((rd_T56 l0 x13_1).f1) x20_2).f0), .slice (some ad134) ((rd_T59 ((rd_T56 l0 x13_1).f1) x20_2).f1).length c132_1] 59 (0, 0)) (by (with_reducible repeat (first | refine blk_drewN ?_ _ | refine blk_drew ?_ | refine blk_alloc ?_ _)); exact BK133.out) hb); have n2_ := Aside0.mk (IsS143.below (by repeat (first | (with_reducible first | exact HI125.out | apply IsS143.alloc | apply IsS143.drewN | apply IsS143.drew | apply IsS143.set_0 | refine IsS143.farT (t := 56) (a := gb131) ?_ (by (with_reducible repeat (first | exact Go.Proofs.YtmmfakdncjeoeaaAid.TyAt.mk BK131.out | apply Go.Proofs.YtmmfakdncjeoeaaAid.TyAt.set | apply Go.Proofs.YtmmfakdncjeoeaaAid.TyAt.alloc | apply Go.Proofs.YtmmfakdncjeoeaaAid.TyAt.drewN | apply Go.Proofs.YtmmfakdncjeoeaaAid.TyAt.drew))) (by decide) (by decide) _ | refine IsS143.farT (t := 59) (a := gb133) ?_ (by (with_reducible repeat (first | exact Go.Proofs.YtmmfakdncjeoeaaAid.TyAt.mk BK133.out | apply Go.Proofs.YtmmfakdncjeoeaaAid.TyAt.set | apply Go.Proofs.YtmmfakdncjeoeaaAid.TyAt.alloc | apply Go.Proofs.YtmmfakdncjeoeaaAid.TyAt.drewN | apply Go.Proofs.YtmmfakdncjeoeaaAid.TyAt.drew))) (by decide) (by decide) _) | exact HI125.out)) hb); have n3_ := Aside0.mk (below_step (by repeat (first | (with_reducible first | exact HB.out | apply below_alloc | apply pw_below_drewN | apply below_drew1 | refine below_set ?_ (IsS143.ge HI125.out) | refine below_set ?_ GE131.out | refine below_set ?_ GE133.out) | exact HB.out)) hb); have n4_ := Aside0.mk (hbox); have n5_ := Aside0.mk ((by rw [hg]; exact (below_size (by repeat (first | (with_reducible first | exact HB.out | apply below_alloc | apply pw_below_drewN | apply below_drew1 | refine below_set ?_ (IsS143.ge HI125.out) | refine below_set ?_ GE131.out | refine below_set ?_ GE133.out) | exact HB.out))) : w.heap.size ≤ gb135)); have n6_ := Aside0.mk ((by rw [hg]; exact (below_size (by repeat (first | (with_reducible first | exact HB.out | apply below_alloc | apply pw_below_drewN | apply below_drew1 | refine below_set ?_ (IsS143.ge HI125.out) | refine below_set ?_ GE131.out | refine below_set ?_ GE133.out) | exact HB.out))) : w.heap.size ≤ gb135)); have n7_ := Aside0.mk ((by rw [hg]; exact Nat.ne_of_lt (blk_lt (g := gb131) (o := .cells #[.int .u64 ((rd_T56 l0 x13_1).f0), .slice (some ad132) ((rd_T56 l0 x13_1).f1).length c130_1] 56 (0, 0)) (by (with_reducible repeat (first | refine blk_drewN ?_ _ | refine blk_drew ?_ | refine blk_alloc ?_ _)); exact BK131.out)) : gb131 ≠ gb135)); have n8_ := Aside0.mk ((by rw [hg]; exact Nat.ne_of_gt (blk_lt (g := gb131) (o := .cells #[.int .u64 ((rd_T56 l0 x13_1).f0), .slice (some ad132) ((rd_T56 l0 x13_1).f1).length c130_1] 56 (0, 0)) (by (with_reducible repeat (first | refine blk_drewN ?_ _ | refine blk_drew ?_ | refine blk_alloc ?_ _)); exact BK131.out)) : gb135 ≠ gb131)); have n9_ := Aside0.mk ((by rw [hg]; exact Nat.ne_of_lt (blk_lt (g := gb133) (o := .cells #[.int .i64 ((rd_T59 ((rd_T56 l0 x13_1).f1) x20_2).f0), .slice (some ad134) ((rd_T59 ((rd_T56 l0 x13_1).f1) x20_2).f1).length c132_1] 59 (0, 0)) (by (with_reducible repeat (first | refine blk_drewN ?_ _ | refine blk_drew ?_ | refine blk_alloc ?_ _)); exact BK133.out)) : gb133 ≠ gb135)); have n10_ := Aside0.mk ((by rw [hg]; exact Nat.ne_of_gt (blk_lt (g := gb133) (o := .cells #[.int .i64 ((rd_T59 ((rd_T56 l0 x13_1).f1) x20_2).f0), .slice (some ad134) ((rd_T59 ((rd_T56 l0 x13_1).f1) x20_2).f1).length c132_1] 59 (0, 0)) (by (with_reducible repeat (first | refine blk_drewN ?_ _ | refine blk_drew ?_ | refine blk_alloc ?_ _)); exact BK133.out)) : gb135 ≠ gb133)); have n11_ := Aside0.mk ((by rw [hg]; exact Nat.ne_of_lt (IsS143.lt (show IsS143 w _ g125 x126000_3 from by repeat (first | (with_reducible first | exact HI125.out | apply IsS143.alloc | apply IsS143.drewN | apply IsS143.drew | apply IsS143.set_0 | refine IsS143.farT (t := 56) (a := gb131) ?_ (by (with_reducible repeat (first | exact Go.Proofs.YtmmfakdncjeoeaaAid.TyAt.mk BK131.out | apply Go.Proofs.YtmmfakdncjeoeaaAid.TyAt.set | apply Go.Proofs.YtmmfakdncjeoeaaAid.TyAt.alloc | apply Go.Proofs.YtmmfakdncjeoeaaAid.TyAt.drewN | apply Go.Proofs.YtmmfakdncjeoeaaAid.TyAt.drew))) (by decide) (by decide) _ | refine IsS143.farT (t := 59) (a := gb133) ?_ (by (with_reducible repeat (first | exact Go.Proofs.YtmmfakdncjeoeaaAid.TyAt.mk BK133.out | apply Go.Proofs.YtmmfakdncjeoeaaAid.TyAt.set | apply Go.Proofs.YtmmfakdncjeoeaaAid.TyAt.alloc | apply Go.Proofs.YtmmfakdncjeoeaaAid.TyAt.drewN | apply Go.Proofs.YtmmfakdncjeoeaaAid.TyAt.drew))) (by decide) (by decide) _) | exact HI125.out))) : g125 ≠ gb135)); have n12_ := Aside0.mk ((by rw [hg]; exact Nat.ne_of_gt (IsS143.lt (show IsS143 w _ g125 x126000_3 from by repeat (first | (with_reducible first | exact HI125.out | apply IsS143.alloc | apply IsS143.drewN | apply IsS143.drew | apply IsS143.set_0 | refine IsS143.farT (t := 56) (a := gb131) ?_ (by (with_reducible repeat (first | exact Go.Proofs.YtmmfakdncjeoeaaAid.TyAt.mk BK131.out | apply Go.Proofs.YtmmfakdncjeoeaaAid.TyAt.set | apply Go.Proofs.YtmmfakdncjeoeaaAid.TyAt.alloc | apply Go.Proofs.YtmmfakdncjeoeaaAid.TyAt.drewN | apply Go.Proofs.YtmmfakdncjeoeaaAid.TyAt.drew))) (by decide) (by decide) _ | refine IsS143.farT (t := 59) (a := gb133) ?_ (by (with_reducible repeat (first | exact Go.Proofs.YtmmfakdncjeoeaaAid.TyAt.mk BK133.out | apply Go.Proofs.YtmmfakdncjeoeaaAid.TyAt.set | apply Go.Proofs.YtmmfakdncjeoeaaAid.TyAt.alloc | apply Go.Proofs.YtmmfakdncjeoeaaAid.TyAt.drewN | apply Go.Proofs.YtmmfakdncjeoeaaAid.TyAt.drew))) (by decide) (by decide) _) | exact HI125.out))) : gb135 ≠ g125)); clear BK131; clear BK133; clear HI125; clear HB; have BK131 := n0_; have BK133 := n1_; have HI125 := n2_; have HB := n3_; have BK135 := n4_; have GW135 := n5_; have GE135 := n6_; have NB131_135 := n7_; have NB135_131 := n8_; have NB133_135 := n9_; have NB135_133 := n10_; have NB125_135 := n11_; have NB135_125 := n12_; clear n0_ n1_ n2_ n3_ n4_ n5_ n6_ n7_ n8_ n9_ n10_ n11_ n12_; clear hb hbox hg; have hnb23 := NB135_131.out; have hnc23 := NB131_135.out; have hnb24 := NB135_133.out; have hnc24 := NB133_135.out; have hnb25 := NB135_125.out; have hnc25 := NB125_135.out; have hcz26_0 : w22.cell? ⟨gb135, 0, none⟩ = some (.int .i64 0) := (blk_cell BK135.out 0).trans rfl; have hcz26_1 : w22.cell? ⟨gb135, 1, none⟩ = some (.int .i64 0) := (blk_cell BK135.out 1).trans rfl; have hcz26_2 : w22.cell? ⟨gb135, 2, none⟩ = some (.string (⟨#[]⟩ : ByteArray)) := (blk_cell BK135.out 2).trans rfl; have hfz26_0 := blk_frozen BK135.out 0; have hfz26_1 := blk_frozen BK135.out 1; have hfz26_2 := blk_frozen BK135.out 2) | ((with_reducible refine gate_callee (f := 74) rfl ?_); refine goesL_ (some 37) rfl rfl Try.func74 (by kernel_rfl) rfl #[.pointer (some ⟨g125, 0, none⟩), .string ((rd_T61 ((rd_T59 ((rd_T56 l0 x13_1).f1) x20_2).f1) x27_3).f2)] rfl (by (try simp only [List.map_toArray, List.map_cons, List.map_nil]); first | done | rfl | (simp only [List.length_drop, List.length_take]; rfl) | (refine congrArg (fun z_ => #[z_]) (congrArg (Value.int IntKind.u64) (Eq.symm (Go.Proofs.YtmmfakdncjeoeaaAid.wrap_len _ (by omega)))))) ?_; (with_reducible refine (dict_Dict_Put.calls g125 x126000_3 ((rd_T61 ((rd_T59 ((rd_T56 l0 x13_1).f1) x20_2).f1) x27_3).f2) t136 t137 w _ ?side1 ?side2 A21.out).mono ?_); (case side1 => repeat (first | (with_reducible first | exact HI125.out | apply IsS143.alloc | apply IsS143.drewN | apply IsS143.drew | apply IsS143.set_0 | refine IsS143.farT (t := 56) (a := gb131) ?_ (by (with_reducible repeat (first | exact Go.Proofs.YtmmfakdncjeoeaaAid.TyAt.mk BK131.out | apply Go.Proofs.YtmmfakdncjeoeaaAid.TyAt.set | apply Go.Proofs.YtmmfakdncjeoeaaAid.TyAt.alloc | apply Go.Proofs.YtmmfakdncjeoeaaAid.TyAt.drewN | apply Go.Proofs.YtmmfakdncjeoeaaAid.TyAt.drew))) (by decide) (by decide) _ | refine IsS143.farT (t := 59) (a := gb133) ?_ (by (with_reducible repeat (first | exact Go.Proofs.YtmmfakdncjeoeaaAid.TyAt.mk BK133.out | apply Go.Proofs.YtmmfakdncjeoeaaAid.TyAt.set | apply Go.Proofs.YtmmfakdncjeoeaaAid.TyAt.alloc | apply Go.Proofs.YtmmfakdncjeoeaaAid.TyAt.drewN | apply Go.Proofs.YtmmfakdncjeoeaaAid.TyAt.drew))) (by decide) (by decide) _ | refine IsS143.farT (t := 61) (a := gb135) ?_ (by (with_reducible repeat (first | exact Go.Proofs.YtmmfakdncjeoeaaAid.TyAt.mk BK135.out | apply Go.Proofs.YtmmfakdncjeoeaaAid.TyAt.set | apply Go.Proofs.YtmmfakdncjeoeaaAid.TyAt.alloc | apply Go.Proofs.YtmmfakdncjeoeaaAid.TyAt.drewN | apply Go.Proofs.YtmmfakdncjeoeaaAid.TyAt.drew))) (by decide) (by decide) _) | exact HI125.out)); (case side2 => repeat (first | (with_reducible first | exact HB.out | apply below_alloc | apply pw_below_drewN | apply below_drew1 | refine below_set ?_ (IsS143.ge HI125.out) | refine below_set ?_ GE131.out | refine below_set ?_ GE133.out | refine below_set ?_ GE135.out) | exact HB.out)); rintro e w27 ⟨rfl, hi, hb, hk⟩; refine ⟨_, rfl, ?_⟩; have n0_ := Aside0.mk (Go.Proofs.YtmmfakdncjeoeaaAid.PutKeep.blk hk (g' := gb131) (o := .cells #[.int .u64 ((rd_T56 l0 x13_1).f0), .slice (some ad132) ((rd_T56 l0 x13_1).f1).length c130_1] 56 (0, 0)) (by (with_reducible repeat (first | refine blk_drewN ?_ _ | refine blk_drew ?_ | refine blk_alloc ?_ _)); refine blk_far ?_ NB131_135.out _; (with_reducible repeat (first | refine blk_drewN ?_ _ | refine blk_drew ?_ | refine blk_alloc ?_ _)); refine blk_far ?_ NB131_135.out _; (with_reducible repeat (first | refine blk_drewN ?_ _ | refine blk_drew ?_ | refine blk_alloc ?_ _)); refine blk_far ?_ NB131_135.out _; (with_reducible repeat (first | refine blk_drewN ?_ _ | refine blk_drew ?_ | refine blk_alloc ?_ _)); exact BK131.out) NB131_125.out (by simp)); have n1_ := Aside0.mk (Go.Proofs.YtmmfakdncjeoeaaAid.PutKeep.blk hk (g' := gb133) (o := .cells #[.int .i64 ((rd_T59 ((rd_T56 l0 x13_1).f1) x20_2).f0), .slice (some ad134) ((rd_T59 ((rd_T56 l0 x13_1).f1) x20_2).f1).length c132_1] 59 (0, 0)) (by (with_reducible repeat (first | refine blk_drewN ?_ _ | refine blk_drew ?_ | refine blk_alloc ?_ _)); refine blk_far ?_ NB133_135.out _; (with_reducible repeat (first | refine blk_drewN ?_ _ | refine blk_drew ?_ | refine blk_alloc ?_ _)); refine blk_far ?_ NB133_135.out _; (with_reducible repeat (first | refine blk_drewN ?_ _ | refine blk_drew ?_ | refine blk_alloc ?_ _)); refine blk_far ?_ NB133_135.out _; (with_reducible repeat (first | refine blk_drewN ?_ _ | refine blk_drew ?_ | refine blk_alloc ?_ _)); exact BK133.out) NB133_125.out (by simp)); have n2_ := Aside0.mk (Go.Proofs.YtmmfakdncjeoeaaAid.PutKeep.blk hk (g' := gb135) (o := .cells #[.int .i64 ((rd_T61 ((rd_T59 ((rd_T56 l0 x13_1).f1) x20_2).f1) x27_3).f0), .int .i64 ((rd_T61 ((rd_T59 ((rd_T56 l0 x13_1).f1) x20_2).f1) x27_3).f1), .string ((rd_T61 ((rd_T59 ((rd_T56 l0 x13_1).f1) x20_2).f1) x27_3).f2)] 61 (0, 0)) (by (with_reducible repeat (first | refine blk_drewN ?_ _ | refine blk_drew ?_ | refine blk_alloc ?_ _)); refine blk_put (cs := #[.int .i64 ((rd_T61 ((rd_T59 ((rd_T56 l0 x13_1).f1) x20_2).f1) x27_3).f0), .int .i64 ((rd_T61 ((rd_T59 ((rd_T56 l0 x13_1).f1) x20_2).f1) x27_3).f1), .string (⟨#[]⟩ : ByteArray)]) ?_ 2 _ rfl; (with_reducible repeat (first | refine blk_drewN ?_ _ | refine blk_drew ?_ | refine blk_alloc ?_ _)); refine blk_put (cs := #[.int .i64 ((rd_T61 ((rd_T59 ((rd_T56 l0 x13_1).f1) x20_2).f1) x27_3).f0), .int .i64 0, .string (⟨#[]⟩ : ByteArray)]) ?_ 1 _ rfl; (with_reducible repeat (first | refine blk_drewN ?_ _ | refine blk_drew ?_ | refine blk_alloc ?_ _)); refine blk_put (cs := #[.int .i64 0, .int .i64 0, .string (⟨#[]⟩ : ByteArray)]) ?_ 0 _ rfl; (with_reducible repeat (first | refine blk_drewN ?_ _ | refine blk_drew ?_ | refine blk_alloc ?_ _)); exact BK135.out) NB135_125.out (by simp)); have n3_ := Aside0.mk (hb); have n4_ := Aside0.mk (hi); clear BK131; clear BK133; clear BK135; clear HB; clear HI125; have BK131 := n0_; have BK133 := n1_; have BK135 := n2_; have HB := n3_; have HI125 := n4_; clear n0_ n1_ n2_ n3_ n4_; (try clear hb); (try clear hb2); (try clear hk); (try clear hi)))
                                  go_roundg k3
                                  case measure => have := HK1.out; have := HK2.out; have := HK3.out; omega
                                  case rel => exact ⟨(wrap64 (x27_3 + 1)), (t137), (by first | rfl | (simp; done) | (simp [*]; done)), H', ⟨by have := HK1.out; have := HK2.out; have := HK3.out; omega⟩, ⟨by (with_reducible repeat (first | refine blk_drewN ?_ _ | refine blk_drew ?_ | refine blk_alloc ?_ _)); exact BK131.out⟩, ⟨by (with_reducible repeat (first | refine blk_drewN ?_ _ | refine blk_drew ?_ | refine blk_alloc ?_ _)); exact BK133.out⟩, ⟨by repeat (first | (with_reducible first | exact HI125.out | apply IsS143.alloc | apply IsS143.drewN | apply IsS143.drew | apply IsS143.set_0 | refine IsS143.farT (t := 56) (a := gb131) ?_ (by (with_reducible repeat (first | exact Go.Proofs.YtmmfakdncjeoeaaAid.TyAt.mk BK131.out | apply Go.Proofs.YtmmfakdncjeoeaaAid.TyAt.set | apply Go.Proofs.YtmmfakdncjeoeaaAid.TyAt.alloc | apply Go.Proofs.YtmmfakdncjeoeaaAid.TyAt.drewN | apply Go.Proofs.YtmmfakdncjeoeaaAid.TyAt.drew))) (by decide) (by decide) _ | refine IsS143.farT (t := 59) (a := gb133) ?_ (by (with_reducible repeat (first | exact Go.Proofs.YtmmfakdncjeoeaaAid.TyAt.mk BK133.out | apply Go.Proofs.YtmmfakdncjeoeaaAid.TyAt.set | apply Go.Proofs.YtmmfakdncjeoeaaAid.TyAt.alloc | apply Go.Proofs.YtmmfakdncjeoeaaAid.TyAt.drewN | apply Go.Proofs.YtmmfakdncjeoeaaAid.TyAt.drew))) (by decide) (by decide) _ | refine IsS143.farT (t := 61) (a := gb135) ?_ (by (with_reducible repeat (first | exact Go.Proofs.YtmmfakdncjeoeaaAid.TyAt.mk BK135.out | apply Go.Proofs.YtmmfakdncjeoeaaAid.TyAt.set | apply Go.Proofs.YtmmfakdncjeoeaaAid.TyAt.alloc | apply Go.Proofs.YtmmfakdncjeoeaaAid.TyAt.drewN | apply Go.Proofs.YtmmfakdncjeoeaaAid.TyAt.drew))) (by decide) (by decide) _) | exact HI125.out)⟩, ⟨by repeat (first | (with_reducible first | exact HB.out | apply below_alloc | apply pw_below_drewN | apply below_drew1 | refine below_set ?_ (IsS143.ge HI125.out) | refine below_set ?_ GE131.out | refine below_set ?_ GE133.out | refine below_set ?_ GE135.out) | exact HB.out)⟩⟩
                                · rw [if_neg c20] at H
                                  have c20b0 : (((rd_T61 ((rd_T59 ((rd_T56 l0 x13_1).f1) x20_2).f1) x27_3).f0) == 2) = false := beq_eq_false_iff_ne.mpr c20
                                  have c20b1 : (((rd_T61 ((rd_T59 ((rd_T56 l0 x13_1).f1) x20_2).f1) x27_3).f0) != 2) = true := bne_iff_ne.mpr c20
                                  have H' := Aside0.mk H
                                  clear H
                                  have p134 : 0 ≤ (x27_3 : Int) := of_decide_eq_true (by first | (with_reducible assumption) | assumption)
                                  have q134 : x27_3 < (((rd_T59 ((rd_T56 l0 x13_1).f1) x20_2).f1).length : Int) := of_decide_eq_true (by first | (with_reducible assumption) | assumption)
                                  obtain ⟨ad134, e134, hx134_0, hx134_1, hx134_2⟩ := at_T61 HR132_1.out x27_3 p134 q134
                                  cases e134
                                  replace hx134_0 := (HB.out.cell (World.block_lt_of_cell? w _ hx134_0)).trans hx134_0
                                  replace hx134_1 := (HB.out.cell (World.block_lt_of_cell? w _ hx134_1)).trans hx134_1
                                  replace hx134_2 := (HB.out.cell (World.block_lt_of_cell? w _ hx134_2)).trans hx134_2
                                  replace p134 := eq_true p134
                                  replace q134 := eq_true q134
                                  go_wp2_with (first | ((with_reducible refine gate_dst (N := 9) rfl ?_); refine box_event ?hg (N := 9) ?hd (cs := #[.int .i64 0, .int .i64 0, .string (⟨#[]⟩ : ByteArray)]) (t := 61) ?hr ?_; (case hd => rfl); (case hg => rfl); (case hr => first | (go_simp; done) | (go_simp; rfl)); intro gb135 hg w28 hbox hb; have n0_ := Aside0.mk (blk_below (g := gb131) (o := .cells #[.int .u64 ((rd_T56 l0 x13_1).f0), .slice (some ad132) ((rd_T56 l0 x13_1).f1).length c130_1] 56 (0, 0)) (by (with_reducible repeat (first | refine blk_drewN ?_ _ | refine blk_drew ?_ | refine blk_alloc ?_ _)); exact BK131.out) hb); have n1_ := Aside0.mk (blk_below (g := gb133) (o := .cells #[.int .i64 ((rd_T59 ((rd_T56 l0 x13_1).f1) x20_2).f0), .slice (some ad134) ((rd_T59 ((rd_T56 l0 x13_1).f1) x20_2).f1).length c132_1] 59 (0, 0)) (by (with_reducible repeat (first | refine blk_drewN ?_ _ | refine blk_drew ?_ | refine blk_alloc ?_ _)); exact BK133.out) hb); have n2_ := Aside0.mk (IsS143.below (by repeat (first | (with_reducible first | exact HI125.out | apply IsS143.alloc | apply IsS143.drewN | apply IsS143.drew | apply IsS143.set_0 | refine IsS143.farT (t := 56) (a := gb131) ?_ (by (with_reducible repeat (first | exact Go.Proofs.YtmmfakdncjeoeaaAid.TyAt.mk BK131.out | apply Go.Proofs.YtmmfakdncjeoeaaAid.TyAt.set | apply Go.Proofs.YtmmfakdncjeoeaaAid.TyAt.alloc | apply Go.Proofs.YtmmfakdncjeoeaaAid.TyAt.drewN | apply Go.Proofs.YtmmfakdncjeoeaaAid.TyAt.drew))) (by decide) (by decide) _ | refine IsS143.farT (t := 59) (a := gb133) ?_ (by (with_reducible repeat (first | exact Go.Proofs.YtmmfakdncjeoeaaAid.TyAt.mk BK133.out | apply Go.Proofs.YtmmfakdncjeoeaaAid.TyAt.set | apply Go.Proofs.YtmmfakdncjeoeaaAid.TyAt.alloc | apply Go.Proofs.YtmmfakdncjeoeaaAid.TyAt.drewN | apply Go.Proofs.YtmmfakdncjeoeaaAid.TyAt.drew))) (by decide) (by decide) _) | exact HI125.out)) hb); have n3_ := Aside0.mk (below_step (by repeat (first | (with_reducible first | exact HB.out | apply below_alloc | apply pw_below_drewN | apply below_drew1 | refine below_set ?_ (IsS143.ge HI125.out) | refine below_set ?_ GE131.out | refine below_set ?_ GE133.out) | exact HB.out)) hb); have n4_ := Aside0.mk (hbox); have n5_ := Aside0.mk ((by rw [hg]; exact (below_size (by repeat (first | (with_reducible first | exact HB.out | apply below_alloc | apply pw_below_drewN | apply below_drew1 | refine below_set ?_ (IsS143.ge HI125.out) | refine below_set ?_ GE131.out | refine below_set ?_ GE133.out) | exact HB.out))) : w.heap.size ≤ gb135)); have n6_ := Aside0.mk ((by rw [hg]; exact (below_size (by repeat (first | (with_reducible first | exact HB.out | apply below_alloc | apply pw_below_drewN | apply below_drew1 | refine below_set ?_ (IsS143.ge HI125.out) | refine below_set ?_ GE131.out | refine below_set ?_ GE133.out) | exact HB.out))) : w.heap.size ≤ gb135)); have n7_ := Aside0.mk ((by rw [hg]; exact Nat.ne_of_lt (blk_lt (g := gb131) (o := .cells #[.int .u64 ((rd_T56 l0 x13_1).f0), .slice (some ad132) ((rd_T56 l0 x13_1).f1).length c130_1] 56 (0, 0)) (by (with_reducible repeat (first | refine blk_drewN ?_ _ | refine blk_drew ?_ | refine blk_alloc ?_ _)); exact BK131.out)) : gb131 ≠ gb135)); have n8_ := Aside0.mk ((by rw [hg]; exact Nat.ne_of_gt (blk_lt (g := gb131) (o := .cells #[.int .u64 ((rd_T56 l0 x13_1).f0), .slice (some ad132) ((rd_T56 l0 x13_1).f1).length c130_1] 56 (0, 0)) (by (with_reducible repeat (first | refine blk_drewN ?_ _ | refine blk_drew ?_ | refine blk_alloc ?_ _)); exact BK131.out)) : gb135 ≠ gb131)); have n9_ := Aside0.mk ((by rw [hg]; exact Nat.ne_of_lt (blk_lt (g := gb133) (o := .cells #[.int .i64 ((rd_T59 ((rd_T56 l0 x13_1).f1) x20_2).f0), .slice (some ad134) ((rd_T59 ((rd_T56 l0 x13_1).f1) x20_2).f1).length c132_1] 59 (0, 0)) (by (with_reducible repeat (first | refine blk_drewN ?_ _ | refine blk_drew ?_ | refine blk_alloc ?_ _)); exact BK133.out)) : gb133 ≠ gb135)); have n10_ := Aside0.mk ((by rw [hg]; exact Nat.ne_of_gt (blk_lt (g := gb133) (o := .cells #[.int .i64 ((rd_T59 ((rd_T56 l0 x13_1).f1) x20_2).f0), .slice (some ad134) ((rd_T59 ((rd_T56 l0 x13_1).f1) x20_2).f1).length c132_1] 59 (0, 0)) (by (with_reducible repeat (first | refine blk_drewN ?_ _ | refine blk_drew ?_ | refine blk_alloc ?_ _)); exact BK133.out)) : gb135 ≠ gb133)); have n11_ := Aside0.mk ((by rw [hg]; exact Nat.ne_of_lt (IsS143.lt (show IsS143 w _ g125 x126000_3 from by repeat (first | (with_reducible first | exact HI125.out | apply IsS143.alloc | apply IsS143.drewN | apply IsS143.drew | apply IsS143.set_0 | refine IsS143.farT (t := 56) (a := gb131) ?_ (by (with_reducible repeat (first | exact Go.Proofs.YtmmfakdncjeoeaaAid.TyAt.mk BK131.out | apply Go.Proofs.YtmmfakdncjeoeaaAid.TyAt.set | apply Go.Proofs.YtmmfakdncjeoeaaAid.TyAt.alloc | apply Go.Proofs.YtmmfakdncjeoeaaAid.TyAt.drewN | apply Go.Proofs.YtmmfakdncjeoeaaAid.TyAt.drew))) (by decide) (by decide) _ | refine IsS143.farT (t := 59) (a := gb133) ?_ (by (with_reducible repeat (first | exact Go.Proofs.YtmmfakdncjeoeaaAid.TyAt.mk BK133.out | apply Go.Proofs.YtmmfakdncjeoeaaAid.TyAt.set | apply Go.Proofs.YtmmfakdncjeoeaaAid.TyAt.alloc | apply Go.Proofs.YtmmfakdncjeoeaaAid.TyAt.drewN | apply Go.Proofs.YtmmfakdncjeoeaaAid.TyAt.drew))) (by decide) (by decide) _) | exact HI125.out))) : g125 ≠ gb135)); have n12_ := Aside0.mk ((by rw [hg]; exact Nat.ne_of_gt (IsS143.lt (show IsS143 w _ g125 x126000_3 from by repeat (first | (with_reducible first | exact HI125.out | apply IsS143.alloc | apply IsS143.drewN | apply IsS143.drew | apply IsS143.set_0 | refine IsS143.farT (t := 56) (a := gb131) ?_ (by (with_reducible repeat (first | exact Go.Proofs.YtmmfakdncjeoeaaAid.TyAt.mk BK131.out | apply Go.Proofs.YtmmfakdncjeoeaaAid.TyAt.set | apply Go.Proofs.YtmmfakdncjeoeaaAid.TyAt.alloc | apply Go.Proofs.YtmmfakdncjeoeaaAid.TyAt.drewN | apply Go.Proofs.YtmmfakdncjeoeaaAid.TyAt.drew))) (by decide) (by decide) _ | refine IsS143.farT (t := 59) (a := gb133) ?_ (by (with_reducible repeat (first | exact Go.Proofs.YtmmfakdncjeoeaaAid.TyAt.mk BK133.out | apply Go.Proofs.YtmmfakdncjeoeaaAid.TyAt.set | apply Go.Proofs.YtmmfakdncjeoeaaAid.TyAt.alloc | apply Go.Proofs.YtmmfakdncjeoeaaAid.TyAt.drewN | apply Go.Proofs.YtmmfakdncjeoeaaAid.TyAt.drew))) (by decide) (by decide) _) | exact HI125.out))) : gb135 ≠ g125)); clear BK131; clear BK133; clear HI125; clear HB; have BK131 := n0_; have BK133 := n1_; have HI125 := n2_; have HB := n3_; have BK135 := n4_; have GW135 := n5_; have GE135 := n6_; have NB131_135 := n7_; have NB135_131 := n8_; have NB133_135 := n9_; have NB135_133 := n10_; have NB125_135 := n11_; have NB135_125 := n12_; clear n0_ n1_ n2_ n3_ n4_ n5_ n6_ n7_ n8_ n9_ n10_ n11_ n12_; clear hb hbox hg; have hnb29 := NB135_131.out; have hnc29 := NB131_135.out; have hnb30 := NB135_133.out; have hnc30 := NB133_135.out; have hnb31 := NB135_125.out; have hnc31 := NB125_135.out; have hcz32_0 : w28.cell? ⟨gb135, 0, none⟩ = some (.int .i64 0) := (blk_cell BK135.out 0).trans rfl; have hcz32_1 : w28.cell? ⟨gb135, 1, none⟩ = some (.int .i64 0) := (blk_cell BK135.out 1).trans rfl; have hcz32_2 : w28.cell? ⟨gb135, 2, none⟩ = some (.string (⟨#[]⟩ : ByteArray)) := (blk_cell BK135.out 2).trans rfl; have hfz32_0 := blk_frozen BK135.out 0; have hfz32_1 := blk_frozen BK135.out 1; have hfz32_2 := blk_frozen BK135.out 2))
                                  go_roundg k3
                                  case measure => have := HK1.out; have := HK2.out; have := HK3.out; omega
                                  case rel => exact ⟨(wrap64 (x27_3 + 1)), (x126000_3), (by first | rfl | (simp; done) | (simp [*]; done)), H', ⟨by have := HK1.out; have := HK2.out; have := HK3.out; omega⟩, ⟨by (with_reducible repeat (first | refine blk_drewN ?_ _ | refine blk_drew ?_ | refine blk_alloc ?_ _)); refine blk_far ?_ NB131_135.out _; (with_reducible repeat (first | refine blk_drewN ?_ _ | refine blk_drew ?_ | refine blk_alloc ?_ _)); refine blk_far ?_ NB131_135.out _; (with_reducible repeat (first | refine blk_drewN ?_ _ | refine blk_drew ?_ | refine blk_alloc ?_ _)); refine blk_far ?_ NB131_135.out _; (with_reducible repeat (first | refine blk_drewN ?_ _ | refine blk_drew ?_ | refine blk_alloc ?_ _)); exact BK131.out⟩, ⟨by (with_reducible repeat (first | refine blk_drewN ?_ _ | refine blk_drew ?_ | refine blk_alloc ?_ _)); refine blk_far ?_ NB133_135.out _; (with_reducible repeat (first | refine blk_drewN ?_ _ | refine blk_drew ?_ | refine blk_alloc ?_ _)); refine blk_far ?_ NB133_135.out _; (with_reducible repeat (first | refine blk_drewN ?_ _ | refine blk_drew ?_ | refine blk_alloc ?_ _)); refine blk_far ?_ NB133_135.out _; (with_reducible repeat (first | refine blk_drewN ?_ _ | refine blk_drew ?_ | refine blk_alloc ?_ _)); exact BK133.out⟩, ⟨by repeat (first | (with_reducible first | exact HI125.out | apply IsS143.alloc | apply IsS143.drewN | apply IsS143.drew | apply IsS143.set_0 | refine IsS143.farT (t := 56) (a := gb131) ?_ (by (with_reducible repeat (first | exact Go.Proofs.YtmmfakdncjeoeaaAid.TyAt.mk BK131.out | apply Go.Proofs.YtmmfakdncjeoeaaAid.TyAt.set | apply Go.Proofs.YtmmfakdncjeoeaaAid.TyAt.alloc | apply Go.Proofs.YtmmfakdncjeoeaaAid.TyAt.drewN | apply Go.Proofs.YtmmfakdncjeoeaaAid.TyAt.drew))) (by decide) (by decide) _ | refine IsS143.farT (t := 59) (a := gb133) ?_ (by (with_reducible repeat (first | exact Go.Proofs.YtmmfakdncjeoeaaAid.TyAt.mk BK133.out | apply Go.Proofs.YtmmfakdncjeoeaaAid.TyAt.set | apply Go.Proofs.YtmmfakdncjeoeaaAid.TyAt.alloc | apply Go.Proofs.YtmmfakdncjeoeaaAid.TyAt.drewN | apply Go.Proofs.YtmmfakdncjeoeaaAid.TyAt.drew))) (by decide) (by decide) _ | refine IsS143.farT (t := 61) (a := gb135) ?_ (by (with_reducible repeat (first | exact Go.Proofs.YtmmfakdncjeoeaaAid.TyAt.mk BK135.out | apply Go.Proofs.YtmmfakdncjeoeaaAid.TyAt.set | apply Go.Proofs.YtmmfakdncjeoeaaAid.TyAt.alloc | apply Go.Proofs.YtmmfakdncjeoeaaAid.TyAt.drewN | apply Go.Proofs.YtmmfakdncjeoeaaAid.TyAt.drew))) (by decide) (by decide) _) | exact HI125.out)⟩, ⟨by repeat (first | (with_reducible first | exact HB.out | apply below_alloc | apply pw_below_drewN | apply below_drew1 | refine below_set ?_ (IsS143.ge HI125.out) | refine below_set ?_ GE131.out | refine below_set ?_ GE133.out | refine below_set ?_ GE135.out) | exact HB.out)⟩⟩
                              · rw [if_neg c19] at H
                                exact absurd H (by simp)
                            · rw [if_neg c18] at H
                              exact absurd H (by simp)
                          · rw [if_neg c17] at H
                            have c17b0 : decide (x27_3 < (((rd_T59 ((rd_T56 l0 x13_1).f1) x20_2).f1).length : Int)) = false := decide_eq_false c17
                            clear c17
                            have H' := Aside0.mk H
                            clear H
                            go_wp2
                            go_roundg k3
                            case measure => have := HK1.out; have := HK2.out; have := HK3.out; omega
                            case rel => exact ⟨(wrap64 (x20_2 + 1)), (x126000_3), (by first | rfl | (simp; done) | (simp [*]; done)), H', ⟨by have := HK1.out; have := HK2.out; have := HK3.out; omega⟩, ⟨by (with_reducible repeat (first | refine blk_drewN ?_ _ | refine blk_drew ?_ | refine blk_alloc ?_ _)); exact BK131.out⟩, ⟨by repeat (first | (with_reducible first | exact HI125.out | apply IsS143.alloc | apply IsS143.drewN | apply IsS143.drew | apply IsS143.set_0 | refine IsS143.farT (t := 56) (a := gb131) ?_ (by (with_reducible repeat (first | exact Go.Proofs.YtmmfakdncjeoeaaAid.TyAt.mk BK131.out | apply Go.Proofs.YtmmfakdncjeoeaaAid.TyAt.set | apply Go.Proofs.YtmmfakdncjeoeaaAid.TyAt.alloc | apply Go.Proofs.YtmmfakdncjeoeaaAid.TyAt.drewN | apply Go.Proofs.YtmmfakdncjeoeaaAid.TyAt.drew))) (by decide) (by decide) _ | refine IsS143.farT (t := 59) (a := gb133) ?_ (by (with_reducible repeat (first | exact Go.Proofs.YtmmfakdncjeoeaaAid.TyAt.mk BK133.out | apply Go.Proofs.YtmmfakdncjeoeaaAid.TyAt.set | apply Go.Proofs.YtmmfakdncjeoeaaAid.TyAt.alloc | apply Go.Proofs.YtmmfakdncjeoeaaAid.TyAt.drewN | apply Go.Proofs.YtmmfakdncjeoeaaAid.TyAt.drew))) (by decide) (by decide) _) | exact HI125.out)⟩, ⟨by repeat (first | (with_reducible first | exact HB.out | apply below_alloc | apply pw_below_drewN | apply below_drew1 | refine below_set ?_ (IsS143.ge HI125.out) | refine below_set ?_ GE131.out | refine below_set ?_ GE133.out) | exact HB.out)⟩⟩
                    · rw [if_neg c12] at H
                      exact absurd H (by simp)
                  · rw [if_neg c11] at H
                    exact absurd H (by simp)
                · rw [if_neg c10] at H
                  have c10b0 : decide (x20_2 < (((rd_T56 l0 x13_1).f1).length : Int)) = false := decide_eq_false c10
                  clear c10
                  have H' := Aside0.mk H
                  clear H
                  go_wp2
                  go_roundg k2
                  case measure => have := HK1.out; have := HK2.out; omega
                  case rel => exact ⟨(wrap64 (x13_1 + 1)), (x126000_2), (by first | rfl | (simp; done) | (simp [*]; done)), H', ⟨by have := HK1.out; have := HK2.out; omega⟩, ⟨by repeat (first | (with_reducible first | exact HI125.out | apply IsS143.alloc | apply IsS143.drewN | apply IsS143.drew | apply IsS143.set_0 | refine IsS143.farT (t := 56) (a := gb131) ?_ (by (with_reducible repeat (first | exact Go.Proofs.YtmmfakdncjeoeaaAid.TyAt.mk BK131.out | apply Go.Proofs.YtmmfakdncjeoeaaAid.TyAt.set | apply Go.Proofs.YtmmfakdncjeoeaaAid.TyAt.alloc | apply Go.Proofs.YtmmfakdncjeoeaaAid.TyAt.drewN | apply Go.Proofs.YtmmfakdncjeoeaaAid.TyAt.drew))) (by decide) (by decide) _) | exact HI125.out)⟩, ⟨by repeat (first | (with_reducible first | exact HB.out | apply below_alloc | apply pw_below_drewN | apply below_drew1 | refine below_set ?_ (IsS143.ge HI125.out) | refine below_set ?_ GE131.out) | exact HB.out)⟩⟩
          · rw [if_neg c6] at H
            exact absurd H (by simp)
        · rw [if_neg c5] at H
          exact absurd H (by simp)
      · rw [if_neg c4] at H
        have c4b0 : decide (x13_1 < (l0.length : Int)) = false := decide_eq_false c4
        clear c4
        obtain rfl := Option.some.inj H
        go_wp2
        go_ret
        have hb_ := (by repeat (first | (with_reducible first | exact HB.out | apply below_alloc | apply pw_below_drewN | apply below_drew1) | exact HB.out) : Below w.heap.size w _)
        exact ⟨g125, rfl, Go.Proofs.YtmmfakdncjeoeaaAid.IsDict.later (w1 := w) (by repeat (first | (with_reducible first | exact HI125.out | apply IsS143.alloc | apply IsS143.drewN | apply IsS143.drew) | exact HI125.out)) HB0.out.size, below_weaken HB0.out HB0.out.size hb_, hb_⟩

-- NOT PRINTED: function 58 (block_writers)

-- NOT PRINTED: function 58 (block_writers)

/-! ### slices_Clone_string_string: function 78 -/
theorem slices_Clone_string_string.info : (Try.prog.info? 9).map (fun i => (i.zero, i.size, i.bytes)) = some (some (.string ⟨#[]⟩), 1, 16) := by kernel_rfl

set_option maxHeartbeats 8000000 in
set_option maxRecDepth 100000 in
theorem slices_Clone_string_string.calls0 (A0 : Option Addr) (c0 : Nat) (l0 : List ByteArray) (w : World) (hr0 : Kd.C Kd.string w A0 l0.length l0) (hc0 : l0.length ≤ c0) (hl : l0.length ≤ 8796093022208) :
    Calls Try.prog 78 #[.slice A0 l0.length c0] w fun e w' => ∃ v0_ : Value, e = .returned v0_ ∧ Kd.R Kd.string 9 w' w.heap.size (fun _ => True) v0_ l0 ∧ Below w.heap.size w w' := by
  have hnil := fun (w : World) (a : Option Addr) (n c : Nat) => Lib.run_eql_slice_nil (P := Try.prog) w 66 9 a n c 0 0 Try.underlying66
  have HL := Lib.hid hl; clear hl
  cases A0 with
  | none =>
    have HR := Lib.hid hr0; clear hr0
    go_enter Try.func78, Try.ntmps78
    go_wp2
    go_ret
    have : l0 = [] := by
      cases l0 with
      | nil => rfl
      | cons x l => exfalso; obtain ⟨ad, c, e, _⟩ := Kd.C_get HR.out (⟨#[]⟩ : ByteArray) 0 (by omega) (by simp only [List.length_cons]; omega); cases e
    subst this
    exact ⟨_, rfl, Kd.R_nil _ _ _ _ _, Below.refl _ _⟩
  | some ad =>
    have HR := Lib.hid hr0; clear hr0
    have HB := Lib.hid (Below.refl w.heap.size w)
    go_enter Try.func78, Try.ntmps78
    go_wp2_with (first | ((with_reducible refine gate_dst (N := 5) rfl ?_); refine Kd.R_lit Kd.string w.heap.size 9 ?hg (N := 5) ?hd (w0 := w) (xs := ([] : List ByteArray)) (inner := []) (ok := fun _ => True) (okp := fun _ => True) ?hr ?hp (fun _ hk => hk) trivial (Below.refl _ _) (Nat.le_refl _) (by simp) ?_; (case hd => rfl); (case hg => rfl); (case hr => first | (go_simp; done) | (go_simp; rfl)); (case hp => exact (Reps.none _ _)); intro v1 w1 h1 h2 h3 h4; have H1 := Lib.hid h1; have H2 := Lib.hid h2; clear h1 h2 h3 h4) | ((with_reducible refine gate_dst (N := 7) rfl ?_); refine Kd.R_append_row Value.string (⟨#[]⟩ : ByteArray) (w0 := w) w.heap.size rfl (.tmp 5) (.tmp 6) 66 9 (.string ⟨#[]⟩) 16 rfl Try.underlying66 slices_Clone_string_string.info rfl (by decide) _ [] l0 _ _ _ (fun _ => True) rfl rfl (fun _ _ => trivial) H1.out (Kd.C_below HR.out H2.out) H2.out H2.out.size ?hl ?_; (case hl => have := HL.out; simp; omega); intro v2 w2 h1 h2 h3 h4; have H3 := Lib.hid h1; have H4 := Lib.hid h2; clear h1 h2 h3 h4))
    go_ret
    exact ⟨_, rfl, H3.out, H4.out⟩
def slices_Clone_string_string.f (l0 : List ByteArray) : Option (List ByteArray) := if l0.length ≤ 8796093022208 then some l0 else none
theorem slices_Clone_string_string.calls (A0 : Option Addr) (c0 : Nat) (l0 : List ByteArray) (r : List ByteArray) (w : World) (hr0 : Kd.C Kd.string w A0 l0.length l0) (hc0 : l0.length ≤ c0) (h : slices_Clone_string_string.f l0 = some r) :
    Calls Try.prog 78 #[.slice A0 l0.length c0] w fun e w' => ∃ v0_ : Value, e = .returned v0_ ∧ Kd.R Kd.string 9 w' w.heap.size (fun _ => True) v0_ r ∧ Below w.heap.size w w' := by
  unfold slices_Clone_string_string.f at h
  split at h
  · obtain rfl := Option.some.inj h
    exact slices_Clone_string_string.calls0 A0 c0 l0 w hr0 hc0 (by assumption)
  · cases h

/-! ### dict_Dict_All: function 59 -/
def dict_Dict_All.f (s0_0 : ByteArray) : Option (List ByteArray × ByteArray) := if (Go.Proofs.YtmmfakdncjeoeaaAid.ddec s0_0).length ≤ 8796093022208 then some (Go.Proofs.YtmmfakdncjeoeaaAid.ddec s0_0, s0_0) else none
set_option maxHeartbeats 8000000 in
set_option maxRecDepth 100000 in
theorem dict_Dict_All.calls (g : Nat) (s0_0 : ByteArray) (r1 : List ByteArray) (r2 : ByteArray) (w0 w : World) (hI : IsS143 w0 w g s0_0) (hB : Below w0.heap.size w0 w) (h : dict_Dict_All.f s0_0 = some (r1, r2)) :
    Calls Try.prog 59 #[.pointer (some ⟨g, 0, none⟩)] w fun e w' => ∃ v0_ : Value, e = .returned v0_ ∧ Kd.R Kd.string 9 w' w.heap.size (fun _ => True) v0_ r1 ∧ IsS143 w0 w' g r2 ∧ Below w0.heap.size w0 w' ∧ KeepBut w w' g none ∧ Below w.heap.size w w' := by
  unfold dict_Dict_All.f at h
  split at h
  · simp only [Option.some.injEq, Prod.mk.injEq] at h
    obtain ⟨rfl, rfl⟩ := h
    rename_i hl
    have HI := Lib.hid hI
    have HL := Lib.hid hl
    have HW := Lib.hid hB
    obtain ⟨gm, A, c, hI⟩ := hI
    have HB := Lib.hid hI.1
    have HR := Lib.hid hI.2.2.2.2.1
    have hx1 : w.cell? ⟨g, 1, none⟩ = some (.slice A (Go.Proofs.YtmmfakdncjeoeaaAid.ddec s0_0).length c) := (blk_cell HB.out 1).trans rfl
    clear hI hl hB
    go_enter Try.func59, Try.ntmps59
    go_wp2_with (first | (go_at_call 78; (with_reducible refine (slices_Clone_string_string.calls0 A c (Go.Proofs.YtmmfakdncjeoeaaAid.ddec s0_0) _ (Kd.R_reads' HR.out).2.2 (Kd.R_reads' HR.out).2.1 HL.out).mono ?_); rintro e w' ⟨v, rfl, hr, hb⟩; have HRR := Lib.hid hr; have HBB := Lib.hid hb; clear hr hb))
    go_ret
    exact ⟨_, rfl, HRR.out, HI.out.below HBB.out, below_weaken HW.out HW.out.size HBB.out, KeepBut.of_below HBB.out _ _, HBB.out⟩
  · cases h

/-! ### slices_Clone_byte_byte: function 79 -/
theorem slices_Clone_byte_byte.info : (Try.prog.info? 5).map (fun i => (i.zero, i.size, i.bytes)) = some (some (.int .u8 0), 1, 1) := by kernel_rfl

set_option maxHeartbeats 8000000 in
set_option maxRecDepth 100000 in
theorem slices_Clone_byte_byte.calls0 (A0 : Option Addr) (c0 : Nat) (l0 : List Int) (w : World) (hr0 : Kd.C (Kd.int .u8) w A0 l0.length l0) (hc0 : l0.length ≤ c0) (hl : l0.length ≤ 140737488355328) :
    Calls Try.prog 79 #[.slice A0 l0.length c0] w fun e w' => ∃ v0_ : Value, e = .returned v0_ ∧ Kd.R (Kd.int .u8) 5 w' w.heap.size (fun _ => True) v0_ l0 ∧ Below w.heap.size w w' := by
  have hnil := fun (w : World) (a : Option Addr) (n c : Nat) => Lib.run_eql_slice_nil (P := Try.prog) w 28 5 a n c 0 0 Try.underlying28
  have HL := Lib.hid hl; clear hl
  cases A0 with
  | none =>
    have HR := Lib.hid hr0; clear hr0
    go_enter Try.func79, Try.ntmps79
    go_wp2
    go_ret
    have : l0 = [] := by
      cases l0 with
      | nil => rfl
      | cons x l => exfalso; obtain ⟨ad, c, e, _⟩ := Kd.C_get HR.out 0 0 (by omega) (by simp only [List.length_cons]; omega); cases e
    subst this
    exact ⟨_, rfl, Kd.R_nil _ _ _ _ _, Below.refl _ _⟩
  | some ad =>
    have HR := Lib.hid hr0; clear hr0
    have HB := Lib.hid (Below.refl w.heap.size w)
    go_enter Try.func79, Try.ntmps79
    go_wp2_with (first | ((with_reducible refine gate_dst (N := 5) rfl ?_); refine Kd.R_lit (Kd.int .u8) w.heap.size 5 ?hg (N := 5) ?hd (w0 := w) (xs := ([] : List Int)) (inner := []) (ok := fun _ => True) (okp := fun _ => True) ?hr ?hp (fun _ hk => hk) trivial (Below.refl _ _) (Nat.le_refl _) (by simp) ?_; (case hd => rfl); (case hg => rfl); (case hr => first | (go_simp; done) | (go_simp; rfl)); (case hp => exact (Reps.none _ _)); intro v1 w1 h1 h2 h3 h4; have H1 := Lib.hid h1; have H2 := Lib.hid h2; clear h1 h2 h3 h4) | ((with_reducible refine gate_dst (N := 7) rfl ?_); refine Kd.R_append_row (Value.int .u8) 0 (w0 := w) w.heap.size rfl (.tmp 5) (.tmp 6) 28 5 (.int .u8 0) 1 rfl Try.underlying28 slices_Clone_byte_byte.info rfl (by decide) _ [] l0 _ _ _ (fun _ => True) rfl rfl (fun _ _ => trivial) H1.out (Kd.C_below HR.out H2.out) H2.out H2.out.size ?hl ?_; (case hl => have := HL.out; simp; omega); intro v2 w2 h1 h2 h3 h4; have H3 := Lib.hid h1; have H4 := Lib.hid h2; clear h1 h2 h3 h4))
    go_ret
    exact ⟨_, rfl, H3.out, H4.out⟩
def slices_Clone_byte_byte.f (l0 : List Int) : Option (List Int) := if l0.length ≤ 140737488355328 then some l0 else none
theorem slices_Clone_byte_byte.calls (A0 : Option Addr) (c0 : Nat) (l0 : List Int) (r : List Int) (w : World) (hr0 : Kd.C (Kd.int .u8) w A0 l0.length l0) (hc0 : l0.length ≤ c0) (h : slices_Clone_byte_byte.f l0 = some r) :
    Calls Try.prog 79 #[.slice A0 l0.length c0] w fun e w' => ∃ v0_ : Value, e = .returned v0_ ∧ Kd.R (Kd.int .u8) 5 w' w.heap.size (fun _ => True) v0_ r ∧ Below w.heap.size w w' := by
  unfold slices_Clone_byte_byte.f at h
  split at h
  · obtain rfl := Option.some.inj h
    exact slices_Clone_byte_byte.calls0 A0 c0 l0 w hr0 hc0 (by assumption)
  · cases h

-- NOT PRINTED: function 80 (wire_groups)

/-! ### wire_Put: function 60 -/
section
open Go.Shelf Go.Proofs.YtmmfakdncjeoeaaAid
attribute [local go_sem] Oper.semAt_some
def wbytes (m : Nat) : List Int := if h : m < 128 then [(m : Int)] else ((m % 128 + 128 : Nat) : Int) :: wbytes (m / 128)
termination_by m
decreasing_by omega

theorem wire_Put.or128 (m : Nat) : Go.bits .or .u8 ((m : Int) % 256) 128 = ((m % 128 + 128 : Nat) : Int) := by
  have h : ∀ x : Fin 256, Go.bits .or .u8 ((x.val : Nat) : Int) 128 = ((x.val % 128 + 128 : Nat) : Int) := by decide +kernel
  have := h ⟨m % 256, by omega⟩
  have e : ((m % 256 : Nat) : Int) = (m : Int) % 256 := by omega
  simp only [e] at this
  rw [this]
  congr 1
  omega

set_option maxRecDepth 100000 in
set_option maxHeartbeats 1000000 in
theorem wire_groups1 (F : Fence) (n : Nat) (h6 : F.fn 91) (hro : F.round = none) (hn : 1 ≤ n) (l B : Nat) (m0 : Nat) (hm0 : m0 < 18446744073709551616) (J : List Int → World → Prop)
    (hY : ∀ pre x rest W m, pre ++ x :: rest = wbytes m0 → J pre W → Boxed W B 39 (.int .u64 m) → YieldAt F (n - 1) Try.prog l #[.int .u8 x] W fun e W' => e = .returned (.bool true) ∧ J (pre ++ [x]) W' ∧ Boxed W' B 39 (.int .u64 m))
    (hJ : ∀ pre W u v, Boxed W B 39 u → J pre W → J pre (W.setCell ⟨B, 0, none⟩ v))
    (W : World) (hB : Boxed W B 39 (.int .u64 m0)) (h0 : J [] W) :
    CallsIn F n Try.prog 91 #[.func (.yield l) #[] #[], .pointer (some ⟨B, 0, none⟩)] W fun e W' => (∃ v, e = .returned v) ∧ J (wbytes m0) W' := by
  have HY := Lib.hid hY; clear hY
  have HJ := Lib.hid hJ; clear hJ
  refine callsIn_of_wp Try.func91 rfl h6 ?_ hro
  simp only [Try.ntmps91, List.size_toArray, List.length_cons, List.length_nil, Nat.reduceAdd, Nat.reduceSub, Array.replicate_succ, Array.replicate_zero, List.push_toArray, List.append_toArray, List.nil_append, List.cons_append]
  gi_wp2
  gi_loopw [3] (fun _ wr => ∃ (pre : List Int) (m : Nat), m < 18446744073709551616 ∧ pre ++ wbytes m = wbytes m0 ∧ Boxed wr B 39 (.int .u64 m) ∧ J pre wr)
    (fun _ wr => match wr.cell? ⟨B, 0, none⟩ with | some (.int _ m) => m.toNat | _ => 0)
  case atStart => exact ⟨[], m0, hm0, rfl, hB, h0⟩
  case round =>
    obtain ⟨pre, m, hm, hpre, hb, hj⟩ := hrel
    have HP := Lib.hid hpre; clear hpre
    have hc := hb.cell
    have hf := hb.frozen
    by_cases hlt : m < 128
    · obtain ⟨fn, tmps, assign, body, hy, hR⟩ := HY.out pre m [] wr m (by rw [← HP.out, wbytes, dif_pos hlt]) hj hb
      gi_wp2
      refine hR.mono ?_
      rintro e W3 ⟨rfl, hJ3, hb3⟩
      gi_wp2
      go_end0
      have e1 : wbytes m = [(m : Int)] := by rw [wbytes, dif_pos hlt]
      rw [e1] at HP
      rw [HP.out] at hJ3
      exact ⟨⟨_, rfl⟩, hJ3⟩
    · obtain ⟨fn, tmps, assign, body, hy, hR⟩ := HY.out pre (Go.bits .or .u8 ((m : Int) % 256) 128) (wbytes (m / 128)) wr m (by rw [wire_Put.or128, ← HP.out]; congr 1; rw [wbytes.eq_1 m, dif_neg hlt]) hj hb
      gi_wp2
      refine hR.mono ?_
      rintro e W3 ⟨rfl, hJ3, hb3⟩
      have hc3 := hb3.cell
      have hf3 := hb3.frozen
      gi_wp2
      have hb4 := hb3.set (.int .u64 ((m : Int) / 128))
      have hJ4 := HJ.out _ _ _ (.int .u64 ((m : Int) / 128)) hb3 hJ3
      go_roundw
      case rel =>
        refine ⟨_, m / 128, by omega, ?_, by simpa using hb4, hJ4⟩
        have e1 : wbytes m = ((m % 128 + 128 : Nat) : Int) :: wbytes (m / 128) := by rw [wbytes, dif_neg hlt]
        have HP' := HP.out
        rw [e1] at HP'
        rw [← HP', wire_Put.or128]
        simp
      case measure =>
        have hc4 := hb4.cell
        rw [hc4, hc]
        simp
        omega

theorem wbytes_len (k : Nat) : ∀ m, m < 128 ^ (k + 1) → (wbytes m).length ≤ k + 1 := by
  induction k with
  | zero => intro m h; rw [wbytes, dif_pos (by simpa using h)]; simp
  | succ k ih =>
    intro m h
    rw [wbytes]
    split
    · simp
    · have := ih (m / 128) (by rw [Nat.pow_succ] at h; omega)
      simp; omega

theorem wire_groups0 (n : Int) (w : World) :
    Calls Try.prog 80 #[.int .u64 n] w fun e w' => e = .returned (.func (.func 91) #[] #[.pointer (some ⟨w.heap.size, 0, none⟩)]) ∧ w' = w.alloc (.cells #[.int .u64 n] 39) := by
  go_enter Try.func80, Try.ntmps80
  go_wp2
  go_ret
  exact ⟨rfl, rfl⟩

set_option maxRecDepth 100000 in
set_option maxHeartbeats 2000000 in
theorem wire_Put.calls0 (A0 : Option Addr) (c0 : Nat) (l0 : List Int) (m0 : Nat) (w : World) (hr0 : Kd.C (Kd.int .u8) w A0 l0.length l0) (hc0 : l0.length ≤ c0) (hl : l0.length ≤ 140737488355000) (hm0 : m0 < 18446744073709551616) :
    Calls Try.prog 60 #[.slice A0 l0.length c0, .int .u64 m0] w fun e w' => ∃ v0_ : Value, e = .returned v0_ ∧ Kd.R (Kd.int .u8) 5 w' w.heap.size (fun _ => True) v0_ (l0 ++ wbytes m0) ∧ Below w.heap.size w w' := by
  have HR0 := Lib.hid hr0; clear hr0
  have HC0 := Lib.hid hc0; clear hc0
  have HL0 := Lib.hid hl; clear hl
  have HM0 := Lib.hid hm0; clear hm0
  refine (callsIn_wide (n := 3)).1 ?_
  refine callsIn_of_wp_marks Try.func60 rfl trivial ?_ rfl
  simp only [Try.ntmps60, List.size_toArray, List.length_cons, List.length_nil, Nat.reduceAdd, Nat.reduceSub, Array.replicate_succ, Array.replicate_zero, List.push_toArray, List.append_toArray, List.nil_append, List.cons_append]
  gi_wp2_with (first | (refine ⟨trivial, ?_⟩; gi_at_call 79; refine (callsIn_wide.2 (slices_Clone_byte_byte.calls0 _ _ _ _ HR0.out HC0.out (by have := HL0.out; omega))).mono ?_; rintro e w1 ⟨v1, rfl, h1, h2⟩; obtain ⟨A1, c1, rfl, hl1, _⟩ := Kd.R_reads h1; have HC1 := Lib.hid hl1; clear hl1; have H1 := Lib.hid h1; have H2 := Lib.hid h2; clear h1 h2) | (refine ⟨trivial, ?_⟩; gi_at_call 80; refine (callsIn_wide.2 (wire_groups0 _ _)).mono ?_; rintro e w2 ⟨rfl, rfl⟩))
  obtain ⟨W0, hW0⟩ : ∃ W0, (w1.alloc (.cells #[.slice A1 l0.length c1] 28)).alloc (.cells #[.int .u64 m0] 39) = W0 := ⟨_, rfl⟩
  have hs0 : W0.heap.size = w1.heap.size + 2 := by rw [← hW0]; simp
  have hbo : Boxed W0 w1.heap.size 28 (.slice A1 l0.length c1) := by rw [← hW0]; exact (Boxed.new _ _ _).alloc _
  have hbn : Boxed W0 (w1.heap.size + 1) 39 (.int .u64 m0) := by rw [← hW0]; have := Boxed.new (w1.alloc (.cells #[.slice A1 l0.length c1] 28)) 39 (.int .u64 m0); rwa [World.size_alloc] at this
  have hle1 : w.heap.size ≤ w1.heap.size := H2.out.size
  have hrow : W0.ownsRow w.heap.size 5 1 (.slice A1 l0.length c1) l0.length (nums .u8 l0) := by rw [← hW0]; exact ((Kd.own_of_R H1.out).alloc _).alloc _
  have hbel : Below w.heap.size w W0 := by rw [← hW0]; exact (H2.out.alloc H2.out.size _).alloc (by simp; omega) _
  have HS0 := Lib.hid hs0
  have HRW := Lib.hid hrow
  have HBL := Lib.hid hbel
  rw [hW0]
  clear hW0 hrow hbel hs0
  refine range_on rfl (by omega) (gf := 91) (lb := #[.pointer (some ⟨w1.heap.size + 1, 0, none⟩)]) rfl trivial (enters_of Try.func91 (by kernel_rfl) rfl) ?_
  intro fn REC hfn hrec
  refine (wire_groups1 Fence.wide 2 trivial rfl (by omega) (W0.heap.size + 1) (w1.heap.size + 1) m0 HM0.out
    (fun pre W => (∃ v, Boxed W w1.heap.size 28 v ∧ W.ownsRow w.heap.size 5 1 v (l0 ++ pre).length (nums .u8 (l0 ++ pre))) ∧ W.heap[W0.heap.size + 1]? = some (.loop (REC .ready)) ∧ W.heap[W0.heap.size]? = some (.deferred (some [])) ∧ Below w.heap.size w W) ?hY ?hJ _ ?hB ?h0).mono ?hd
  case hd =>
    rintro e W2 ⟨⟨vr, rfl⟩, ⟨v, h1, h2⟩, h3, h4, h5⟩
    clear hrec
    refine ⟨⟨vr, rfl⟩, h3, ?_⟩
    obtain ⟨W3, hW3⟩ : ∃ W3, W2.putObj (W0.heap.size + 1) (.loop (REC .exhausted)) = W3 := ⟨_, rfl⟩
    have hg2 : W2.grownBy W3 (some (W0.heap.size + 1)) := by rw [← hW3]; exact grownBy_putObj' _ _ _
    have j1 := h1.kept hg2 (by have := HS0.out; simp; omega)
    have j2 := ownsRow_putObj h2 (.loop (REC .exhausted)) h3 rfl
    have j4 : W3.heap[W0.heap.size]? = some (.deferred (some [])) := by rw [← hW3]; exact (World.putObj_heap_other (by omega)).trans h4
    have j5 : Below w.heap.size W2 W3 := (Below.refl _ _).grown hg2 h5.size (by intro k e; cases e; have := HS0.out; omega)
    rw [hW3] at j2 ⊢
    have k5 := h5.trans j5
    clear h1 h2 h3 h4 hg2 hW3 j5 h5
    have hc := j1.cell
    have J2 := Lib.hid j2
    have J4 := Lib.hid j4
    have K5 := Lib.hid k5
    clear j1 j2 j4 k5
    gi_wp2
    refine ⟨by simp, .inl ⟨_, _, rfl, run_takeDeferred J4.out, ?_⟩⟩
    refine ⟨_, results_tmp rfl _ _ _, v, rfl, Kd.R_of_own (ownsRow_putObj J2.out _ J4.out rfl) (fun _ _ => trivial), ?_⟩
    exact K5.out.grown (grownBy_putObj' _ _ _) K5.out.size (by intro k e; cases e; have := HS0.out; omega)
  case hB => exact (hbn.alloc _).alloc _
  case h0 =>
    refine ⟨⟨_, (hbo.alloc _).alloc _, by simpa using (HRW.out.alloc _).alloc _⟩, ?_, ?_, (HBL.out.alloc HBL.out.size _).alloc (by have := HBL.out.size; simp; omega) _⟩
    · have := World.alloc_heap_new (W0.alloc (.deferred (some []))) (.loop (REC .ready)); rwa [World.size_alloc] at this
    · exact (Below.heap_alloc _ _ _ (by simp)).trans (World.alloc_heap_new _ _)
  case hJ =>
    rintro pre W u v hb ⟨⟨v1, h1, h2⟩, h3, h4, h5⟩
    refine ⟨⟨v1, h1.other (by omega) _, h2.kept (grownBy_setCell' _ _ _) (.inr (hb.not_row (by decide) h2).symm)⟩, ?_, ?_, h5.setCell (p := ⟨w1.heap.size + 1, 0, none⟩) (by simp; omega) _⟩
    · exact (Below.heap_setCell _ _ _ _ (by have := HS0.out; simp; omega)).trans h3
    · exact (Below.heap_setCell _ _ _ _ (by have := HS0.out; simp; omega)).trans h4
  case hY =>
    rintro pre x rest W m hp ⟨⟨v1, h1, h2⟩, h3, h4, h5⟩ hb
    have hpl : pre.length + 1 ≤ 10 := by
      have := wbytes_len 9 m0 (by have := HM0.out; omega)
      rw [← hp] at this; simp at this; omega
    refine round_on (R := fun W' => (((∃ v, Boxed W' w1.heap.size 28 v ∧ W'.ownsRow w.heap.size 5 1 v (l0 ++ (pre ++ [x])).length (nums .u8 (l0 ++ (pre ++ [x])))) ∧ W'.heap[W0.heap.size + 1]? = some (.loop (REC .ready)) ∧ W'.heap[W0.heap.size]? = some (.deferred (some [])) ∧ Below w.heap.size w W') ∧ Boxed W' (w1.heap.size + 1) 39 (.int .u64 m))) hfn hrec h3 rfl ?_
    clear hrec
    gi_wp2
    refine ⟨h3, ?_⟩
    have hlt : W0.heap.size + 1 < W.heap.size := (Array.getElem?_eq_some_iff.1 h3).1
    obtain ⟨W2, hW2⟩ : ∃ W2, W.putObj (W0.heap.size + 1) (.loop (REC .busy)) = W2 := ⟨_, rfl⟩
    have hg2 : W.grownBy W2 (some (W0.heap.size + 1)) := by rw [← hW2]; exact grownBy_putObj' _ _ _
    have j1 := h1.kept hg2 (by have := HS0.out; simp; omega)
    have jb := hb.kept hg2 (by have := HS0.out; simp; omega)
    have j2 := ownsRow_putObj h2 (.loop (REC .busy)) h3 rfl
    have j3 : W2.heap[W0.heap.size + 1]? = some (.loop (REC .busy)) := by rw [← hW2]; exact World.putObj_heap_same hlt
    have j4 : W2.heap[W0.heap.size]? = some (.deferred (some [])) := by rw [← hW2]; exact (World.putObj_heap_other (by omega)).trans h4
    have j5 : Below w.heap.size W W2 := (Below.refl _ _).grown hg2 h5.size (by intro k e; cases e; have := HS0.out; omega)
    rw [hW2] at j2 ⊢
    have k5 := h5.trans j5
    clear h1 h2 h3 h4 hb hg2 hW2 j5
    have hc := j1.cell
    have hf := j1.frozen
    have J2 := Lib.hid j2
    have J3 := Lib.hid j3
    have J4 := Lib.hid j4
    have K5 := Lib.hid k5
    have J1 := Lib.hid j1
    have JB := Lib.hid jb
    clear j1 j2 j3 j4 k5 jb
    obtain ⟨A3, n3, c3, rfl⟩ : ∃ A n c, v1 = .slice A n c := by obtain ⟨A, c, e⟩ := own_slice J2.out; exact ⟨_, _, _, e⟩
    obtain ⟨i0, hi, hz0, hz1, hz2⟩ := info_parts slices_Clone_byte_byte.info
    have HL := HL0.out
    gi_wp2_with (gi_at_builtin; refine wpListIn_append_own _ rfl _ _ 28 rfl w.heap.size 5 i0 (.int .u8 0) 1 1 Try.underlying28 hi hz0 hz1 hz2 rfl (by decide) _ _ _ rfl (J2.out.alloc _) ⟨W2.heap.size, 0, none⟩ 1 1 [.int .u8 x] rfl rfl (cell_one_new _ _ _) (by simp [Value.oneCell']) ?q1 ?q2 ?q3 ?_; (case q1 => simp [maxLen]; omega); (case q2 => simp; omega); (case q3 => have := K5.out.size; simp; omega); intro v' w1' hown' hgrow _; obtain ⟨g', cap', rfl⟩ := ownsRow_succ hown'; obtain ⟨hv1, hv2, hr2, hk2, hb2⟩ := J1.out.appended (by decide) J2.out K5.out.size hle1 hown' hgrow; have hbb := (((JB.out.alloc _).kept hgrow (JB.out.not_row (by decide) J2.out)).other (B' := w1.heap.size) (by omega) (.slice (some ⟨g', 0, none⟩) ((l0 ++ pre).length + 1) cap')); have hc1 := hv1.cell; have hf1 := hv1.frozen; have X1 := Lib.hid hv2; have X2 := Lib.hid hr2; have X3 := Lib.hid hk2; have X4 := Lib.hid hb2; have X5 := Lib.hid hbb; clear hv1 hv2 hr2 hk2 hb2 hbb hown' hgrow)
    have hlen : (l0 ++ pre).length = l0.length + pre.length := List.length_append
    rw [hlen] at X1 X2 X3 X4 X5
    obtain ⟨W3, hW3⟩ : ∃ W3, w1'.setCell ⟨w1.heap.size, 0, none⟩ (.slice (some ⟨g', 0, none⟩) (l0.length + pre.length + 1) cap') = W3 := ⟨_, rfl⟩
    rw [hW3] at X1 X2 X3 X4 X5 ⊢
    have y3 := X3.out.same _ _ J3.out rfl
    have y4 := X3.out.same _ _ J4.out rfl
    have hlt3 : W0.heap.size + 1 < W3.heap.size := (Array.getElem?_eq_some_iff.1 y3).1
    have hg3 : W3.grownBy (W3.putObj (W0.heap.size + 1) (.loop (REC .ready))) (some (W0.heap.size + 1)) := grownBy_putObj' _ _ _
    have hs := HS0.out
    refine ⟨y3, ⟨⟨_, X1.out.kept hg3 (by simp; omega), ?_⟩, World.putObj_heap_same hlt3, (World.putObj_heap_other (by omega)).trans y4, ?_⟩, X5.out.kept hg3 (by simp; omega)⟩
    · have := ownsRow_putObj X2.out (.loop (REC .ready)) y3 rfl
      have e1 : nums .u8 (l0 ++ (pre ++ [x])) = nums .u8 (l0 ++ pre) ++ [.int .u8 x] := by simp [nums]
      rw [e1]
      exact this
    · exact (K5.out.trans X4.out).grown hg3 (by have := K5.out.size; have := X4.out.size; omega) (by intro k e; cases e; have := HBL.out.size; omega)
end
def wire_Put.f (l0 : List Int) (a1 : Int) : Option (List Int) := if l0.length ≤ 140737488355000 ∧ 0 ≤ a1 ∧ a1 < 18446744073709551616 then some (l0 ++ wbytes a1.toNat) else none
theorem wire_Put.calls (A0 : Option Addr) (c0 : Nat) (l0 : List Int) (a1 : Int) (r : List Int) (w : World) (hr0 : Kd.C (Kd.int .u8) w A0 l0.length l0) (hc0 : l0.length ≤ c0) (h : wire_Put.f l0 a1 = some r) :
    Calls Try.prog 60 #[.slice A0 l0.length c0, .int .u64 a1] w fun e w' => ∃ v0_ : Value, e = .returned v0_ ∧ Kd.R (Kd.int .u8) 5 w' w.heap.size (fun _ => True) v0_ r ∧ Below w.heap.size w w' := by
  unfold wire_Put.f at h
  split at h
  · rename_i hc
    obtain ⟨h1, h2, h3⟩ := hc
    obtain rfl := Option.some.inj h
    obtain ⟨m, rfl⟩ := Int.eq_ofNat_of_zero_le h2
    exact wire_Put.calls0 A0 c0 l0 m w hr0 hc0 h1 (by omega)
  · cases h

/-! ### blob_Put: function 61 -/
def blob_Put.f (l0 : List Int) (a1 : ByteArray) : Option (List Int) := (wire_Put.f l0 (IntKind.u64.wrap ((a1.size : Int)))).bind fun t125 => (if t125.length + a1.size < 140737488355328 then (some (t125 ++ bytesOf a1)) else (none))
set_option maxHeartbeats 8000000 in
set_option maxRecDepth 100000 in
theorem blob_Put.calls (A0 : Option Addr) (c0 : Nat) (l0 : List Int) (a1 : ByteArray) (r : List Int) (w : World) (hr0 : Kd.C (Kd.int .u8) w A0 l0.length l0) (hc0 : l0.length ≤ c0) (h : blob_Put.f l0 a1 = some r) :
  Calls Try.prog 61 #[.slice A0 l0.length c0,.string a1] w fun e w' => ∃ v0_ : Value,e = .returned (v0_) ∧ Kd.R (Kd.int .u8) 5 w' w.heap.size (fun _ => True) v0_ r ∧ Below w.heap.size w w':=by
 have HR0:=Aside0.mk hr0
 have HC0:=Aside0.mk hc0
 clear hr0 hc0
 have HB:=Aside0.mk (Below.refl w.heap.size w)
 have H : ((wire_Put.f l0 (IntKind.u64.wrap ((a1.size : Int)))).bind fun t125 => (if t125.length + a1.size < 140737488355328 then (some (t125 ++ bytesOf a1)) else (none))) = some r:=h
 clear h
 replace H:=Option.bind_eq_some_iff.mp H
 obtain ⟨t125,A30,H⟩:=H
 replace H : (if t125.length + a1.size < 140737488355328 then (some (t125 ++ bytesOf a1)) else (none)) = some r:=H
 have A3:=Aside0.mk A30
 clear A30
 by_cases c4 : t125.length + a1.size < 140737488355328
 ·rw [if_pos c4] at H
  have LMc4:=Aside0.mk c4
  clear c4
  obtain ⟨y128,hy128⟩ : ∃ y_ : List Int,y_ = (t125 ++ bytesOf a1):=⟨_,rfl⟩
  replace H : (some y128) = some r:=by first | (rw [hy128];with_reducible exact H) | (have H2_:=(Option.bind_some _ _).symm.trans H;rw [hy128];with_reducible exact H2_) | (have H2_:=(Option.bind_some _ _).symm.trans H;with_reducible exact H2_) | with_reducible exact H | (rw [hy128];exact H) | exact H
  have Ny128:=Aside0.mk hy128
  clear hy128
  obtain rfl:=Option.some.inj H
  go_enter Try.func61,Try.ntmps61
  go_wp2_with (first | ((with_reducible refine gate_callee (f:=60) rfl ?_);refine goesL_ (some 9) rfl rfl Try.func60 (by kernel_rfl) rfl #[.slice A0 l0.length c0,.int .u64 (IntKind.u64.wrap ((a1.size : Int)))] rfl (by (try simp only [List.map_toArray,List.map_cons,List.map_nil]);first | done | rfl | (simp only [List.length_drop,List.length_take];rfl) | (refine congrArg (fun z_ => #[z_]) (congrArg (Value.int IntKind.u64) (Eq.symm (Go.Proofs.YtmmfakdncjeoeaaAid.wrap_len _ (by omega)))))) ?_;(with_reducible refine (wire_Put.calls _ _ l0 (IntKind.u64.wrap ((a1.size : Int))) t125 _ ?side1 ?side2 A3.out).mono ?_);(case side1 => repeat (first | exact HR0.out | (with_reducible refine Kd.C_alloc ?_ _) | (with_reducible refine Kd.C_drewN ?_ _) | (with_reducible refine Kd.C_drew ?_)));(case side2 => exact HC0.out);rintro e w5 ⟨v126,rfl,ho0,hb⟩;refine ⟨_,rfl,?_⟩;have n0_:=Aside0.mk (Kd.R_lower ho0 (below_size (by repeat (first | (with_reducible first | exact HB.out | apply below_alloc | apply pw_below_drewN | apply below_drew1) | exact HB.out))));have n1_:=Aside0.mk (below_step (by repeat (first | (with_reducible first | exact HB.out | apply below_alloc | apply pw_below_drewN | apply below_drew1) | exact HB.out)) hb);clear HB;have HO127:=n0_;have HB:=n1_;clear n0_ n1_;(try clear hb);(try clear hb2);(try clear hk);(try clear hi);(try clear ho0)) | (at_builtin;refine print_append_str (w0:=w) w.heap.size rfl (.tmp 9) _ 28 9 5 rfl Try.underlying28 Try.underlying9 info5 v126 t125 a1 rfl rfl ?aO ?aB ?aS ?aL ?_;(case aB => exact (by repeat (first | (with_reducible first | exact HB.out | apply below_alloc | apply pw_below_drewN | apply below_drew1) | exact HB.out)));(case aO => exact (Kd.own_of_R (by (with_reducible repeat (first | apply Kd.R_alloc | apply Kd.R_drewN | apply Kd.R_drew));exact HO127.out)));(case aS => exact (below_size (by repeat (first | (with_reducible first | exact HB.out | apply below_alloc | apply pw_below_drewN | apply below_drew1) | exact HB.out))));(case aL => have:=LMc4.out;omega);intro v129 w6 ho0 hb hg;have ho:=Kd.R_of_own (h1:=fun _ => rfl) (ok:=fun _ => True) ho0 (fun _ _ => trivial);clear ho0;have hat:=True.intro;rw [← Ny128.out] at ho;change Kd.R (Kd.int .u8) 5 w6 w.heap.size (fun _ => True) v129 y128 at ho;have n0_:=Aside0.mk (hb);have n1_:=Aside0.mk (ho);clear HB;clear HO127;have HB:=n0_;have HO130:=n1_;clear n0_ n1_;clear ho hb hg hat))
  go_ret
  exact ⟨_,by first | rfl | (simp [errW_none,errW_some] <;> rfl) | (simp [*,errW_none,errW_some] <;> rfl),by (with_reducible repeat (first | apply Kd.R_alloc | apply Kd.R_drewN | apply Kd.R_drew));exact HO130.out,by repeat (first | (with_reducible first | exact HB.out | apply below_alloc | apply pw_below_drewN | apply below_drew1) | exact HB.out)⟩
 ·rw [if_neg c4] at H
  exact absurd H (by simp)

/-! ### wire_Fold: function 76 -/
def wire_Fold.f (a0 : Int) : Option (Int) := some (Go.bits .xor .u64 (IntKind.u64.wrap ((IntKind.u64.wrap (a0)) * 2)) (IntKind.u64.wrap (a0 / 9223372036854775808)))
set_option maxHeartbeats 8000000 in
set_option maxRecDepth 100000 in
theorem wire_Fold.calls (a0 : Int) (r : Int) (w : World) (h : wire_Fold.f a0 = some r) :
    Calls Try.prog 76 #[.int .i64 a0] w fun e w' => e = .returned (.int .u64 r) ∧ Drawn0 w w' := by
  have H : (some (Go.bits .xor .u64 (IntKind.u64.wrap ((IntKind.u64.wrap (a0)) * 2)) (IntKind.u64.wrap (a0 / 9223372036854775808)))) = some r := h
  clear h
  obtain rfl := Option.some.inj H
  go_enter Try.func76, Try.ntmps76
  go_wp2
  go_ret
  exact ⟨by first | rfl | (simp; done) | (simp [*]; done), by repeat (first | exact Drawn0.refl _ | apply Drawn0.step)⟩

/-! ### block_writers_1: function 75 -/
/-- What an argument's writer answers: of a number it folded, of a text (that the dictionary has) its place. -/
def block_writers_1.f (s0_0 : ByteArray) (a1_0 : Int) (a1_1 : Int) (a1_2 : ByteArray) : Option (Int × ByteArray) := if a1_0 = 1 then (wire_Fold.f a1_1).bind fun n => some (n, s0_0) else if a1_0 = 2 then (if a1_2.size ≤ 9223372036854775807 then (if a1_2 ∈ Go.Proofs.YtmmfakdncjeoeaaAid.ddec s0_0 then some (IntKind.u64.wrap ((Go.Proofs.YtmmfakdncjeoeaaAid.ddec s0_0).idxOf a1_2 : Int), s0_0) else none) else none) else none
theorem block_writers_1.ty {s0_0 : ByteArray} {a1_0 : Int} {a1_1 : Int} {a1_2 : ByteArray} {r : Int × ByteArray} (h : block_writers_1.f s0_0 a1_0 a1_1 a1_2 = some r) : a1_0 = 1 ∨ a1_0 = 2 := by
  unfold block_writers_1.f at h
  split at h
  · exact .inl (by assumption)
  · split at h
    · exact .inr (by assumption)
    · cases h
set_option maxHeartbeats 8000000 in
set_option maxRecDepth 100000 in
theorem block_writers_1.callsN (n_ : Nat) (g : Nat) (s0_0 : ByteArray) (a1_0 : Int) (a1_1 : Int) (a1_2 : ByteArray) (r1 : Int) (r2 : ByteArray) (w0 w : World) (hn : a1_0 = 1 ∧ n_ = 75 ∨ a1_0 = 2 ∧ n_ = 77) (hI : IsS143 w0 w g s0_0) (hB : Below w0.heap.size w0 w) (h : block_writers_1.f s0_0 a1_0 a1_1 a1_2 = some (r1, r2)) :
    Calls Try.prog n_ #[.pointer (some ⟨g, 0, none⟩), .agg #[.int .i64 a1_0, .int .i64 a1_1, .string a1_2]] w fun e w' => e = .returned (.int .u64 r1) ∧ IsS143 w0 w' g r2 ∧ Below w0.heap.size w0 w' ∧ KeepBut w w' g none := by
  have HI := Lib.hid hI
  have HW := Lib.hid hB
  unfold block_writers_1.f at h
  rcases hn with ⟨rfl, rfl⟩ | ⟨rfl, rfl⟩
  · rw [if_pos rfl] at h
    obtain ⟨n, h1, h2⟩ := Option.bind_eq_some_iff.mp h
    simp only [Option.some.injEq, Prod.mk.injEq] at h2
    obtain ⟨rfl, rfl⟩ := h2
    have A1 := Lib.hid h1
    clear h h1 hI hB
    go_enter Try.func75, Try.ntmps75
    go_wp2_with (first | (go_at_call 76; (with_reducible refine (wire_Fold.calls a1_1 n _ A1.out).mono ?_); rintro e w' ⟨rfl, ⟨nd, rfl⟩⟩))
    go_ret
    exact ⟨rfl, HI.out.below (pw_below_drewN (below_alloc (Below.refl _ _) _) _), below_weaken HW.out HW.out.size (pw_below_drewN (below_alloc (Below.refl _ _) _) _), KeepBut.of_below (pw_below_drewN (below_alloc (Below.refl _ _) _) _) _ _⟩
  · rw [if_neg (by decide), if_pos rfl] at h
    split at h
    · rename_i hs
      split at h
      · rename_i hm
        simp only [Option.some.injEq, Prod.mk.injEq] at h
        obtain ⟨rfl, rfl⟩ := h
        have HS := Lib.hid hs
        have HM := Lib.hid hm
        obtain ⟨gm, A, c, hI⟩ := hI
        have HD := Lib.hid hI
        clear hs hm hI hB
        go_enter Try.func77, Try.ntmps77
        go_wp2_with (first | (go_at_call 74; (with_reducible refine (Go.Proofs.YtmmfakdncjeoeaaAid.dict_put_old (w0 := w0) (gm := gm) (A := A) (c := c) (HD.out.below (below_alloc (Below.refl _ _) _)) a1_2 HS.out HM.out).mono ?_); rintro e w' ⟨rfl, rfl⟩))
        go_ret
        exact ⟨rfl, HI.out.below (below_alloc (Below.refl _ _) _), below_weaken HW.out HW.out.size (below_alloc (Below.refl _ _) _), KeepBut.of_below (below_alloc (Below.refl _ _) _) _ _⟩
      · cases h
    · cases h

end Go.Proofs.Ytmmfakdncjeoeaa.PC
