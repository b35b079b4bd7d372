-- Contracts of Go functions, each with its plain Lean function: written by wip/tools/myprint.py of this work (the kit's print, with contracts proved by hand spliced in).
import Derived.Test.YtjfklfmfeghjnabPDx0
namespace Go.Proofs.Ytjfklfmfeghjnab.PD
open Go.RowKit Go.Proofs.YtjfklfmfeghjnabW.PrintWords Go.Proofs.YtjfklfmfeghjnabW.PrintLast Go.Proofs.YtjfklfmfeghjnabW.PrintMore
attribute [local go_sem] max2_int min2_int max_two min_two max_three min_three max_four min_four   -- for this text's walks alone
set_option linter.unusedVariables false
set_option linter.unusedSimpArgs false

/-! ### dict_Runs: function 27 -/
def dict_Runs.l0 : Nat → List Int → List (S61) → Int → Int → List (Int × Int) → Option (List Int)
  | 0, _, _, _, _, _ => none
  | k + 1, x4, x11, x12, x13, x142000 => if x13 < x12 then (if 0 ≤ x13 then (if x13 < (x11.length : Int) then ((Go.Proofs.YtjfklfmfeghjnabAid.rlook x142000 ((rd_T61 x11 x13).f0) (((rd_T61 x11 x13).f1).length : Int)).bind fun bt145 => (if bt145.2.1 = true then (if 0 ≤ bt145.1 then (if bt145.1 < (x4.length : Int) then (dict_Runs.l0 k (x4.set (bt145.1 : Int).toNat (wrap64 ((rd x4 bt145.1) + 1))) x11 x12 (wrap64 (x13 + 1)) bt145.2.2) else (none)) else (none)) else (if x4.length < 17592186044416 then ((some (x4 ++ [0] : List Int)).bind fun y150 => ((Go.Proofs.YtjfklfmfeghjnabAid.rput bt145.2.2 ((rd_T61 x11 x13).f0) (((rd_T61 x11 x13).f1).length : Int) (x4.length : Int)).bind fun t153 => (if 0 ≤ (x4.length : Int) then (if (x4.length : Int) < (y150.length : Int) then (dict_Runs.l0 k (y150.set ((x4.length : Int) : Int).toNat (wrap64 ((rd y150 (x4.length : Int)) + 1))) x11 x12 (wrap64 (x13 + 1)) t153) else (none)) else (none)))) else (none)))) else (none)) else (none)) else (some x4)
def dict_Runs.f (k : Nat) (l0 : List (S61)) : Option (List Int) := (some ([] : List (Int × Int))).bind fun t140 => (dict_Runs.l0 k ([] : List Int) l0 (l0.length : Int) 0 t140)
theorem dict_Runs.mono_l : ∀ k, (∀ y0 y1 y2 y3 y4, LeO (dict_Runs.l0 k y0 y1 y2 y3 y4) (dict_Runs.l0 (k + 1) y0 y1 y2 y3 y4))
  | 0 => fun _ _ _ _ _ r h => by simp [dict_Runs.l0] at h
  | k + 1 => by
    have ih0 := dict_Runs.mono_l k
    · intro y0 y1 y2 y3 y4
      unfold dict_Runs.l0
      repeat' first
      | (with_reducible exact ih0 _ _ _ _ _)
      | (with_reducible exact LeO.refl _)
      | (with_reducible exact LeO.none _)
      | (with_reducible refine LeO.ite ?_ ?_)
      | (with_reducible refine LeO.bind ?_ (fun _ => ?_))
      | exact ih0 _ _ _ _ _
      | exact LeO.none _
      | refine LeO.ite ?_ ?_
      | refine LeO.bind ?_ (fun _ => ?_)
theorem dict_Runs.mono : ∀ a0 k, LeO (dict_Runs.f k a0) (dict_Runs.f (k + 1) a0) := by
  intro a0 k
  have ih0 := dict_Runs.mono_l k
  unfold dict_Runs.f
  repeat' first
      | (with_reducible exact ih0 _ _ _ _ _)
      | (with_reducible exact LeO.refl _)
      | (with_reducible exact LeO.none _)
      | (with_reducible refine LeO.ite ?_ ?_)
      | (with_reducible refine LeO.bind ?_ (fun _ => ?_))
      | exact ih0 _ _ _ _ _
      | exact LeO.none _
      | refine LeO.ite ?_ ?_
      | refine LeO.bind ?_ (fun _ => ?_)
def dict_Runs.T10 : Bool × List (List Nat × List Nat) := (true, [([], []), ([], []), ([], []), ([], []), ([], []), ([3, 4], [3, 4]), ([0, 1, 2, 5, 0, 1, 2, 5], [0, 1, 2]), ([5, 6, 0, 1, 2, 3, 4, 5, 6], [3, 5])])
def dict_Runs.B10 : List Nat := [0, 0, 0, 0, 0, 24, 63, 127]
theorem dict_Runs.tab10 : rtab .any (opsOf Try.f27 10) = dict_Runs.T10 := by kernel_rfl
theorem dict_Runs.bits10 : waitsOk dict_Runs.T10.2 dict_Runs.B10 = true := by kernel_rfl
set_option maxHeartbeats 8000000 in
set_option maxRecDepth 100000 in
theorem dict_Runs.calls (k : Nat) (A0 : Option Addr) (c0 : Nat) (l0 : List (S61)) (r : List Int) (w : World) (hr0 : Kd.C k61 w A0 l0.length l0) (hc0 : l0.length ≤ c0) (h : dict_Runs.f k l0 = some r) :
    Calls Try.prog 27 #[.slice A0 l0.length c0] w fun e w' => ∃ v0_ : Value, e = .returned (v0_) ∧ Kd.R (Kd.int .i64) 3 w' w.heap.size (fun _ => True) v0_ r ∧ Below w.heap.size w w' := by
  have hu61 := Try.underlying61
  have hu104 := Try.underlying104
  have HR0 := Aside0.mk hr0
  have HC0 := Aside0.mk hc0
  clear hr0 hc0
  have HB := Aside0.mk (Below.refl w.heap.size w)
  have H : ((some ([] : List (Int × Int))).bind fun t140 => (dict_Runs.l0 k ([] : List Int) l0 (l0.length : Int) 0 t140)) = some r := h
  clear h
  replace H := Option.bind_eq_some_iff.mp H
  obtain ⟨t140, A20, H⟩ := H
  replace H : (dict_Runs.l0 k ([] : List Int) l0 (l0.length : Int) 0 t140) = some r := H
  have A2 := Aside0.mk A20
  clear A20
  have H' := Aside0.mk H
  clear H
  go_enter Try.func27, Try.ntmps27
  go_wp2_with (first | ((with_reducible refine gate_dst (N := 10) rfl ?_); refine Go.Proofs.YtjfklfmfeghjnabAid.runs_made (w0 := w) rfl (N := 10) rfl rfl ?side1 ?_; (case side1 => repeat (first | (with_reducible first | exact HB.out | apply below_alloc | apply pw_below_drewN | apply below_drew1) | exact HB.out)); intro g141 w3 hi hb hb2; rw [Option.some.inj A2.out] at hi; have n0_ := Aside0.mk (hb); have n1_ := Aside0.mk (hi); clear HB; have HB := n0_; have HI141 := n1_; clear n0_ n1_; (try clear hb); (try clear hb2); (try clear hk); (try clear hi)))
  go_loopg [4, 13] k (fun kq v4 v13 w' => ∃ (x4_1 : List Int) (x13_1 : Int) (x142000_1 : List (Int × Int)), v13 = .int .i64 x13_1 ∧ Aside0 (dict_Runs.l0 kq x4_1 l0 (l0.length : Int) x13_1 x142000_1 = some r) ∧ Aside0 (kq ≤ k) ∧ Aside0 (Kd.R (Kd.int .i64) 3 w' w.heap.size (fun _ => True) v4 x4_1) ∧ Aside0 (Go.Proofs.YtjfklfmfeghjnabAid.RunsM w w' g141 x142000_1) ∧ Aside0 (Below w.heap.size w w'))
  case atStart => exact ⟨(([] : List Int)), (0), (t140), (by first | rfl | (simp; done) | (simp [*]; done)), H', ⟨Nat.le_refl _⟩, ⟨by first | exact Kd.R_nil _ _ _ _ _ | exact Kd.N_nil _ _ _ _ _ | exact Kd.V_nil _ _ _ _ _ | exact Kd.Q_nil _ _ _ _ _ | exact Kd.S_nil _ _ _ _ _⟩, ⟨by repeat (first | (with_reducible first | exact HI141.out | apply Go.Proofs.YtjfklfmfeghjnabAid.RunsM.alloc | apply Go.Proofs.YtjfklfmfeghjnabAid.RunsM.drewN | apply Go.Proofs.YtjfklfmfeghjnabAid.RunsM.drew | apply Go.Proofs.YtjfklfmfeghjnabAid.RunsM.set_0) | exact HI141.out)⟩, ⟨by repeat (first | (with_reducible first | exact HB.out | apply below_alloc | apply pw_below_drewN | apply below_drew1 | refine below_set ?_ (Go.Proofs.YtjfklfmfeghjnabAid.RunsM.ge HI141.out)) | exact HB.out)⟩⟩
  case round =>
    clear H'
    try clear c1
    try clear c2
    try clear p2
    obtain ⟨x4_1, x13_1, x142000_1, rfl, HA, HK1, HO_4, HI141, HB⟩ := hrel
    cases gk with
    | zero => exact absurd HA.out (by simp [dict_Runs.l0])
    | succ k1 =>
      have H := HA.out
      clear HA
      simp only [dict_Runs.l0] at H
      by_cases c4 : x13_1 < (l0.length : Int)
      · rw [if_pos c4] at H
        have c4b0 : decide (x13_1 < (l0.length : Int)) = true := decide_eq_true c4
        clear c4
        by_cases c5 : 0 ≤ x13_1
        · rw [if_pos c5] at H
          have c5b0 : decide (0 ≤ x13_1) = true := decide_eq_true c5
          clear c5
          by_cases c6 : x13_1 < (l0.length : Int)
          · rw [if_pos c6] at H
            have c6b0 : decide (x13_1 < (l0.length : Int)) = true := decide_eq_true c6
            clear c6
            replace H := Option.bind_eq_some_iff.mp H
            obtain ⟨⟨t145, t146, t147⟩, A70, H⟩ := H
            replace H : (if t146 = true then (if 0 ≤ t145 then (if t145 < (x4_1.length : Int) then (dict_Runs.l0 k1 (x4_1.set (t145 : Int).toNat (wrap64 ((rd x4_1 t145) + 1))) l0 (l0.length : Int) (wrap64 (x13_1 + 1)) t147) else (none)) else (none)) else (if x4_1.length < 17592186044416 then ((some (x4_1 ++ [0] : List Int)).bind fun y150 => ((Go.Proofs.YtjfklfmfeghjnabAid.rput t147 ((rd_T61 l0 x13_1).f0) (((rd_T61 l0 x13_1).f1).length : Int) (x4_1.length : Int)).bind fun t153 => (if 0 ≤ (x4_1.length : Int) then (if (x4_1.length : Int) < (y150.length : Int) then (dict_Runs.l0 k1 (y150.set ((x4_1.length : Int) : Int).toNat (wrap64 ((rd y150 (x4_1.length : Int)) + 1))) l0 (l0.length : Int) (wrap64 (x13_1 + 1)) t153) else (none)) else (none)))) else (none))) = some r := H
            have A7 := Aside0.mk A70
            clear A70
            by_cases c8 : t146 = true
            · subst c8
              have H1 : (if 0 ≤ t145 then (if t145 < (x4_1.length : Int) then (dict_Runs.l0 k1 (x4_1.set (t145 : Int).toNat (wrap64 ((rd x4_1 t145) + 1))) l0 (l0.length : Int) (wrap64 (x13_1 + 1)) t147) else (none)) else (none)) = some r := by rw [if_pos rfl] at H; exact H
              clear H
              have H := H1
              clear H1
              by_cases c9 : 0 ≤ t145
              · rw [if_pos c9] at H
                have c9b0 : decide (0 ≤ t145) = true := decide_eq_true c9
                clear c9
                by_cases c10 : t145 < (x4_1.length : Int)
                · rw [if_pos c10] at H
                  have c10b0 : decide (t145 < (x4_1.length : Int)) = true := decide_eq_true c10
                  clear c10
                  obtain ⟨y149, hy149⟩ : ∃ y_ : List Int, y_ = (x4_1.set (t145 : Int).toNat (wrap64 ((rd x4_1 t145) + 1))) := ⟨_, rfl⟩
                  replace H : (dict_Runs.l0 k1 y149 l0 (l0.length : Int) (wrap64 (x13_1 + 1)) t147) = some r := by first | (rw [hy149]; with_reducible exact H) | (have H2_ := (Option.bind_some _ _).symm.trans H; rw [hy149]; with_reducible exact H2_) | (have H2_ := (Option.bind_some _ _).symm.trans H; with_reducible exact H2_) | with_reducible exact H | (rw [hy149]; exact H) | exact H
                  have Ny149 := Aside0.mk hy149
                  clear hy149
                  have H' := Aside0.mk H
                  clear H
                  have p142 : 0 ≤ (x13_1 : Int) := of_decide_eq_true (by first | (with_reducible assumption) | assumption)
                  have q142 : x13_1 < (l0.length : Int) := of_decide_eq_true (by first | (with_reducible assumption) | assumption)
                  obtain ⟨ad142, A142_1, c142_1, e142, hx142_0, hx142_1, hl142_1, hi142_1⟩ := at_T61 HR0.out x13_1 p142 q142
                  cases e142
                  replace hx142_0 := (HB.out.cell (World.block_lt_of_cell? w _ hx142_0)).trans hx142_0
                  replace hx142_1 := (HB.out.cell (World.block_lt_of_cell? w _ hx142_1)).trans hx142_1
                  have HR142_1 := Aside0.mk hi142_1
                  have HC142_1 := Aside0.mk hl142_1
                  clear hi142_1 hl142_1
                  replace p142 := eq_true p142
                  replace q142 := eq_true q142
                  go_wp2_with (first | ((with_reducible refine gate_dst (N := 6) rfl ?_); refine box_event ?hg (N := 6) ?hd (cs := #[.int .i64 0, .slice none 0 0]) (t := 61) ?hr ?_; (case hd => rfl); (case hg => rfl); (case hr => first | (go_simp; done) | (go_simp; rfl)); intro gb143 hg w12 hbox hb; have n0_ := Aside0.mk (Kd.R_below (by (with_reducible repeat (first | apply Kd.R_alloc | apply Kd.R_drewN | apply Kd.R_drew)); exact HO_4.out) hb); have n1_ := Aside0.mk (Go.Proofs.YtjfklfmfeghjnabAid.RunsM.below (by repeat (first | (with_reducible first | exact HI141.out | apply Go.Proofs.YtjfklfmfeghjnabAid.RunsM.alloc | apply Go.Proofs.YtjfklfmfeghjnabAid.RunsM.drewN | apply Go.Proofs.YtjfklfmfeghjnabAid.RunsM.drew | apply Go.Proofs.YtjfklfmfeghjnabAid.RunsM.set_0) | exact HI141.out)) hb); have n2_ := Aside0.mk (below_step (by repeat (first | (with_reducible first | exact HB.out | apply below_alloc | apply pw_below_drewN | apply below_drew1 | refine below_set ?_ (Go.Proofs.YtjfklfmfeghjnabAid.RunsM.ge HI141.out)) | exact HB.out)) hb); have n3_ := Aside0.mk (hbox); have n4_ := Aside0.mk ((by rw [hg]; exact (below_size (by repeat (first | (with_reducible first | exact HB.out | apply below_alloc | apply pw_below_drewN | apply below_drew1 | refine below_set ?_ (Go.Proofs.YtjfklfmfeghjnabAid.RunsM.ge HI141.out)) | exact HB.out))) : w.heap.size ≤ gb143)); have n5_ := Aside0.mk ((by rw [hg]; exact (below_size (by repeat (first | (with_reducible first | exact HB.out | apply below_alloc | apply pw_below_drewN | apply below_drew1 | refine below_set ?_ (Go.Proofs.YtjfklfmfeghjnabAid.RunsM.ge HI141.out)) | exact HB.out))) : w.heap.size ≤ gb143)); have n6_ := Aside0.mk ((by rw [hg]; exact Nat.ne_of_lt (Go.Proofs.YtjfklfmfeghjnabAid.RunsM.lt (show Go.Proofs.YtjfklfmfeghjnabAid.RunsM w _ g141 x142000_1 from by repeat (first | (with_reducible first | exact HI141.out | apply Go.Proofs.YtjfklfmfeghjnabAid.RunsM.alloc | apply Go.Proofs.YtjfklfmfeghjnabAid.RunsM.drewN | apply Go.Proofs.YtjfklfmfeghjnabAid.RunsM.drew | apply Go.Proofs.YtjfklfmfeghjnabAid.RunsM.set_0) | exact HI141.out))) : g141 ≠ gb143)); have n7_ := Aside0.mk ((by rw [hg]; exact Nat.ne_of_gt (Go.Proofs.YtjfklfmfeghjnabAid.RunsM.lt (show Go.Proofs.YtjfklfmfeghjnabAid.RunsM w _ g141 x142000_1 from by repeat (first | (with_reducible first | exact HI141.out | apply Go.Proofs.YtjfklfmfeghjnabAid.RunsM.alloc | apply Go.Proofs.YtjfklfmfeghjnabAid.RunsM.drewN | apply Go.Proofs.YtjfklfmfeghjnabAid.RunsM.drew | apply Go.Proofs.YtjfklfmfeghjnabAid.RunsM.set_0) | exact HI141.out))) : gb143 ≠ g141)); clear HO_4; clear HI141; clear HB; have HO_4 := n0_; have HI141 := n1_; have HB := n2_; have BK143 := n3_; have GW143 := n4_; have GE143 := n5_; have NB141_143 := n6_; have NB143_141 := n7_; clear n0_ n1_ n2_ n3_ n4_ n5_ n6_ n7_; clear hb hbox hg; have hnb13 := NB143_141.out; have hnc13 := NB141_143.out; have hcz14_0 : w12.cell? ⟨gb143, 0, none⟩ = some (.int .i64 0) := (blk_cell BK143.out 0).trans rfl; have hcz14_1 : w12.cell? ⟨gb143, 1, none⟩ = some (.slice none 0 0) := (blk_cell BK143.out 1).trans rfl; have hfz14_0 := blk_frozen BK143.out 0; have hfz14_1 := blk_frozen BK143.out 1) | ((with_reducible refine gate_dst (N := 7) rfl ?_); refine box_event ?hg (N := 7) ?hd (cs := #[.int .i64 0, .int .i64 0]) (t := 104) ?hr ?_; (case hd => rfl); (case hg => rfl); (case hr => first | (go_simp; done) | (go_simp; rfl)); intro gb144 hg w15 hbox hb; have n0_ := Aside0.mk (Kd.R_below (by (with_reducible repeat (first | apply Kd.R_alloc | apply Kd.R_drewN | apply Kd.R_drew)); exact (Kd.R_mono (Kd.R_far (p := ⟨gb143, 1, none⟩) (Kd.R_far (p := ⟨gb143, 0, none⟩) (Kd.R_types HO_4.out BK143.out (by decide)) (fun _ hk => hk.2) (.int .i64 ((rd_T61 l0 x13_1).f0))) (fun _ hk => hk.2) (.slice A142_1 ((rd_T61 l0 x13_1).f1).length c142_1)) (fun _ h_ => h_.1))) hb); have n1_ := Aside0.mk (Go.Proofs.YtjfklfmfeghjnabAid.RunsM.below (show Go.Proofs.YtjfklfmfeghjnabAid.RunsM w ((w12.setCell ⟨gb143, 0, none⟩ (.int .i64 ((rd_T61 l0 x13_1).f0))).setCell ⟨gb143, 1, none⟩ (.slice A142_1 ((rd_T61 l0 x13_1).f1).length c142_1)) g141 x142000_1 from by repeat (first | (with_reducible first | exact HI141.out | apply Go.Proofs.YtjfklfmfeghjnabAid.RunsM.alloc | apply Go.Proofs.YtjfklfmfeghjnabAid.RunsM.drewN | apply Go.Proofs.YtjfklfmfeghjnabAid.RunsM.drew | apply Go.Proofs.YtjfklfmfeghjnabAid.RunsM.set_0 | refine Go.Proofs.YtjfklfmfeghjnabAid.RunsM.farT (t := 61) (a := gb143) ?_ (by (with_reducible repeat (first | exact Go.Proofs.YtjfklfmfeghjnabAid.TyAt.mk BK143.out | apply Go.Proofs.YtjfklfmfeghjnabAid.TyAt.set | apply Go.Proofs.YtjfklfmfeghjnabAid.TyAt.alloc | apply Go.Proofs.YtjfklfmfeghjnabAid.TyAt.drewN | apply Go.Proofs.YtjfklfmfeghjnabAid.TyAt.drew))) (by decide) (by decide) _) | exact HI141.out)) hb); have n2_ := Aside0.mk (blk_below (g := gb143) (o := .cells #[.int .i64 ((rd_T61 l0 x13_1).f0), .slice A142_1 ((rd_T61 l0 x13_1).f1).length c142_1] 61 (0, 0)) (by (with_reducible repeat (first | refine blk_drewN ?_ _ | refine blk_drew ?_ | refine blk_alloc ?_ _)); refine blk_put (cs := #[.int .i64 ((rd_T61 l0 x13_1).f0), .slice none 0 0]) ?_ 1 _ rfl; (with_reducible repeat (first | refine blk_drewN ?_ _ | refine blk_drew ?_ | refine blk_alloc ?_ _)); refine blk_put (cs := #[.int .i64 0, .slice none 0 0]) ?_ 0 _ rfl; (with_reducible repeat (first | refine blk_drewN ?_ _ | refine blk_drew ?_ | refine blk_alloc ?_ _)); exact BK143.out) hb); have n3_ := Aside0.mk (below_step (by repeat (first | (with_reducible first | exact HB.out | apply below_alloc | apply pw_below_drewN | apply below_drew1 | refine below_set ?_ (Go.Proofs.YtjfklfmfeghjnabAid.RunsM.ge HI141.out) | refine below_set ?_ GE143.out) | exact HB.out)) hb); have n4_ := Aside0.mk (hbox); have n5_ := Aside0.mk ((by rw [hg]; exact (below_size (by repeat (first | (with_reducible first | exact HB.out | apply below_alloc | apply pw_below_drewN | apply below_drew1 | refine below_set ?_ (Go.Proofs.YtjfklfmfeghjnabAid.RunsM.ge HI141.out) | refine below_set ?_ GE143.out) | exact HB.out))) : w.heap.size ≤ gb144)); have n6_ := Aside0.mk ((by rw [hg]; exact (below_size (by repeat (first | (with_reducible first | exact HB.out | apply below_alloc | apply pw_below_drewN | apply below_drew1 | refine below_set ?_ (Go.Proofs.YtjfklfmfeghjnabAid.RunsM.ge HI141.out) | refine below_set ?_ GE143.out) | exact HB.out))) : w.heap.size ≤ gb144)); have n7_ := Aside0.mk ((by rw [hg]; exact Nat.ne_of_lt (blk_lt (g := gb143) (o := .cells #[.int .i64 ((rd_T61 l0 x13_1).f0), .slice A142_1 ((rd_T61 l0 x13_1).f1).length c142_1] 61 (0, 0)) (by (with_reducible repeat (first | refine blk_drewN ?_ _ | refine blk_drew ?_ | refine blk_alloc ?_ _)); refine blk_put (cs := #[.int .i64 ((rd_T61 l0 x13_1).f0), .slice none 0 0]) ?_ 1 _ rfl; (with_reducible repeat (first | refine blk_drewN ?_ _ | refine blk_drew ?_ | refine blk_alloc ?_ _)); refine blk_put (cs := #[.int .i64 0, .slice none 0 0]) ?_ 0 _ rfl; (with_reducible repeat (first | refine blk_drewN ?_ _ | refine blk_drew ?_ | refine blk_alloc ?_ _)); exact BK143.out)) : gb143 ≠ gb144)); have n8_ := Aside0.mk ((by rw [hg]; exact Nat.ne_of_gt (blk_lt (g := gb143) (o := .cells #[.int .i64 ((rd_T61 l0 x13_1).f0), .slice A142_1 ((rd_T61 l0 x13_1).f1).length c142_1] 61 (0, 0)) (by (with_reducible repeat (first | refine blk_drewN ?_ _ | refine blk_drew ?_ | refine blk_alloc ?_ _)); refine blk_put (cs := #[.int .i64 ((rd_T61 l0 x13_1).f0), .slice none 0 0]) ?_ 1 _ rfl; (with_reducible repeat (first | refine blk_drewN ?_ _ | refine blk_drew ?_ | refine blk_alloc ?_ _)); refine blk_put (cs := #[.int .i64 0, .slice none 0 0]) ?_ 0 _ rfl; (with_reducible repeat (first | refine blk_drewN ?_ _ | refine blk_drew ?_ | refine blk_alloc ?_ _)); exact BK143.out)) : gb144 ≠ gb143)); have n9_ := Aside0.mk ((by rw [hg]; exact Nat.ne_of_lt (Go.Proofs.YtjfklfmfeghjnabAid.RunsM.lt (show Go.Proofs.YtjfklfmfeghjnabAid.RunsM w _ g141 x142000_1 from by repeat (first | (with_reducible first | exact HI141.out | apply Go.Proofs.YtjfklfmfeghjnabAid.RunsM.alloc | apply Go.Proofs.YtjfklfmfeghjnabAid.RunsM.drewN | apply Go.Proofs.YtjfklfmfeghjnabAid.RunsM.drew | apply Go.Proofs.YtjfklfmfeghjnabAid.RunsM.set_0 | refine Go.Proofs.YtjfklfmfeghjnabAid.RunsM.farT (t := 61) (a := gb143) ?_ (by (with_reducible repeat (first | exact Go.Proofs.YtjfklfmfeghjnabAid.TyAt.mk BK143.out | apply Go.Proofs.YtjfklfmfeghjnabAid.TyAt.set | apply Go.Proofs.YtjfklfmfeghjnabAid.TyAt.alloc | apply Go.Proofs.YtjfklfmfeghjnabAid.TyAt.drewN | apply Go.Proofs.YtjfklfmfeghjnabAid.TyAt.drew))) (by decide) (by decide) _) | exact HI141.out))) : g141 ≠ gb144)); have n10_ := Aside0.mk ((by rw [hg]; exact Nat.ne_of_gt (Go.Proofs.YtjfklfmfeghjnabAid.RunsM.lt (show Go.Proofs.YtjfklfmfeghjnabAid.RunsM w _ g141 x142000_1 from by repeat (first | (with_reducible first | exact HI141.out | apply Go.Proofs.YtjfklfmfeghjnabAid.RunsM.alloc | apply Go.Proofs.YtjfklfmfeghjnabAid.RunsM.drewN | apply Go.Proofs.YtjfklfmfeghjnabAid.RunsM.drew | apply Go.Proofs.YtjfklfmfeghjnabAid.RunsM.set_0 | refine Go.Proofs.YtjfklfmfeghjnabAid.RunsM.farT (t := 61) (a := gb143) ?_ (by (with_reducible repeat (first | exact Go.Proofs.YtjfklfmfeghjnabAid.TyAt.mk BK143.out | apply Go.Proofs.YtjfklfmfeghjnabAid.TyAt.set | apply Go.Proofs.YtjfklfmfeghjnabAid.TyAt.alloc | apply Go.Proofs.YtjfklfmfeghjnabAid.TyAt.drewN | apply Go.Proofs.YtjfklfmfeghjnabAid.TyAt.drew))) (by decide) (by decide) _) | exact HI141.out))) : gb144 ≠ g141)); clear HO_4; clear HI141; clear BK143; clear HB; have HO_4 := n0_; have HI141 := n1_; have BK143 := n2_; have HB := n3_; have BK144 := n4_; have GW144 := n5_; have GE144 := n6_; have NB143_144 := n7_; have NB144_143 := n8_; have NB141_144 := n9_; have NB144_141 := n10_; clear n0_ n1_ n2_ n3_ n4_ n5_ n6_ n7_ n8_ n9_ n10_; clear hb hbox hg; have hnb16 := NB144_143.out; have hnc16 := NB143_144.out; have hnb17 := NB144_141.out; have hnc17 := NB141_144.out; have hcz18_0 : w15.cell? ⟨gb144, 0, none⟩ = some (.int .i64 0) := (blk_cell BK144.out 0).trans rfl; have hcz18_1 : w15.cell? ⟨gb144, 1, none⟩ = some (.int .i64 0) := (blk_cell BK144.out 1).trans rfl; have hfz18_0 := blk_frozen BK144.out 0; have hfz18_1 := blk_frozen BK144.out 1) | ((with_reducible refine gate_dst (N := 26) rfl ?_); refine Go.Proofs.YtjfklfmfeghjnabAid.runs_look (w0 := w) rfl _ _ rfl rfl ?side1 ?side2 ((rd_T61 l0 x13_1).f0) (((rd_T61 l0 x13_1).f1).length : Int) t145 true A7.out rfl ?_; (case side1 => repeat (first | (with_reducible first | exact HI141.out | apply Go.Proofs.YtjfklfmfeghjnabAid.RunsM.alloc | apply Go.Proofs.YtjfklfmfeghjnabAid.RunsM.drewN | apply Go.Proofs.YtjfklfmfeghjnabAid.RunsM.drew | apply Go.Proofs.YtjfklfmfeghjnabAid.RunsM.set_0 | refine Go.Proofs.YtjfklfmfeghjnabAid.RunsM.farT (t := 61) (a := gb143) ?_ (by (with_reducible repeat (first | exact Go.Proofs.YtjfklfmfeghjnabAid.TyAt.mk BK143.out | apply Go.Proofs.YtjfklfmfeghjnabAid.TyAt.set | apply Go.Proofs.YtjfklfmfeghjnabAid.TyAt.alloc | apply Go.Proofs.YtjfklfmfeghjnabAid.TyAt.drewN | apply Go.Proofs.YtjfklfmfeghjnabAid.TyAt.drew))) (by decide) (by decide) _ | refine Go.Proofs.YtjfklfmfeghjnabAid.RunsM.farT (t := 104) (a := gb144) ?_ (by (with_reducible repeat (first | exact Go.Proofs.YtjfklfmfeghjnabAid.TyAt.mk BK144.out | apply Go.Proofs.YtjfklfmfeghjnabAid.TyAt.set | apply Go.Proofs.YtjfklfmfeghjnabAid.TyAt.alloc | apply Go.Proofs.YtjfklfmfeghjnabAid.TyAt.drewN | apply Go.Proofs.YtjfklfmfeghjnabAid.TyAt.drew))) (by decide) (by decide) _) | exact HI141.out)); (case side2 => repeat (first | (with_reducible first | exact HB.out | apply below_alloc | apply pw_below_drewN | apply below_drew1 | refine below_set ?_ (Go.Proofs.YtjfklfmfeghjnabAid.RunsM.ge HI141.out) | refine below_set ?_ GE143.out | refine below_set ?_ GE144.out) | exact HB.out)); intro w19 hi hb hk; have n0_ := Aside0.mk (Kd.R_mono (Kd.R_keep (Go.Proofs.YtjfklfmfeghjnabAid.RunsM.apart (show Go.Proofs.YtjfklfmfeghjnabAid.RunsM w _ g141 x142000_1 from by repeat (first | (with_reducible first | exact HI141.out | apply Go.Proofs.YtjfklfmfeghjnabAid.RunsM.alloc | apply Go.Proofs.YtjfklfmfeghjnabAid.RunsM.drewN | apply Go.Proofs.YtjfklfmfeghjnabAid.RunsM.drew | apply Go.Proofs.YtjfklfmfeghjnabAid.RunsM.set_0 | refine Go.Proofs.YtjfklfmfeghjnabAid.RunsM.farT (t := 61) (a := gb143) ?_ (by (with_reducible repeat (first | exact Go.Proofs.YtjfklfmfeghjnabAid.TyAt.mk BK143.out | apply Go.Proofs.YtjfklfmfeghjnabAid.TyAt.set | apply Go.Proofs.YtjfklfmfeghjnabAid.TyAt.alloc | apply Go.Proofs.YtjfklfmfeghjnabAid.TyAt.drewN | apply Go.Proofs.YtjfklfmfeghjnabAid.TyAt.drew))) (by decide) (by decide) _ | refine Go.Proofs.YtjfklfmfeghjnabAid.RunsM.farT (t := 104) (a := gb144) ?_ (by (with_reducible repeat (first | exact Go.Proofs.YtjfklfmfeghjnabAid.TyAt.mk BK144.out | apply Go.Proofs.YtjfklfmfeghjnabAid.TyAt.set | apply Go.Proofs.YtjfklfmfeghjnabAid.TyAt.alloc | apply Go.Proofs.YtjfklfmfeghjnabAid.TyAt.drewN | apply Go.Proofs.YtjfklfmfeghjnabAid.TyAt.drew))) (by decide) (by decide) _) | exact HI141.out)) (by (with_reducible repeat (first | apply Kd.R_alloc | apply Kd.R_drewN | apply Kd.R_drew)); exact (Kd.R_mono (Kd.R_far (p := ⟨gb144, 1, none⟩) (Kd.R_far (p := ⟨gb144, 0, none⟩) (Kd.R_types HO_4.out BK144.out (by decide)) (fun _ hk => hk.2) (.int .i64 ((rd_T61 l0 x13_1).f0))) (fun _ hk => hk.2) (.int .i64 (((rd_T61 l0 x13_1).f1).length : Int))) (fun _ h_ => h_.1))) (by decide)) hk (fun _ h => h.2)) (fun _ h => h.1)); have n1_ := Aside0.mk (KeepBut.blk hk (g' := gb143) (o := .cells #[.int .i64 ((rd_T61 l0 x13_1).f0), .slice A142_1 ((rd_T61 l0 x13_1).f1).length c142_1] 61 (0, 0)) (by (with_reducible repeat (first | refine blk_drewN ?_ _ | refine blk_drew ?_ | refine blk_alloc ?_ _)); refine blk_far ?_ NB143_144.out _; (with_reducible repeat (first | refine blk_drewN ?_ _ | refine blk_drew ?_ | refine blk_alloc ?_ _)); refine blk_far ?_ NB143_144.out _; (with_reducible repeat (first | refine blk_drewN ?_ _ | refine blk_drew ?_ | refine blk_alloc ?_ _)); exact BK143.out) NB143_141.out (by simp)); have n2_ := Aside0.mk (KeepBut.blk hk (g' := gb144) (o := .cells #[.int .i64 ((rd_T61 l0 x13_1).f0), .int .i64 (((rd_T61 l0 x13_1).f1).length : Int)] 104 (0, 0)) (by (with_reducible repeat (first | refine blk_drewN ?_ _ | refine blk_drew ?_ | refine blk_alloc ?_ _)); refine blk_put (cs := #[.int .i64 ((rd_T61 l0 x13_1).f0), .int .i64 0]) ?_ 1 _ rfl; (with_reducible repeat (first | refine blk_drewN ?_ _ | refine blk_drew ?_ | refine blk_alloc ?_ _)); refine blk_put (cs := #[.int .i64 0, .int .i64 0]) ?_ 0 _ rfl; (with_reducible repeat (first | refine blk_drewN ?_ _ | refine blk_drew ?_ | refine blk_alloc ?_ _)); exact BK144.out) NB144_141.out (by simp)); have n3_ := Aside0.mk (hb); have n4_ := Aside0.mk (hi); clear HO_4; clear BK143; clear BK144; clear HB; clear HI141; have HO_4 := n0_; have BK143 := n1_; have BK144 := n2_; have HB := n3_; have HI141 := n4_; clear n0_ n1_ n2_ n3_ n4_; (try clear hb); (try clear hb2); (try clear hk); (try clear hi); obtain ⟨Ao20, co20, eo20⟩ := Kd.R_slice HO_4.out; subst eo20; have p148 : 0 ≤ (t145 : Int) := of_decide_eq_true (by first | (with_reducible assumption) | assumption); have q148 : t145 < (x4_1.length : Int) := of_decide_eq_true (by first | (with_reducible assumption) | assumption); obtain ⟨ad148, e148, hx148_0⟩ := Kd.at_int (Kd.R_reads' HO_4.out).2.2 t145 p148 q148; cases e148; replace p148 := eq_true p148; replace q148 := eq_true q148; have p11 : 0 ≤ (t145 : Int) := of_decide_eq_true (by first | (with_reducible assumption) | assumption); have q11 : (t145 : Int) < ((x4_1.length : Int) : Int) := of_decide_eq_true (by first | (with_reducible assumption) | assumption); obtain ⟨go11, co11, eo11, gb11, gl11, cl11, HG11⟩ := Kd.R_form HO_4.out (by omega); (first | cases eo11 | (injection eo11 with ea_ en_ ec_; (first | subst ea_ | (injection ea_ with ea_; subst ea_)); subst ec_; clear en_)); have GB11 := Aside0.mk gb11; have GG11 := Aside0.mk HG11; clear gb11 gl11 HG11; (first | simp only [add_plain] at hx148_0 | skip); obtain ⟨hx11_0, hf11_0⟩ := Kd.R_celln 0 HO_4.out (t145 : Int) p11 q11; replace p11 := eq_true p11; replace q11 := eq_true q11; obtain ⟨hy21_, hz21_⟩ := Kd.R_celln 0 HO_4.out (t145 : Int) (of_decide_eq_true (by first | (with_reducible assumption) | assumption)) (of_decide_eq_true (by first | (with_reducible assumption) | assumption)); have HP21 := Kd.R_putg HO_4.out (t145 : Int) (wrap64 ((rd x4_1 t145) + 1))) | ((with_reducible refine gate_store (t := 3) (p := 44) rfl ?_); refine store_event (t := 3) (p := 44) (v := ?vo_w22) (w1 := (w19.setCell ⟨go11, (t145 : Int).toNat, none⟩ (.int .i64 (wrap64 ((rd x4_1 t145) + 1))))) ?hg ?ho ?hn ?hr ?_; (case ho => rfl); (case hg => rfl); (case hn => rfl); (case hr => first | (go_simp; done) | (go_simp; rfl)); intro w22 hw; have hg : w19.grownBy w22 (some go11) := (by rw [hw]; exact HP21.2); have hp_ : Kd.R (Kd.int .i64) 3 w22 w.heap.size (fun _ => True) (.slice (some ⟨go11, 0, none⟩) x4_1.length co20) y149 := (by rw [hw, Ny149.out]; exact HP21.1); clear HP21; have n0_ := Aside0.mk (hp_); have n1_ := Aside0.mk (Go.Proofs.YtjfklfmfeghjnabAid.RunsM.grown (by repeat (first | (with_reducible first | exact HI141.out | apply Go.Proofs.YtjfklfmfeghjnabAid.RunsM.alloc | apply Go.Proofs.YtjfklfmfeghjnabAid.RunsM.drewN | apply Go.Proofs.YtjfklfmfeghjnabAid.RunsM.drew | apply Go.Proofs.YtjfklfmfeghjnabAid.RunsM.set_0 | refine Go.Proofs.YtjfklfmfeghjnabAid.RunsM.farT (t := 61) (a := gb143) ?_ (by (with_reducible repeat (first | exact Go.Proofs.YtjfklfmfeghjnabAid.TyAt.mk BK143.out | apply Go.Proofs.YtjfklfmfeghjnabAid.TyAt.set | apply Go.Proofs.YtjfklfmfeghjnabAid.TyAt.alloc | apply Go.Proofs.YtjfklfmfeghjnabAid.TyAt.drewN | apply Go.Proofs.YtjfklfmfeghjnabAid.TyAt.drew))) (by decide) (by decide) _ | refine Go.Proofs.YtjfklfmfeghjnabAid.RunsM.farT (t := 104) (a := gb144) ?_ (by (with_reducible repeat (first | exact Go.Proofs.YtjfklfmfeghjnabAid.TyAt.mk BK144.out | apply Go.Proofs.YtjfklfmfeghjnabAid.TyAt.set | apply Go.Proofs.YtjfklfmfeghjnabAid.TyAt.alloc | apply Go.Proofs.YtjfklfmfeghjnabAid.TyAt.drewN | apply Go.Proofs.YtjfklfmfeghjnabAid.TyAt.drew))) (by decide) (by decide) _) | exact HI141.out)) hg (Go.Proofs.YtjfklfmfeghjnabAid.RunsM.own_ne HI141.out HO_4.out (by decide))); have n2_ := Aside0.mk (blk_grown (g := gb143) (o := .cells #[.int .i64 ((rd_T61 l0 x13_1).f0), .slice A142_1 ((rd_T61 l0 x13_1).f1).length c142_1] 61 (0, 0)) (by (with_reducible repeat (first | refine blk_drewN ?_ _ | refine blk_drew ?_ | refine blk_alloc ?_ _)); exact BK143.out) hg (Kd.R_ne HO_4.out BK143.out (by decide))); have n3_ := Aside0.mk (blk_grown (g := gb144) (o := .cells #[.int .i64 ((rd_T61 l0 x13_1).f0), .int .i64 (((rd_T61 l0 x13_1).f1).length : Int)] 104 (0, 0)) (by (with_reducible repeat (first | refine blk_drewN ?_ _ | refine blk_drew ?_ | refine blk_alloc ?_ _)); exact BK144.out) hg (Kd.R_ne HO_4.out BK144.out (by decide))); have n4_ := Aside0.mk ((by rw [hw]; exact below_set (HB.out) GB11.out : Below w.heap.size w w22)); clear HO_4; clear HI141; clear BK143; clear BK144; clear HB; have HO_4 := n0_; have HI141 := n1_; have BK143 := n2_; have BK144 := n3_; have HB := n4_; clear n0_ n1_ n2_ n3_ n4_; clear hg hw hp_))
                  go_roundg k1
                  case measure => have := HK1.out; omega
                  case rel => exact ⟨(y149), (wrap64 (x13_1 + 1)), (t147), (by first | rfl | (simp; done) | (simp [*]; done)), H', ⟨by have := HK1.out; omega⟩, ⟨by (with_reducible repeat (first | apply Kd.R_alloc | apply Kd.R_drewN | apply Kd.R_drew)); exact HO_4.out⟩, ⟨by repeat (first | (with_reducible first | exact HI141.out | apply Go.Proofs.YtjfklfmfeghjnabAid.RunsM.alloc | apply Go.Proofs.YtjfklfmfeghjnabAid.RunsM.drewN | apply Go.Proofs.YtjfklfmfeghjnabAid.RunsM.drew | apply Go.Proofs.YtjfklfmfeghjnabAid.RunsM.set_0 | refine Go.Proofs.YtjfklfmfeghjnabAid.RunsM.farT (t := 61) (a := gb143) ?_ (by (with_reducible repeat (first | exact Go.Proofs.YtjfklfmfeghjnabAid.TyAt.mk BK143.out | apply Go.Proofs.YtjfklfmfeghjnabAid.TyAt.set | apply Go.Proofs.YtjfklfmfeghjnabAid.TyAt.alloc | apply Go.Proofs.YtjfklfmfeghjnabAid.TyAt.drewN | apply Go.Proofs.YtjfklfmfeghjnabAid.TyAt.drew))) (by decide) (by decide) _ | refine Go.Proofs.YtjfklfmfeghjnabAid.RunsM.farT (t := 104) (a := gb144) ?_ (by (with_reducible repeat (first | exact Go.Proofs.YtjfklfmfeghjnabAid.TyAt.mk BK144.out | apply Go.Proofs.YtjfklfmfeghjnabAid.TyAt.set | apply Go.Proofs.YtjfklfmfeghjnabAid.TyAt.alloc | apply Go.Proofs.YtjfklfmfeghjnabAid.TyAt.drewN | apply Go.Proofs.YtjfklfmfeghjnabAid.TyAt.drew))) (by decide) (by decide) _) | exact HI141.out)⟩, ⟨by repeat (first | (with_reducible first | exact HB.out | apply below_alloc | apply pw_below_drewN | apply below_drew1 | refine below_set ?_ (Go.Proofs.YtjfklfmfeghjnabAid.RunsM.ge HI141.out) | refine below_set ?_ GE143.out | refine below_set ?_ GE144.out) | exact HB.out)⟩⟩
                · rw [if_neg c10] at H
                  exact absurd H (by simp)
              · rw [if_neg c9] at H
                exact absurd H (by simp)
            · replace c8 := Bool.eq_false_iff.mpr c8
              subst c8
              have H1 : (if x4_1.length < 17592186044416 then ((some (x4_1 ++ [0] : List Int)).bind fun y150 => ((Go.Proofs.YtjfklfmfeghjnabAid.rput t147 ((rd_T61 l0 x13_1).f0) (((rd_T61 l0 x13_1).f1).length : Int) (x4_1.length : Int)).bind fun t153 => (if 0 ≤ (x4_1.length : Int) then (if (x4_1.length : Int) < (y150.length : Int) then (dict_Runs.l0 k1 (y150.set ((x4_1.length : Int) : Int).toNat (wrap64 ((rd y150 (x4_1.length : Int)) + 1))) l0 (l0.length : Int) (wrap64 (x13_1 + 1)) t153) else (none)) else (none)))) else (none)) = some r := by rw [if_neg (show ¬ (false = true) by decide)] at H; exact H
              clear H
              have H := H1
              clear H1
              by_cases c23 : x4_1.length < 17592186044416
              · rw [if_pos c23] at H
                have LMc23 := Aside0.mk c23
                clear c23
                obtain ⟨y150, hy150⟩ : ∃ y_ : List Int, y_ = (x4_1 ++ [0]) := ⟨_, rfl⟩
                replace H : ((Go.Proofs.YtjfklfmfeghjnabAid.rput t147 ((rd_T61 l0 x13_1).f0) (((rd_T61 l0 x13_1).f1).length : Int) (x4_1.length : Int)).bind fun t153 => (if 0 ≤ (x4_1.length : Int) then (if (x4_1.length : Int) < (y150.length : Int) then (dict_Runs.l0 k1 (y150.set ((x4_1.length : Int) : Int).toNat (wrap64 ((rd y150 (x4_1.length : Int)) + 1))) l0 (l0.length : Int) (wrap64 (x13_1 + 1)) t153) else (none)) else (none))) = some r := by first | (rw [hy150]; with_reducible exact H) | (have H2_ := (Option.bind_some _ _).symm.trans H; rw [hy150]; with_reducible exact H2_) | (have H2_ := (Option.bind_some _ _).symm.trans H; with_reducible exact H2_) | with_reducible exact H | (rw [hy150]; exact H) | exact H
                have Ny150 := Aside0.mk hy150
                clear hy150
                replace H := Option.bind_eq_some_iff.mp H
                obtain ⟨t153, A240, H⟩ := H
                replace H : (if 0 ≤ (x4_1.length : Int) then (if (x4_1.length : Int) < (y150.length : Int) then (dict_Runs.l0 k1 (y150.set ((x4_1.length : Int) : Int).toNat (wrap64 ((rd y150 (x4_1.length : Int)) + 1))) l0 (l0.length : Int) (wrap64 (x13_1 + 1)) t153) else (none)) else (none)) = some r := H
                have A24 := Aside0.mk A240
                clear A240
                by_cases c25 : 0 ≤ (x4_1.length : Int)
                · rw [if_pos c25] at H
                  have c25b0 : decide (0 ≤ (x4_1.length : Int)) = true := decide_eq_true c25
                  have c25b1 : decide (0 ≤ x4_1.length) = true := decide_eq_true (by omega)
                  clear c25
                  by_cases c26 : (x4_1.length : Int) < (y150.length : Int)
                  · rw [if_pos c26] at H
                    have c26b0 : decide ((x4_1.length : Int) < (y150.length : Int)) = true := decide_eq_true c26
                    have c26b1 : decide (x4_1.length < y150.length) = true := decide_eq_true (Int.ofNat_lt.mp c26)
                    clear c26
                    obtain ⟨y155, hy155⟩ : ∃ y_ : List Int, y_ = (y150.set ((x4_1.length : Int) : Int).toNat (wrap64 ((rd y150 (x4_1.length : Int)) + 1))) := ⟨_, rfl⟩
                    replace H : (dict_Runs.l0 k1 y155 l0 (l0.length : Int) (wrap64 (x13_1 + 1)) t153) = some r := by first | (rw [hy155]; with_reducible exact H) | (have H2_ := (Option.bind_some _ _).symm.trans H; rw [hy155]; with_reducible exact H2_) | (have H2_ := (Option.bind_some _ _).symm.trans H; with_reducible exact H2_) | with_reducible exact H | (rw [hy155]; exact H) | exact H
                    have Ny155 := Aside0.mk hy155
                    clear hy155
                    have H' := Aside0.mk H
                    clear H
                    have p142 : 0 ≤ (x13_1 : Int) := of_decide_eq_true (by first | (with_reducible assumption) | assumption)
                    have q142 : x13_1 < (l0.length : Int) := of_decide_eq_true (by first | (with_reducible assumption) | assumption)
                    obtain ⟨ad142, A142_1, c142_1, e142, hx142_0, hx142_1, hl142_1, hi142_1⟩ := at_T61 HR0.out x13_1 p142 q142
                    cases e142
                    replace hx142_0 := (HB.out.cell (World.block_lt_of_cell? w _ hx142_0)).trans hx142_0
                    replace hx142_1 := (HB.out.cell (World.block_lt_of_cell? w _ hx142_1)).trans hx142_1
                    have HR142_1 := Aside0.mk hi142_1
                    have HC142_1 := Aside0.mk hl142_1
                    clear hi142_1 hl142_1
                    replace p142 := eq_true p142
                    replace q142 := eq_true q142
                    try go_wp2_with (first | ((with_reducible refine gate_dst (N := 6) rfl ?_); refine box_event ?hg (N := 6) ?hd (cs := #[.int .i64 0, .slice none 0 0]) (t := 61) ?hr ?_; (case hd => rfl); (case hg => rfl); (case hr => first | (go_simp; done) | (go_simp; rfl)); intro gb143 hg w28 hbox hb; have n0_ := Aside0.mk (Kd.R_below (by (with_reducible repeat (first | apply Kd.R_alloc | apply Kd.R_drewN | apply Kd.R_drew)); exact HO_4.out) hb); have n1_ := Aside0.mk (Go.Proofs.YtjfklfmfeghjnabAid.RunsM.below (by repeat (first | (with_reducible first | exact HI141.out | apply Go.Proofs.YtjfklfmfeghjnabAid.RunsM.alloc | apply Go.Proofs.YtjfklfmfeghjnabAid.RunsM.drewN | apply Go.Proofs.YtjfklfmfeghjnabAid.RunsM.drew | apply Go.Proofs.YtjfklfmfeghjnabAid.RunsM.set_0) | exact HI141.out)) hb); have n2_ := Aside0.mk (below_step (by repeat (first | (with_reducible first | exact HB.out | apply below_alloc | apply pw_below_drewN | apply below_drew1 | refine below_set ?_ (Go.Proofs.YtjfklfmfeghjnabAid.RunsM.ge HI141.out)) | exact HB.out)) hb); have n3_ := Aside0.mk (hbox); have n4_ := Aside0.mk ((by rw [hg]; exact (below_size (by repeat (first | (with_reducible first | exact HB.out | apply below_alloc | apply pw_below_drewN | apply below_drew1 | refine below_set ?_ (Go.Proofs.YtjfklfmfeghjnabAid.RunsM.ge HI141.out)) | exact HB.out))) : w.heap.size ≤ gb143)); have n5_ := Aside0.mk ((by rw [hg]; exact (below_size (by repeat (first | (with_reducible first | exact HB.out | apply below_alloc | apply pw_below_drewN | apply below_drew1 | refine below_set ?_ (Go.Proofs.YtjfklfmfeghjnabAid.RunsM.ge HI141.out)) | exact HB.out))) : w.heap.size ≤ gb143)); have n6_ := Aside0.mk ((by rw [hg]; exact Nat.ne_of_lt (Go.Proofs.YtjfklfmfeghjnabAid.RunsM.lt (show Go.Proofs.YtjfklfmfeghjnabAid.RunsM w _ g141 x142000_1 from by repeat (first | (with_reducible first | exact HI141.out | apply Go.Proofs.YtjfklfmfeghjnabAid.RunsM.alloc | apply Go.Proofs.YtjfklfmfeghjnabAid.RunsM.drewN | apply Go.Proofs.YtjfklfmfeghjnabAid.RunsM.drew | apply Go.Proofs.YtjfklfmfeghjnabAid.RunsM.set_0) | exact HI141.out))) : g141 ≠ gb143)); have n7_ := Aside0.mk ((by rw [hg]; exact Nat.ne_of_gt (Go.Proofs.YtjfklfmfeghjnabAid.RunsM.lt (show Go.Proofs.YtjfklfmfeghjnabAid.RunsM w _ g141 x142000_1 from by repeat (first | (with_reducible first | exact HI141.out | apply Go.Proofs.YtjfklfmfeghjnabAid.RunsM.alloc | apply Go.Proofs.YtjfklfmfeghjnabAid.RunsM.drewN | apply Go.Proofs.YtjfklfmfeghjnabAid.RunsM.drew | apply Go.Proofs.YtjfklfmfeghjnabAid.RunsM.set_0) | exact HI141.out))) : gb143 ≠ g141)); clear HO_4; clear HI141; clear HB; have HO_4 := n0_; have HI141 := n1_; have HB := n2_; have BK143 := n3_; have GW143 := n4_; have GE143 := n5_; have NB141_143 := n6_; have NB143_141 := n7_; clear n0_ n1_ n2_ n3_ n4_ n5_ n6_ n7_; clear hb hbox hg; have hnb29 := NB143_141.out; have hnc29 := NB141_143.out; have hcz30_0 : w28.cell? ⟨gb143, 0, none⟩ = some (.int .i64 0) := (blk_cell BK143.out 0).trans rfl; have hcz30_1 : w28.cell? ⟨gb143, 1, none⟩ = some (.slice none 0 0) := (blk_cell BK143.out 1).trans rfl; have hfz30_0 := blk_frozen BK143.out 0; have hfz30_1 := blk_frozen BK143.out 1) | ((with_reducible refine gate_dst (N := 7) rfl ?_); refine box_event ?hg (N := 7) ?hd (cs := #[.int .i64 0, .int .i64 0]) (t := 104) ?hr ?_; (case hd => rfl); (case hg => rfl); (case hr => first | (go_simp; done) | (go_simp; rfl)); intro gb144 hg w31 hbox hb; have n0_ := Aside0.mk (Kd.R_below (by (with_reducible repeat (first | apply Kd.R_alloc | apply Kd.R_drewN | apply Kd.R_drew)); exact (Kd.R_mono (Kd.R_far (p := ⟨gb143, 1, none⟩) (Kd.R_far (p := ⟨gb143, 0, none⟩) (Kd.R_types HO_4.out BK143.out (by decide)) (fun _ hk => hk.2) (.int .i64 ((rd_T61 l0 x13_1).f0))) (fun _ hk => hk.2) (.slice A142_1 ((rd_T61 l0 x13_1).f1).length c142_1)) (fun _ h_ => h_.1))) hb); have n1_ := Aside0.mk (Go.Proofs.YtjfklfmfeghjnabAid.RunsM.below (show Go.Proofs.YtjfklfmfeghjnabAid.RunsM w ((w28.setCell ⟨gb143, 0, none⟩ (.int .i64 ((rd_T61 l0 x13_1).f0))).setCell ⟨gb143, 1, none⟩ (.slice A142_1 ((rd_T61 l0 x13_1).f1).length c142_1)) g141 x142000_1 from by repeat (first | (with_reducible first | exact HI141.out | apply Go.Proofs.YtjfklfmfeghjnabAid.RunsM.alloc | apply Go.Proofs.YtjfklfmfeghjnabAid.RunsM.drewN | apply Go.Proofs.YtjfklfmfeghjnabAid.RunsM.drew | apply Go.Proofs.YtjfklfmfeghjnabAid.RunsM.set_0 | refine Go.Proofs.YtjfklfmfeghjnabAid.RunsM.farT (t := 61) (a := gb143) ?_ (by (with_reducible repeat (first | exact Go.Proofs.YtjfklfmfeghjnabAid.TyAt.mk BK143.out | apply Go.Proofs.YtjfklfmfeghjnabAid.TyAt.set | apply Go.Proofs.YtjfklfmfeghjnabAid.TyAt.alloc | apply Go.Proofs.YtjfklfmfeghjnabAid.TyAt.drewN | apply Go.Proofs.YtjfklfmfeghjnabAid.TyAt.drew))) (by decide) (by decide) _) | exact HI141.out)) hb); have n2_ := Aside0.mk (blk_below (g := gb143) (o := .cells #[.int .i64 ((rd_T61 l0 x13_1).f0), .slice A142_1 ((rd_T61 l0 x13_1).f1).length c142_1] 61 (0, 0)) (by (with_reducible repeat (first | refine blk_drewN ?_ _ | refine blk_drew ?_ | refine blk_alloc ?_ _)); refine blk_put (cs := #[.int .i64 ((rd_T61 l0 x13_1).f0), .slice none 0 0]) ?_ 1 _ rfl; (with_reducible repeat (first | refine blk_drewN ?_ _ | refine blk_drew ?_ | refine blk_alloc ?_ _)); refine blk_put (cs := #[.int .i64 0, .slice none 0 0]) ?_ 0 _ rfl; (with_reducible repeat (first | refine blk_drewN ?_ _ | refine blk_drew ?_ | refine blk_alloc ?_ _)); exact BK143.out) hb); have n3_ := Aside0.mk (below_step (by repeat (first | (with_reducible first | exact HB.out | apply below_alloc | apply pw_below_drewN | apply below_drew1 | refine below_set ?_ (Go.Proofs.YtjfklfmfeghjnabAid.RunsM.ge HI141.out) | refine below_set ?_ GE143.out) | exact HB.out)) hb); have n4_ := Aside0.mk (hbox); have n5_ := Aside0.mk ((by rw [hg]; exact (below_size (by repeat (first | (with_reducible first | exact HB.out | apply below_alloc | apply pw_below_drewN | apply below_drew1 | refine below_set ?_ (Go.Proofs.YtjfklfmfeghjnabAid.RunsM.ge HI141.out) | refine below_set ?_ GE143.out) | exact HB.out))) : w.heap.size ≤ gb144)); have n6_ := Aside0.mk ((by rw [hg]; exact (below_size (by repeat (first | (with_reducible first | exact HB.out | apply below_alloc | apply pw_below_drewN | apply below_drew1 | refine below_set ?_ (Go.Proofs.YtjfklfmfeghjnabAid.RunsM.ge HI141.out) | refine below_set ?_ GE143.out) | exact HB.out))) : w.heap.size ≤ gb144)); have n7_ := Aside0.mk ((by rw [hg]; exact Nat.ne_of_lt (blk_lt (g := gb143) (o := .cells #[.int .i64 ((rd_T61 l0 x13_1).f0), .slice A142_1 ((rd_T61 l0 x13_1).f1).length c142_1] 61 (0, 0)) (by (with_reducible repeat (first | refine blk_drewN ?_ _ | refine blk_drew ?_ | refine blk_alloc ?_ _)); refine blk_put (cs := #[.int .i64 ((rd_T61 l0 x13_1).f0), .slice none 0 0]) ?_ 1 _ rfl; (with_reducible repeat (first | refine blk_drewN ?_ _ | refine blk_drew ?_ | refine blk_alloc ?_ _)); refine blk_put (cs := #[.int .i64 0, .slice none 0 0]) ?_ 0 _ rfl; (with_reducible repeat (first | refine blk_drewN ?_ _ | refine blk_drew ?_ | refine blk_alloc ?_ _)); exact BK143.out)) : gb143 ≠ gb144)); have n8_ := Aside0.mk ((by rw [hg]; exact Nat.ne_of_gt (blk_lt (g := gb143) (o := .cells #[.int .i64 ((rd_T61 l0 x13_1).f0), .slice A142_1 ((rd_T61 l0 x13_1).f1).length c142_1] 61 (0, 0)) (by (with_reducible repeat (first | refine blk_drewN ?_ _ | refine blk_drew ?_ | refine blk_alloc ?_ _)); refine blk_put (cs := #[.int .i64 ((rd_T61 l0 x13_1).f0), .slice none 0 0]) ?_ 1 _ rfl; (with_reducible repeat (first | refine blk_drewN ?_ _ | refine blk_drew ?_ | refine blk_alloc ?_ _)); refine blk_put (cs := #[.int .i64 0, .slice none 0 0]) ?_ 0 _ rfl; (with_reducible repeat (first | refine blk_drewN ?_ _ | refine blk_drew ?_ | refine blk_alloc ?_ _)); exact BK143.out)) : gb144 ≠ gb143)); have n9_ := Aside0.mk ((by rw [hg]; exact Nat.ne_of_lt (Go.Proofs.YtjfklfmfeghjnabAid.RunsM.lt (show Go.Proofs.YtjfklfmfeghjnabAid.RunsM w _ g141 x142000_1 from by repeat (first | (with_reducible first | exact HI141.out | apply Go.Proofs.YtjfklfmfeghjnabAid.RunsM.alloc | apply Go.Proofs.YtjfklfmfeghjnabAid.RunsM.drewN | apply Go.Proofs.YtjfklfmfeghjnabAid.RunsM.drew | apply Go.Proofs.YtjfklfmfeghjnabAid.RunsM.set_0 | refine Go.Proofs.YtjfklfmfeghjnabAid.RunsM.farT (t := 61) (a := gb143) ?_ (by (with_reducible repeat (first | exact Go.Proofs.YtjfklfmfeghjnabAid.TyAt.mk BK143.out | apply Go.Proofs.YtjfklfmfeghjnabAid.TyAt.set | apply Go.Proofs.YtjfklfmfeghjnabAid.TyAt.alloc | apply Go.Proofs.YtjfklfmfeghjnabAid.TyAt.drewN | apply Go.Proofs.YtjfklfmfeghjnabAid.TyAt.drew))) (by decide) (by decide) _) | exact HI141.out))) : g141 ≠ gb144)); have n10_ := Aside0.mk ((by rw [hg]; exact Nat.ne_of_gt (Go.Proofs.YtjfklfmfeghjnabAid.RunsM.lt (show Go.Proofs.YtjfklfmfeghjnabAid.RunsM w _ g141 x142000_1 from by repeat (first | (with_reducible first | exact HI141.out | apply Go.Proofs.YtjfklfmfeghjnabAid.RunsM.alloc | apply Go.Proofs.YtjfklfmfeghjnabAid.RunsM.drewN | apply Go.Proofs.YtjfklfmfeghjnabAid.RunsM.drew | apply Go.Proofs.YtjfklfmfeghjnabAid.RunsM.set_0 | refine Go.Proofs.YtjfklfmfeghjnabAid.RunsM.farT (t := 61) (a := gb143) ?_ (by (with_reducible repeat (first | exact Go.Proofs.YtjfklfmfeghjnabAid.TyAt.mk BK143.out | apply Go.Proofs.YtjfklfmfeghjnabAid.TyAt.set | apply Go.Proofs.YtjfklfmfeghjnabAid.TyAt.alloc | apply Go.Proofs.YtjfklfmfeghjnabAid.TyAt.drewN | apply Go.Proofs.YtjfklfmfeghjnabAid.TyAt.drew))) (by decide) (by decide) _) | exact HI141.out))) : gb144 ≠ g141)); clear HO_4; clear HI141; clear BK143; clear HB; have HO_4 := n0_; have HI141 := n1_; have BK143 := n2_; have HB := n3_; have BK144 := n4_; have GW144 := n5_; have GE144 := n6_; have NB143_144 := n7_; have NB144_143 := n8_; have NB141_144 := n9_; have NB144_141 := n10_; clear n0_ n1_ n2_ n3_ n4_ n5_ n6_ n7_ n8_ n9_ n10_; clear hb hbox hg; have hnb32 := NB144_143.out; have hnc32 := NB143_144.out; have hnb33 := NB144_141.out; have hnc33 := NB141_144.out; have hcz34_0 : w31.cell? ⟨gb144, 0, none⟩ = some (.int .i64 0) := (blk_cell BK144.out 0).trans rfl; have hcz34_1 : w31.cell? ⟨gb144, 1, none⟩ = some (.int .i64 0) := (blk_cell BK144.out 1).trans rfl; have hfz34_0 := blk_frozen BK144.out 0; have hfz34_1 := blk_frozen BK144.out 1) | ((with_reducible refine gate_dst (N := 26) rfl ?_); refine Go.Proofs.YtjfklfmfeghjnabAid.runs_look (w0 := w) rfl _ _ rfl rfl ?side1 ?side2 ((rd_T61 l0 x13_1).f0) (((rd_T61 l0 x13_1).f1).length : Int) t145 false A7.out rfl ?_; (case side1 => repeat (first | (with_reducible first | exact HI141.out | apply Go.Proofs.YtjfklfmfeghjnabAid.RunsM.alloc | apply Go.Proofs.YtjfklfmfeghjnabAid.RunsM.drewN | apply Go.Proofs.YtjfklfmfeghjnabAid.RunsM.drew | apply Go.Proofs.YtjfklfmfeghjnabAid.RunsM.set_0 | refine Go.Proofs.YtjfklfmfeghjnabAid.RunsM.farT (t := 61) (a := gb143) ?_ (by (with_reducible repeat (first | exact Go.Proofs.YtjfklfmfeghjnabAid.TyAt.mk BK143.out | apply Go.Proofs.YtjfklfmfeghjnabAid.TyAt.set | apply Go.Proofs.YtjfklfmfeghjnabAid.TyAt.alloc | apply Go.Proofs.YtjfklfmfeghjnabAid.TyAt.drewN | apply Go.Proofs.YtjfklfmfeghjnabAid.TyAt.drew))) (by decide) (by decide) _ | refine Go.Proofs.YtjfklfmfeghjnabAid.RunsM.farT (t := 104) (a := gb144) ?_ (by (with_reducible repeat (first | exact Go.Proofs.YtjfklfmfeghjnabAid.TyAt.mk BK144.out | apply Go.Proofs.YtjfklfmfeghjnabAid.TyAt.set | apply Go.Proofs.YtjfklfmfeghjnabAid.TyAt.alloc | apply Go.Proofs.YtjfklfmfeghjnabAid.TyAt.drewN | apply Go.Proofs.YtjfklfmfeghjnabAid.TyAt.drew))) (by decide) (by decide) _) | exact HI141.out)); (case side2 => repeat (first | (with_reducible first | exact HB.out | apply below_alloc | apply pw_below_drewN | apply below_drew1 | refine below_set ?_ (Go.Proofs.YtjfklfmfeghjnabAid.RunsM.ge HI141.out) | refine below_set ?_ GE143.out | refine below_set ?_ GE144.out) | exact HB.out)); intro w35 hi hb hk; have n0_ := Aside0.mk (Kd.R_mono (Kd.R_keep (Go.Proofs.YtjfklfmfeghjnabAid.RunsM.apart (show Go.Proofs.YtjfklfmfeghjnabAid.RunsM w _ g141 x142000_1 from by repeat (first | (with_reducible first | exact HI141.out | apply Go.Proofs.YtjfklfmfeghjnabAid.RunsM.alloc | apply Go.Proofs.YtjfklfmfeghjnabAid.RunsM.drewN | apply Go.Proofs.YtjfklfmfeghjnabAid.RunsM.drew | apply Go.Proofs.YtjfklfmfeghjnabAid.RunsM.set_0 | refine Go.Proofs.YtjfklfmfeghjnabAid.RunsM.farT (t := 61) (a := gb143) ?_ (by (with_reducible repeat (first | exact Go.Proofs.YtjfklfmfeghjnabAid.TyAt.mk BK143.out | apply Go.Proofs.YtjfklfmfeghjnabAid.TyAt.set | apply Go.Proofs.YtjfklfmfeghjnabAid.TyAt.alloc | apply Go.Proofs.YtjfklfmfeghjnabAid.TyAt.drewN | apply Go.Proofs.YtjfklfmfeghjnabAid.TyAt.drew))) (by decide) (by decide) _ | refine Go.Proofs.YtjfklfmfeghjnabAid.RunsM.farT (t := 104) (a := gb144) ?_ (by (with_reducible repeat (first | exact Go.Proofs.YtjfklfmfeghjnabAid.TyAt.mk BK144.out | apply Go.Proofs.YtjfklfmfeghjnabAid.TyAt.set | apply Go.Proofs.YtjfklfmfeghjnabAid.TyAt.alloc | apply Go.Proofs.YtjfklfmfeghjnabAid.TyAt.drewN | apply Go.Proofs.YtjfklfmfeghjnabAid.TyAt.drew))) (by decide) (by decide) _) | exact HI141.out)) (by (with_reducible repeat (first | apply Kd.R_alloc | apply Kd.R_drewN | apply Kd.R_drew)); exact (Kd.R_mono (Kd.R_far (p := ⟨gb144, 1, none⟩) (Kd.R_far (p := ⟨gb144, 0, none⟩) (Kd.R_types HO_4.out BK144.out (by decide)) (fun _ hk => hk.2) (.int .i64 ((rd_T61 l0 x13_1).f0))) (fun _ hk => hk.2) (.int .i64 (((rd_T61 l0 x13_1).f1).length : Int))) (fun _ h_ => h_.1))) (by decide)) hk (fun _ h => h.2)) (fun _ h => h.1)); have n1_ := Aside0.mk (KeepBut.blk hk (g' := gb143) (o := .cells #[.int .i64 ((rd_T61 l0 x13_1).f0), .slice A142_1 ((rd_T61 l0 x13_1).f1).length c142_1] 61 (0, 0)) (by (with_reducible repeat (first | refine blk_drewN ?_ _ | refine blk_drew ?_ | refine blk_alloc ?_ _)); refine blk_far ?_ NB143_144.out _; (with_reducible repeat (first | refine blk_drewN ?_ _ | refine blk_drew ?_ | refine blk_alloc ?_ _)); refine blk_far ?_ NB143_144.out _; (with_reducible repeat (first | refine blk_drewN ?_ _ | refine blk_drew ?_ | refine blk_alloc ?_ _)); exact BK143.out) NB143_141.out (by simp)); have n2_ := Aside0.mk (KeepBut.blk hk (g' := gb144) (o := .cells #[.int .i64 ((rd_T61 l0 x13_1).f0), .int .i64 (((rd_T61 l0 x13_1).f1).length : Int)] 104 (0, 0)) (by (with_reducible repeat (first | refine blk_drewN ?_ _ | refine blk_drew ?_ | refine blk_alloc ?_ _)); refine blk_put (cs := #[.int .i64 ((rd_T61 l0 x13_1).f0), .int .i64 0]) ?_ 1 _ rfl; (with_reducible repeat (first | refine blk_drewN ?_ _ | refine blk_drew ?_ | refine blk_alloc ?_ _)); refine blk_put (cs := #[.int .i64 0, .int .i64 0]) ?_ 0 _ rfl; (with_reducible repeat (first | refine blk_drewN ?_ _ | refine blk_drew ?_ | refine blk_alloc ?_ _)); exact BK144.out) NB144_141.out (by simp)); have n3_ := Aside0.mk (hb); have n4_ := Aside0.mk (hi); clear HO_4; clear BK143; clear BK144; clear HB; clear HI141; have HO_4 := n0_; have BK143 := n1_; have BK144 := n2_; have HB := n3_; have HI141 := n4_; clear n0_ n1_ n2_ n3_ n4_; (try clear hb); (try clear hb2); (try clear hk); (try clear hi); obtain ⟨Ao36, co36, eo36⟩ := Kd.R_slice HO_4.out; subst eo36))
                    have n0_ := Aside0.mk (Kd.R_drew HO_4.out)
                    have n1_ := Aside0.mk (blk_drew BK143.out)
                    have n2_ := Aside0.mk (blk_drew BK144.out)
                    have n3_ := Aside0.mk (Go.Proofs.YtjfklfmfeghjnabAid.RunsM.drew HI141.out)
                    have n4_ := Aside0.mk (below_drew1 HB.out)
                    clear HO_4
                    clear BK143
                    clear BK144
                    clear HI141
                    clear HB
                    have HO_4 := n0_
                    have BK143 := n1_
                    have BK144 := n2_
                    have HI141 := n3_
                    have HB := n4_
                    clear n0_ n1_ n2_ n3_ n4_
                    refine start_ (n := 8) (S := fun w' => w'.cell? ⟨gb144, 0, none⟩ = some (.int .i64 ((rd_T61 l0 x13_1).f0)) ∧ w'.cell? ⟨gb144, 1, none⟩ = some (.int .i64 (((rd_T61 l0 x13_1).f1).length : Int))) (ds := []) #[false, false, false, false, false, false, false, false] (by kernel_rfl) rfl rfl ⟨(blk_cell BK144.out 0).trans rfl, (blk_cell BK144.out 1).trans rfl⟩ (fun hHeld => ?_); refine with_tabW dict_Runs.tab10 dict_Runs.bits10 (fun HT_ HW_ => ?_)
                    generalize w35.drew = w37 at HO_4 BK143 BK144 HI141 HB hHeld ⊢
                    refine pure_ (i := 0) (N := some 33) (v := ?_) (a' := ?_) #[true, false, false, false, false, false, false, false] rfl rfl (any_of HT_.out (by kernel_rfl)) (fun _ _ _ h => h) (Or.inl ⟨by rfl, ?_⟩) ?_ ?_
                    rotate_left
                    · intro w'
                      go_simp
                      with_reducible rfl
                    rotate_left
                    · simp only [Act.put, List.setIfInBounds_toArray, List.set_cons_zero, List.set_cons_succ, i64_w, i32_w]
                      rfl
                    refine pure_ (i := 2) (N := some 35) (v := ?_) (a' := ?_) #[true, false, true, false, false, false, false, false] rfl rfl (any_of HT_.out (by kernel_rfl)) (fun _ _ _ h => h) (Or.inl ⟨by rfl, ?_⟩) ?_ ?_
                    rotate_left
                    · intro w'
                      go_simp
                      with_reducible rfl
                    rotate_left
                    · simp only [Act.put, List.setIfInBounds_toArray, List.set_cons_zero, List.set_cons_succ, i64_w, i32_w]
                      rfl
                    refine pure_ (i := 3) (N := some 36) (v := ?_) (a' := ?_) #[true, false, true, true, false, false, false, false] rfl rfl (any_of HT_.out (by kernel_rfl)) (fun _ _ _ h => h) (Or.inl ⟨by rfl, ?_⟩) ?_ ?_
                    rotate_left
                    · intro w'
                      go_simp
                      with_reducible rfl
                    rotate_left
                    · simp only [Act.put, List.setIfInBounds_toArray, List.set_cons_zero, List.set_cons_succ, i64_w, i32_w]
                      rfl
                    refine take_ (i := 1) (N := some 34) (v := ?_) (a' := ?_) #[true, true, true, true, false, false, false, false] rfl rfl (take_ofW HT_.out HW_.out (by kernel_rfl)) (fun _ _ _ h => h) (Or.inl ⟨by rfl, ?_⟩) hHeld ?_ ?_
                    rotate_left
                    · rintro w' ⟨s0, s1⟩
                      go_simp
                      with_reducible rfl
                    rotate_left
                    · simp only [Act.put, List.setIfInBounds_toArray, List.set_cons_zero, List.set_cons_succ, i64_w, i32_w]
                      rfl
                    refine one_ (i := 4) (N := some 37) #[true, true, true, true, true, false, false, false] rfl rfl (one_of HT_.out (by kernel_rfl)) (by decide) (fun K hK => ?_)
                    refine value_ (w1 := ?_) (v := ?_) (by rfl) rfl ?_ ?_
                    rotate_left 2
                    · go_simp
                      constructor
                      · rfl
                      · rfl
                    refine hK.out _ _ ⟨(blk_cell (blk_alloc BK144.out _) 0).trans rfl, (blk_cell (blk_alloc BK144.out _) 1).trans rfl⟩ (fun hHeld => ?_)
                    clear hK K
                    refine norm_ (a' := ?_) ?_ ?_
                    rotate_left
                    · show Act.put _ (some 37) _ = _
                      simp only [Act.put, List.setIfInBounds_toArray, List.set_cons_zero, List.set_cons_succ, i64_w, i32_w]
                      rfl
                    refine one_ (i := 5) (N := some 38) #[true, true, true, true, true, true, false, false] rfl rfl (one_of HT_.out (by kernel_rfl)) (by decide) (fun K hK => ?_)
                    refine Kd.R_append_step (Kd.int .i64) (w0 := w) w.heap.size (by rfl) (.tmp 36) (.tmp 37) 45 3 (.int .i64 0) 8 rfl Try.underlying45 info3 rfl (by decide) (by omega) (.slice Ao36 x4_1.length co36) x4_1 0 [.int .i64 0] (fun _ => True) (fun _ => False) rfl rfl ?aP (fun _ hk => hk.elim) ?aF ?aO ?aB ?aS ?aL ?_
                    (case aP => exact rfl)
                    (case aB => exact (by repeat (first | (with_reducible first | exact HB.out | apply below_alloc | apply pw_below_drewN | apply below_drew1 | refine below_set ?_ (Go.Proofs.YtjfklfmfeghjnabAid.RunsM.ge HI141.out) | refine below_set ?_ GE143.out | refine below_set ?_ GE144.out) | exact HB.out)))
                    (case aF => exact (fun _ _ => trivial))
                    (case aO => exact (by (with_reducible repeat (first | apply Kd.R_alloc | apply Kd.R_drewN | apply Kd.R_drew)); exact HO_4.out))
                    (case aS => exact (below_size (by repeat (first | (with_reducible first | exact HB.out | apply below_alloc | apply pw_below_drewN | apply below_drew1 | refine below_set ?_ (Go.Proofs.YtjfklfmfeghjnabAid.RunsM.ge HI141.out) | refine below_set ?_ GE143.out | refine below_set ?_ GE144.out) | exact HB.out))))
                    (case aL => have := LMc23.out; omega)
                    intro v151 w38 ho hb hg hat
                    rw [← Ny150.out] at ho
                    have n0_ := Aside0.mk (Go.Proofs.YtjfklfmfeghjnabAid.RunsM.grown (by repeat (first | (with_reducible first | exact HI141.out | apply Go.Proofs.YtjfklfmfeghjnabAid.RunsM.alloc | apply Go.Proofs.YtjfklfmfeghjnabAid.RunsM.drewN | apply Go.Proofs.YtjfklfmfeghjnabAid.RunsM.drew | apply Go.Proofs.YtjfklfmfeghjnabAid.RunsM.set_0 | refine Go.Proofs.YtjfklfmfeghjnabAid.RunsM.farT (t := 61) (a := gb143) ?_ (by (with_reducible repeat (first | exact Go.Proofs.YtjfklfmfeghjnabAid.TyAt.mk BK143.out | apply Go.Proofs.YtjfklfmfeghjnabAid.TyAt.set | apply Go.Proofs.YtjfklfmfeghjnabAid.TyAt.alloc | apply Go.Proofs.YtjfklfmfeghjnabAid.TyAt.drewN | apply Go.Proofs.YtjfklfmfeghjnabAid.TyAt.drew))) (by decide) (by decide) _ | refine Go.Proofs.YtjfklfmfeghjnabAid.RunsM.farT (t := 104) (a := gb144) ?_ (by (with_reducible repeat (first | exact Go.Proofs.YtjfklfmfeghjnabAid.TyAt.mk BK144.out | apply Go.Proofs.YtjfklfmfeghjnabAid.TyAt.set | apply Go.Proofs.YtjfklfmfeghjnabAid.TyAt.alloc | apply Go.Proofs.YtjfklfmfeghjnabAid.TyAt.drewN | apply Go.Proofs.YtjfklfmfeghjnabAid.TyAt.drew))) (by decide) (by decide) _) | exact HI141.out)) hg (Go.Proofs.YtjfklfmfeghjnabAid.RunsM.own_ne HI141.out HO_4.out (by decide)))
                    have n1_ := Aside0.mk (blk_grown (g := gb143) (o := .cells #[.int .i64 ((rd_T61 l0 x13_1).f0), .slice A142_1 ((rd_T61 l0 x13_1).f1).length c142_1] 61 (0, 0)) (by (with_reducible repeat (first | refine blk_drewN ?_ _ | refine blk_drew ?_ | refine blk_alloc ?_ _)); exact BK143.out) hg (Kd.R_ne HO_4.out BK143.out (by decide)))
                    have n2_ := Aside0.mk (blk_grown (g := gb144) (o := .cells #[.int .i64 ((rd_T61 l0 x13_1).f0), .int .i64 (((rd_T61 l0 x13_1).f1).length : Int)] 104 (0, 0)) (by (with_reducible repeat (first | refine blk_drewN ?_ _ | refine blk_drew ?_ | refine blk_alloc ?_ _)); exact BK144.out) hg (Kd.R_ne HO_4.out BK144.out (by decide)))
                    have n3_ := Aside0.mk (hb)
                    have n4_ := Aside0.mk (ho)
                    clear HI141
                    clear BK143
                    clear BK144
                    clear HB
                    clear HO_4
                    have HI141 := n0_
                    have BK143 := n1_
                    have BK144 := n2_
                    have HB := n3_
                    have HO152 := n4_
                    clear n0_ n1_ n2_ n3_ n4_
                    clear ho hb hg hat
                    refine hK.out _ _ ⟨(blk_cell BK144.out 0).trans rfl, (blk_cell BK144.out 1).trans rfl⟩ (fun hHeld => ?_)
                    clear hK K
                    refine norm_ (a' := ?_) ?_ ?_
                    rotate_left
                    · show Act.put _ (some 38) _ = _
                      simp only [Act.put, List.setIfInBounds_toArray, List.set_cons_zero, List.set_cons_succ, i64_w, i32_w]
                      rfl
                    refine one_ (i := 6) (N := none) #[true, true, true, true, true, true, true, false] rfl rfl (one_of HT_.out (by kernel_rfl)) (by decide) (fun K hK => ?_)
                    refine Go.Proofs.YtjfklfmfeghjnabAid.runs_put (w0 := w) (by rfl) rfl rfl rfl ?side1 ?side2 ((rd_T61 l0 x13_1).f0) (((rd_T61 l0 x13_1).f1).length : Int) (x4_1.length : Int) A24.out rfl rfl ?_
                    (case side1 => repeat (first | (with_reducible first | exact HI141.out | apply Go.Proofs.YtjfklfmfeghjnabAid.RunsM.alloc | apply Go.Proofs.YtjfklfmfeghjnabAid.RunsM.drewN | apply Go.Proofs.YtjfklfmfeghjnabAid.RunsM.drew | apply Go.Proofs.YtjfklfmfeghjnabAid.RunsM.set_0 | refine Go.Proofs.YtjfklfmfeghjnabAid.RunsM.farT (t := 61) (a := gb143) ?_ (by (with_reducible repeat (first | exact Go.Proofs.YtjfklfmfeghjnabAid.TyAt.mk BK143.out | apply Go.Proofs.YtjfklfmfeghjnabAid.TyAt.set | apply Go.Proofs.YtjfklfmfeghjnabAid.TyAt.alloc | apply Go.Proofs.YtjfklfmfeghjnabAid.TyAt.drewN | apply Go.Proofs.YtjfklfmfeghjnabAid.TyAt.drew))) (by decide) (by decide) _ | refine Go.Proofs.YtjfklfmfeghjnabAid.RunsM.farT (t := 104) (a := gb144) ?_ (by (with_reducible repeat (first | exact Go.Proofs.YtjfklfmfeghjnabAid.TyAt.mk BK144.out | apply Go.Proofs.YtjfklfmfeghjnabAid.TyAt.set | apply Go.Proofs.YtjfklfmfeghjnabAid.TyAt.alloc | apply Go.Proofs.YtjfklfmfeghjnabAid.TyAt.drewN | apply Go.Proofs.YtjfklfmfeghjnabAid.TyAt.drew))) (by decide) (by decide) _) | exact HI141.out))
                    (case side2 => repeat (first | (with_reducible first | exact HB.out | apply below_alloc | apply pw_below_drewN | apply below_drew1 | refine below_set ?_ (Go.Proofs.YtjfklfmfeghjnabAid.RunsM.ge HI141.out) | refine below_set ?_ GE143.out | refine below_set ?_ GE144.out) | exact HB.out))
                    intro w39 hi hb hk
                    have n0_ := Aside0.mk (KeepBut.blk hk (g' := gb143) (o := .cells #[.int .i64 ((rd_T61 l0 x13_1).f0), .slice A142_1 ((rd_T61 l0 x13_1).f1).length c142_1] 61 (0, 0)) (by (with_reducible repeat (first | refine blk_drewN ?_ _ | refine blk_drew ?_ | refine blk_alloc ?_ _)); exact BK143.out) NB143_141.out (by simp))
                    have n1_ := Aside0.mk (KeepBut.blk hk (g' := gb144) (o := .cells #[.int .i64 ((rd_T61 l0 x13_1).f0), .int .i64 (((rd_T61 l0 x13_1).f1).length : Int)] 104 (0, 0)) (by (with_reducible repeat (first | refine blk_drewN ?_ _ | refine blk_drew ?_ | refine blk_alloc ?_ _)); exact BK144.out) NB144_141.out (by simp))
                    have n2_ := Aside0.mk (Kd.R_mono (Kd.R_keep (Go.Proofs.YtjfklfmfeghjnabAid.RunsM.apart (show Go.Proofs.YtjfklfmfeghjnabAid.RunsM w _ g141 t147 from by repeat (first | (with_reducible first | exact HI141.out | apply Go.Proofs.YtjfklfmfeghjnabAid.RunsM.alloc | apply Go.Proofs.YtjfklfmfeghjnabAid.RunsM.drewN | apply Go.Proofs.YtjfklfmfeghjnabAid.RunsM.drew | apply Go.Proofs.YtjfklfmfeghjnabAid.RunsM.set_0 | refine Go.Proofs.YtjfklfmfeghjnabAid.RunsM.farT (t := 61) (a := gb143) ?_ (by (with_reducible repeat (first | exact Go.Proofs.YtjfklfmfeghjnabAid.TyAt.mk BK143.out | apply Go.Proofs.YtjfklfmfeghjnabAid.TyAt.set | apply Go.Proofs.YtjfklfmfeghjnabAid.TyAt.alloc | apply Go.Proofs.YtjfklfmfeghjnabAid.TyAt.drewN | apply Go.Proofs.YtjfklfmfeghjnabAid.TyAt.drew))) (by decide) (by decide) _ | refine Go.Proofs.YtjfklfmfeghjnabAid.RunsM.farT (t := 104) (a := gb144) ?_ (by (with_reducible repeat (first | exact Go.Proofs.YtjfklfmfeghjnabAid.TyAt.mk BK144.out | apply Go.Proofs.YtjfklfmfeghjnabAid.TyAt.set | apply Go.Proofs.YtjfklfmfeghjnabAid.TyAt.alloc | apply Go.Proofs.YtjfklfmfeghjnabAid.TyAt.drewN | apply Go.Proofs.YtjfklfmfeghjnabAid.TyAt.drew))) (by decide) (by decide) _) | exact HI141.out)) (by (with_reducible repeat (first | apply Kd.R_alloc | apply Kd.R_drewN | apply Kd.R_drew)); exact HO152.out) (by decide)) hk (fun _ h => h.2)) (fun _ h => h.1))
                    have n3_ := Aside0.mk (hb)
                    have n4_ := Aside0.mk (hi)
                    clear BK143
                    clear BK144
                    clear HO152
                    clear HB
                    clear HI141
                    have BK143 := n0_
                    have BK144 := n1_
                    have HO152 := n2_
                    have HB := n3_
                    have HI141 := n4_
                    clear n0_ n1_ n2_ n3_ n4_
                    (try clear hb)
                    (try clear hb2)
                    (try clear hk)
                    (try clear hi)
                    refine hK.out _ _ ⟨(blk_cell BK144.out 0).trans rfl, (blk_cell BK144.out 1).trans rfl⟩ (fun hHeld => ?_)
                    clear hK K
                    refine pure_ (i := 7) (N := some 4) (v := ?_) (a' := ?_) #[true, true, true, true, true, true, true, true] rfl rfl (any_of HT_.out (by kernel_rfl)) (fun _ _ _ h => h) (Or.inl ⟨by rfl, ?_⟩) ?_ ?_
                    rotate_left
                    · intro w'
                      go_simp
                      with_reducible rfl
                    rotate_left
                    · simp only [Act.put, List.setIfInBounds_toArray, List.set_cons_zero, List.set_cons_succ, i64_w, i32_w]
                      rfl
                    refine done_ (done_of HT_.out (by kernel_rfl)) ?_
                    obtain ⟨Ao40, co40, eo40⟩ := Kd.R_slice HO152.out
                    subst eo40
                    have p154 : 0 ≤ ((x4_1.length : Int) : Int) := of_decide_eq_true (by first | (with_reducible assumption) | assumption)
                    have q154 : (x4_1.length : Int) < (y150.length : Int) := of_decide_eq_true (by first | (with_reducible assumption) | assumption)
                    obtain ⟨ad154, e154, hx154_0⟩ := Kd.at_int (Kd.R_reads' HO152.out).2.2 (x4_1.length : Int) p154 q154
                    cases e154
                    (try simp only [Go.IntWalk.toNatUp] at hx154_0)
                    replace p154 := eq_true p154
                    replace q154 := eq_true q154
                    have p27 : 0 ≤ ((x4_1.length : Int) : Int) := of_decide_eq_true (by first | (with_reducible assumption) | assumption)
                    have q27 : ((x4_1.length : Int) : Int) < ((y150.length : Int) : Int) := of_decide_eq_true (by first | (with_reducible assumption) | assumption)
                    obtain ⟨go27, co27, eo27, gb27, gl27, cl27, HG27⟩ := Kd.R_form HO152.out (by omega)
                    (first | cases eo27 | (injection eo27 with ea_ en_ ec_; (first | subst ea_ | (injection ea_ with ea_; subst ea_)); subst ec_; clear en_))
                    have GB27 := Aside0.mk gb27
                    have GG27 := Aside0.mk HG27
                    clear gb27 gl27 HG27
                    (first | simp only [add_plain] at hx154_0 | skip)
                    obtain ⟨hx27_0, hf27_0⟩ := Kd.R_celln 0 HO152.out ((x4_1.length : Int) : Int) p27 q27
                    replace p27 := eq_true p27
                    replace q27 := eq_true q27
                    obtain ⟨hy41_, hz41_⟩ := Kd.R_celln 0 HO152.out ((x4_1.length : Int) : Int) (of_decide_eq_true (by first | (with_reducible assumption) | assumption)) (of_decide_eq_true (by first | (with_reducible assumption) | assumption))
                    (try simp only [Go.IntWalk.toNatUp] at hy41_ hz41_)
                    have HP41 := Kd.R_putg HO152.out ((x4_1.length : Int) : Int) (wrap64 ((rd y150 (x4_1.length : Int)) + 1))
                    try go_wp2_with (first | ((with_reducible refine gate_store (t := 3) (p := 44) rfl ?_); refine store_event (t := 3) (p := 44) (v := ?vo_w42) (w1 := (w39.setCell ⟨go27, ((x4_1.length : Int) : Int).toNat, none⟩ (.int .i64 (wrap64 ((rd y150 (x4_1.length : Int)) + 1))))) ?hg ?ho ?hn ?hr ?_; (case ho => rfl); (case hg => rfl); (case hn => rfl); (case hr => first | (go_simp; done) | (go_simp; rfl)); intro w42 hw; have hg : w39.grownBy w42 (some go27) := (by rw [hw]; exact HP41.2); have hp_ : Kd.R (Kd.int .i64) 3 w42 w.heap.size (fun _ => True) (.slice (some ⟨go27, 0, none⟩) y150.length co40) y155 := (by rw [hw, Ny155.out]; exact HP41.1); clear HP41; have n0_ := Aside0.mk (Go.Proofs.YtjfklfmfeghjnabAid.RunsM.grown (by repeat (first | (with_reducible first | exact HI141.out | apply Go.Proofs.YtjfklfmfeghjnabAid.RunsM.alloc | apply Go.Proofs.YtjfklfmfeghjnabAid.RunsM.drewN | apply Go.Proofs.YtjfklfmfeghjnabAid.RunsM.drew | apply Go.Proofs.YtjfklfmfeghjnabAid.RunsM.set_0 | refine Go.Proofs.YtjfklfmfeghjnabAid.RunsM.farT (t := 61) (a := gb143) ?_ (by (with_reducible repeat (first | exact Go.Proofs.YtjfklfmfeghjnabAid.TyAt.mk BK143.out | apply Go.Proofs.YtjfklfmfeghjnabAid.TyAt.set | apply Go.Proofs.YtjfklfmfeghjnabAid.TyAt.alloc | apply Go.Proofs.YtjfklfmfeghjnabAid.TyAt.drewN | apply Go.Proofs.YtjfklfmfeghjnabAid.TyAt.drew))) (by decide) (by decide) _ | refine Go.Proofs.YtjfklfmfeghjnabAid.RunsM.farT (t := 104) (a := gb144) ?_ (by (with_reducible repeat (first | exact Go.Proofs.YtjfklfmfeghjnabAid.TyAt.mk BK144.out | apply Go.Proofs.YtjfklfmfeghjnabAid.TyAt.set | apply Go.Proofs.YtjfklfmfeghjnabAid.TyAt.alloc | apply Go.Proofs.YtjfklfmfeghjnabAid.TyAt.drewN | apply Go.Proofs.YtjfklfmfeghjnabAid.TyAt.drew))) (by decide) (by decide) _) | exact HI141.out)) hg (Go.Proofs.YtjfklfmfeghjnabAid.RunsM.own_ne HI141.out HO152.out (by decide))); have n1_ := Aside0.mk (blk_grown (g := gb143) (o := .cells #[.int .i64 ((rd_T61 l0 x13_1).f0), .slice A142_1 ((rd_T61 l0 x13_1).f1).length c142_1] 61 (0, 0)) (by (with_reducible repeat (first | refine blk_drewN ?_ _ | refine blk_drew ?_ | refine blk_alloc ?_ _)); exact BK143.out) hg (Kd.R_ne HO152.out BK143.out (by decide))); have n2_ := Aside0.mk (blk_grown (g := gb144) (o := .cells #[.int .i64 ((rd_T61 l0 x13_1).f0), .int .i64 (((rd_T61 l0 x13_1).f1).length : Int)] 104 (0, 0)) (by (with_reducible repeat (first | refine blk_drewN ?_ _ | refine blk_drew ?_ | refine blk_alloc ?_ _)); exact BK144.out) hg (Kd.R_ne HO152.out BK144.out (by decide))); have n3_ := Aside0.mk (hp_); have n4_ := Aside0.mk ((by rw [hw]; exact below_set (HB.out) GB27.out : Below w.heap.size w w42)); clear HI141; clear BK143; clear BK144; clear HO152; clear HB; have HI141 := n0_; have BK143 := n1_; have BK144 := n2_; have HO152 := n3_; have HB := n4_; clear n0_ n1_ n2_ n3_ n4_; clear hg hw hp_))
                    go_roundg k1
                    case measure => have := HK1.out; omega
                    case rel => exact ⟨(y155), (wrap64 (x13_1 + 1)), (t153), (by first | rfl | (simp; done) | (simp [*]; done)), H', ⟨by have := HK1.out; omega⟩, ⟨by (with_reducible repeat (first | apply Kd.R_alloc | apply Kd.R_drewN | apply Kd.R_drew)); exact HO152.out⟩, ⟨by repeat (first | (with_reducible first | exact HI141.out | apply Go.Proofs.YtjfklfmfeghjnabAid.RunsM.alloc | apply Go.Proofs.YtjfklfmfeghjnabAid.RunsM.drewN | apply Go.Proofs.YtjfklfmfeghjnabAid.RunsM.drew | apply Go.Proofs.YtjfklfmfeghjnabAid.RunsM.set_0 | refine Go.Proofs.YtjfklfmfeghjnabAid.RunsM.farT (t := 61) (a := gb143) ?_ (by (with_reducible repeat (first | exact Go.Proofs.YtjfklfmfeghjnabAid.TyAt.mk BK143.out | apply Go.Proofs.YtjfklfmfeghjnabAid.TyAt.set | apply Go.Proofs.YtjfklfmfeghjnabAid.TyAt.alloc | apply Go.Proofs.YtjfklfmfeghjnabAid.TyAt.drewN | apply Go.Proofs.YtjfklfmfeghjnabAid.TyAt.drew))) (by decide) (by decide) _ | refine Go.Proofs.YtjfklfmfeghjnabAid.RunsM.farT (t := 104) (a := gb144) ?_ (by (with_reducible repeat (first | exact Go.Proofs.YtjfklfmfeghjnabAid.TyAt.mk BK144.out | apply Go.Proofs.YtjfklfmfeghjnabAid.TyAt.set | apply Go.Proofs.YtjfklfmfeghjnabAid.TyAt.alloc | apply Go.Proofs.YtjfklfmfeghjnabAid.TyAt.drewN | apply Go.Proofs.YtjfklfmfeghjnabAid.TyAt.drew))) (by decide) (by decide) _) | exact HI141.out)⟩, ⟨by repeat (first | (with_reducible first | exact HB.out | apply below_alloc | apply pw_below_drewN | apply below_drew1 | refine below_set ?_ (Go.Proofs.YtjfklfmfeghjnabAid.RunsM.ge HI141.out) | refine below_set ?_ GE143.out | refine below_set ?_ GE144.out) | exact HB.out)⟩⟩
                  · rw [if_neg c26] at H
                    exact absurd H (by simp)
                · rw [if_neg c25] at H
                  exact absurd H (by simp)
              · rw [if_neg c23] at H
                exact absurd H (by simp)
          · rw [if_neg c6] at H
            exact absurd H (by simp)
        · rw [if_neg c5] at H
          exact absurd H (by simp)
      · rw [if_neg c4] at H
        have c4b0 : decide (x13_1 < (l0.length : Int)) = false := decide_eq_false c4
        clear c4
        obtain rfl := Option.some.inj H
        go_wp2
        go_ret
        exact ⟨_, by first | rfl | (simp [errW_none, errW_some] <;> rfl) | (simp [*, errW_none, errW_some] <;> rfl), by (with_reducible repeat (first | apply Kd.R_alloc | apply Kd.R_drewN | apply Kd.R_drew)); exact HO_4.out, by repeat (first | (with_reducible first | exact HB.out | apply below_alloc | apply pw_below_drewN | apply below_drew1 | refine below_set ?_ (Go.Proofs.YtjfklfmfeghjnabAid.RunsM.ge HI141.out)) | exact HB.out)⟩

/-! ### tachographref13_Runs: function 28 -/
mutual
def tachographref13_Runs.l0 : Nat → List (S61) → List Int → Int → Option (List Int)
  | 0, _, _, _ => none
  | k + 1, x0, x3, x4 => if x4 < (x0.length : Int) then (tachographref13_Runs.l1 k x0 x3 x4 0 true 0) else (some x3)
def tachographref13_Runs.l1 : Nat → List (S61) → List Int → Int → Int → Bool → Int → Option (List Int)
  | 0, _, _, _, _, _, _ => none
  | k + 1, x0, x3, x4, x5, x6, x7 => if x7 < (x0.length : Int) then (if 0 ≤ x7 then (if 0 ≤ x4 then (if x4 < (x0.length : Int) then (if ((rd_T61 x0 x7).f0) = ((rd_T61 x0 x4).f0) then (if (((rd_T61 x0 x7).f1).length : Int) = (((rd_T61 x0 x4).f1).length : Int) then (if x6 = true then (tachographref13_Runs.l1 k x0 x3 x4 (wrap64 (x5 + 1)) (decide (x7 ≥ x4)) (wrap64 (x7 + 1))) else (tachographref13_Runs.l1 k x0 x3 x4 (wrap64 (x5 + 1)) false (wrap64 (x7 + 1)))) else (tachographref13_Runs.l1 k x0 x3 x4 x5 x6 (wrap64 (x7 + 1)))) else (tachographref13_Runs.l1 k x0 x3 x4 x5 x6 (wrap64 (x7 + 1)))) else (none)) else (none)) else (none)) else (if x6 = true then (if x3.length < 17592186044416 then (tachographref13_Runs.l0 k x0 (x3 ++ [x5]) (wrap64 (x4 + 1))) else (none)) else (tachographref13_Runs.l0 k x0 x3 (wrap64 (x4 + 1))))
end
def tachographref13_Runs.f (k : Nat) (l0 : List (S61)) : Option (List Int) := tachographref13_Runs.l0 k l0 (([] : List Int)) 0
theorem tachographref13_Runs.mono_l : ∀ k, (∀ y0 y1 y2, LeO (tachographref13_Runs.l0 k y0 y1 y2) (tachographref13_Runs.l0 (k + 1) y0 y1 y2)) ∧ (∀ y0 y1 y2 y3 y4 y5, LeO (tachographref13_Runs.l1 k y0 y1 y2 y3 y4 y5) (tachographref13_Runs.l1 (k + 1) y0 y1 y2 y3 y4 y5))
  | 0 => ⟨fun _ _ _ r h => by simp [tachographref13_Runs.l0] at h, fun _ _ _ _ _ _ r h => by simp [tachographref13_Runs.l1] at h⟩
  | k + 1 => by
    obtain ⟨ih0, ih1⟩ := tachographref13_Runs.mono_l k
    refine ⟨?_, ?_⟩
    · intro y0 y1 y2
      unfold tachographref13_Runs.l0
      repeat' first
      | (with_reducible exact ih0 _ _ _)
      | (with_reducible exact ih1 _ _ _ _ _ _)
      | (with_reducible exact LeO.refl _)
      | (with_reducible exact LeO.none _)
      | (with_reducible refine LeO.ite ?_ ?_)
      | (with_reducible refine LeO.bind ?_ (fun _ => ?_))
      | exact ih0 _ _ _
      | exact ih1 _ _ _ _ _ _
      | exact LeO.none _
      | refine LeO.ite ?_ ?_
      | refine LeO.bind ?_ (fun _ => ?_)
    · intro y0 y1 y2 y3 y4 y5
      unfold tachographref13_Runs.l1
      repeat' first
      | (with_reducible exact ih0 _ _ _)
      | (with_reducible exact ih1 _ _ _ _ _ _)
      | (with_reducible exact LeO.refl _)
      | (with_reducible exact LeO.none _)
      | (with_reducible refine LeO.ite ?_ ?_)
      | (with_reducible refine LeO.bind ?_ (fun _ => ?_))
      | exact ih0 _ _ _
      | exact ih1 _ _ _ _ _ _
      | exact LeO.none _
      | refine LeO.ite ?_ ?_
      | refine LeO.bind ?_ (fun _ => ?_)
theorem tachographref13_Runs.mono : ∀ a0 k, LeO (tachographref13_Runs.f k a0) (tachographref13_Runs.f (k + 1) a0) := by
  intro a0 k
  obtain ⟨ih0, ih1⟩ := tachographref13_Runs.mono_l k
  unfold tachographref13_Runs.f
  repeat' first
      | (with_reducible exact ih0 _ _ _)
      | (with_reducible exact ih1 _ _ _ _ _ _)
      | (with_reducible exact LeO.refl _)
      | (with_reducible exact LeO.none _)
      | (with_reducible refine LeO.ite ?_ ?_)
      | (with_reducible refine LeO.bind ?_ (fun _ => ?_))
      | exact ih0 _ _ _
      | exact ih1 _ _ _ _ _ _
      | exact LeO.none _
      | refine LeO.ite ?_ ?_
      | refine LeO.bind ?_ (fun _ => ?_)
set_option maxHeartbeats 8000000 in
set_option maxRecDepth 100000 in
theorem tachographref13_Runs.calls (k : Nat) (A0 : Option Addr) (c0 : Nat) (l0 : List (S61)) (r : List Int) (w : World) (hr0 : Kd.C k61 w A0 l0.length l0) (hc0 : l0.length ≤ c0) (h : tachographref13_Runs.f k l0 = some r) :
    Calls Try.prog 28 #[.slice A0 l0.length c0] w fun e w' => ∃ v0_ : Value, e = .returned (v0_) ∧ Kd.R (Kd.int .i64) 3 w' w.heap.size (fun _ => True) v0_ r ∧ Below w.heap.size w w' := by
  have HR0 := Aside0.mk hr0
  have HC0 := Aside0.mk hc0
  clear hr0 hc0
  have HB := Aside0.mk (Below.refl w.heap.size w)
  have H : (tachographref13_Runs.l0 k l0 (([] : List Int)) 0) = some r := h
  clear h
  obtain ⟨y156, hy156⟩ : ∃ y_ : List Int, y_ = (([] : List Int)) := ⟨_, rfl⟩
  replace H : (tachographref13_Runs.l0 k l0 y156 0) = some r := by first | (rw [hy156]; with_reducible exact H) | (have H2_ := (Option.bind_some _ _).symm.trans H; rw [hy156]; with_reducible exact H2_) | (have H2_ := (Option.bind_some _ _).symm.trans H; with_reducible exact H2_) | with_reducible exact H | (rw [hy156]; exact H) | exact H
  have Ny156 := Aside0.mk hy156
  clear hy156
  have H' := Aside0.mk H
  clear H
  go_enter Try.func28, Try.ntmps28
  go_wp2_with (first | ((with_reducible refine gate_dst (N := 8) rfl ?_); (try (refine gate_guard (by rfl) ?_; dsimp only)); refine Kd.R_lit (Kd.int .i64) _ 3 ?hg (N := 8) ?hd (xs := ([] : List Int)) (inner := []) (ok := fun _ => True) (okp := fun _ => True) ?hr ?hp (fun _ hk => hk) trivial (Below.refl _ _) (Nat.le_refl _) (by simp) ?_; (case hd => rfl); (case hg => rfl); (case hr => first | (go_simp; done) | (go_simp; rfl)); (case hp => exact (Reps.none _ _)); intro v157 w2 ho3 hb hg_ hnew_; clear hg_ hnew_; (first | rw [← Ny156.out] at ho3 | (simp only [Int.reduceToNat] at ho3; rw [← Ny156.out] at ho3)); have n0_ := Aside0.mk (Kd.R_lower ho3 (below_size (by repeat (first | (with_reducible first | exact HB.out | apply below_alloc | apply pw_below_drewN | apply below_drew1) | exact HB.out)))); have n1_ := Aside0.mk (below_step (by repeat (first | (with_reducible first | exact HB.out | apply below_alloc | apply pw_below_drewN | apply below_drew1) | exact HB.out)) hb); clear HB; have HO158 := n0_; have HB := n1_; clear n0_ n1_; clear hb ho3))
  repeat (go_quiet (first | ((with_reducible refine gate_dst (N := 8) rfl ?_); (try (refine gate_guard (by rfl) ?_; dsimp only)); refine Kd.R_lit (Kd.int .i64) _ 3 ?hg (N := 8) ?hd (xs := ([] : List Int)) (inner := []) (ok := fun _ => True) (okp := fun _ => True) ?hr ?hp (fun _ hk => hk) trivial (Below.refl _ _) (Nat.le_refl _) (by simp) ?_; (case hd => rfl); (case hg => rfl); (case hr => first | (go_simp; done) | (go_simp; rfl)); (case hp => exact (Reps.none _ _)); intro v157 w2 ho3 hb hg_ hnew_; clear hg_ hnew_; (first | rw [← Ny156.out] at ho3 | (simp only [Int.reduceToNat] at ho3; rw [← Ny156.out] at ho3)); have n0_ := Aside0.mk (Kd.R_lower ho3 (below_size (by repeat (first | (with_reducible first | exact HB.out | apply below_alloc | apply pw_below_drewN | apply below_drew1) | exact HB.out)))); have n1_ := Aside0.mk (below_step (by repeat (first | (with_reducible first | exact HB.out | apply below_alloc | apply pw_below_drewN | apply below_drew1) | exact HB.out)) hb); clear HB; have HO158 := n0_; have HB := n1_; clear n0_ n1_; clear hb ho3)); try go_wp2_with (first | ((with_reducible refine gate_dst (N := 8) rfl ?_); (try (refine gate_guard (by rfl) ?_; dsimp only)); refine Kd.R_lit (Kd.int .i64) _ 3 ?hg (N := 8) ?hd (xs := ([] : List Int)) (inner := []) (ok := fun _ => True) (okp := fun _ => True) ?hr ?hp (fun _ hk => hk) trivial (Below.refl _ _) (Nat.le_refl _) (by simp) ?_; (case hd => rfl); (case hg => rfl); (case hr => first | (go_simp; done) | (go_simp; rfl)); (case hp => exact (Reps.none _ _)); intro v157 w2 ho3 hb hg_ hnew_; clear hg_ hnew_; (first | rw [← Ny156.out] at ho3 | (simp only [Int.reduceToNat] at ho3; rw [← Ny156.out] at ho3)); have n0_ := Aside0.mk (Kd.R_lower ho3 (below_size (by repeat (first | (with_reducible first | exact HB.out | apply below_alloc | apply pw_below_drewN | apply below_drew1) | exact HB.out)))); have n1_ := Aside0.mk (below_step (by repeat (first | (with_reducible first | exact HB.out | apply below_alloc | apply pw_below_drewN | apply below_drew1) | exact HB.out)) hb); clear HB; have HO158 := n0_; have HB := n1_; clear n0_ n1_; clear hb ho3)))
  go_loopg [3, 4] k (fun kq v3 v4 w' => ∃ (x3_1 : List Int) (x4_1 : Int), v4 = .int .i64 x4_1 ∧ Aside0 (tachographref13_Runs.l0 kq l0 x3_1 x4_1 = some r) ∧ Aside0 (kq ≤ k) ∧ Aside0 (Kd.R (Kd.int .i64) 3 w' w.heap.size (fun _ => True) v3 x3_1) ∧ Aside0 (Below w.heap.size w w'))
  case atStart => exact ⟨(y156), (0), (by first | rfl | (simp; done) | (simp [*]; done)), H', ⟨Nat.le_refl _⟩, ⟨by (with_reducible repeat (first | apply Kd.R_alloc | apply Kd.R_drewN | apply Kd.R_drew)); exact HO158.out⟩, ⟨by repeat (first | (with_reducible first | exact HB.out | apply below_alloc | apply pw_below_drewN | apply below_drew1) | exact HB.out)⟩⟩
  case round =>
    clear H'
    try clear c2
    try clear p2
    obtain ⟨x3_1, x4_1, rfl, HA, HK1, HO_3, HB⟩ := hrel
    cases gk with
    | zero => exact absurd HA.out (by simp [tachographref13_Runs.l0])
    | succ k1 =>
      have H := HA.out
      clear HA
      simp only [tachographref13_Runs.l0] at H
      by_cases c4 : x4_1 < (l0.length : Int)
      · rw [if_pos c4] at H
        have c4b0 : decide (x4_1 < (l0.length : Int)) = true := decide_eq_true c4
        clear c4
        have H' := Aside0.mk H
        clear H
        go_wp2
        repeat (go_quiet (fail); try go_wp2)
        go_loopg [5, 6, 7] k1 (fun kq v5 v6 v7 w' => ∃ (x5_2 : Int) (x6_2 : Bool) (x7_2 : Int), v5 = .int .i64 x5_2 ∧ v6 = .bool x6_2 ∧ v7 = .int .i64 x7_2 ∧ Aside0 (tachographref13_Runs.l1 kq l0 x3_1 x4_1 x5_2 x6_2 x7_2 = some r) ∧ Aside0 (kq ≤ k1) ∧ Aside0 (Kd.R (Kd.int .i64) 3 w' w.heap.size (fun _ => True) u3 x3_1) ∧ Aside0 (Below w.heap.size w w'))
        case atStart => exact ⟨(0), (true), (0), (by first | rfl | (simp; done) | (simp [*]; done)), (by first | rfl | (simp; done) | (simp [*]; done)), (by first | rfl | (simp; done) | (simp [*]; done)), H', ⟨Nat.le_refl _⟩, ⟨by (with_reducible repeat (first | apply Kd.R_alloc | apply Kd.R_drewN | apply Kd.R_drew)); exact HO_3.out⟩, ⟨by repeat (first | (with_reducible first | exact HB.out | apply below_alloc | apply pw_below_drewN | apply below_drew1) | exact HB.out)⟩⟩
        case round =>
          clear H'
          try clear c2
          try clear p2
          try clear c4
          try clear c4b0
          try clear p2
          obtain ⟨x5_2, x6_2, x7_2, rfl, rfl, rfl, HA, HK2, HO_3, HB⟩ := hrel
          cases gk with
          | zero => exact absurd HA.out (by simp [tachographref13_Runs.l1])
          | succ k2 =>
            have H := HA.out
            clear HA
            simp only [tachographref13_Runs.l1] at H
            by_cases c5 : x7_2 < (l0.length : Int)
            · rw [if_pos c5] at H
              have c5b0 : decide (x7_2 < (l0.length : Int)) = true := decide_eq_true c5
              clear c5
              by_cases c6 : 0 ≤ x7_2
              · rw [if_pos c6] at H
                have c6b0 : decide (0 ≤ x7_2) = true := decide_eq_true c6
                clear c6
                by_cases c7 : 0 ≤ x4_1
                · rw [if_pos c7] at H
                  have c7b0 : decide (0 ≤ x4_1) = true := decide_eq_true c7
                  clear c7
                  by_cases c8 : x4_1 < (l0.length : Int)
                  · rw [if_pos c8] at H
                    have c8b0 : decide (x4_1 < (l0.length : Int)) = true := decide_eq_true c8
                    clear c8
                    by_cases c9 : ((rd_T61 l0 x7_2).f0) = ((rd_T61 l0 x4_1).f0)
                    · rw [if_pos c9] at H
                      have c9b0 : (((rd_T61 l0 x7_2).f0) == ((rd_T61 l0 x4_1).f0)) = true := beq_iff_eq.mpr c9
                      have c9b1 : (((rd_T61 l0 x7_2).f0) != ((rd_T61 l0 x4_1).f0)) = false := bne_eq_false_iff_eq.mpr c9
                      clear c9
                      by_cases c10 : (((rd_T61 l0 x7_2).f1).length : Int) = (((rd_T61 l0 x4_1).f1).length : Int)
                      · rw [if_pos c10] at H
                        have c10b0 : ((((rd_T61 l0 x7_2).f1).length : Int) == (((rd_T61 l0 x4_1).f1).length : Int)) = true := beq_iff_eq.mpr c10
                        have c10b1 : ((((rd_T61 l0 x7_2).f1).length : Int) != (((rd_T61 l0 x4_1).f1).length : Int)) = false := bne_eq_false_iff_eq.mpr c10
                        have c10b2 : (((rd_T61 l0 x7_2).f1).length == ((rd_T61 l0 x4_1).f1).length) = true := by first | simpa using c10 | (simp at c10 ⊢; omega)
                        clear c10
                        by_cases c11 : x6_2 = true
                        · subst c11
                          have H1 : (tachographref13_Runs.l1 k2 l0 x3_1 x4_1 (wrap64 (x5_2 + 1)) (decide (x7_2 ≥ x4_1)) (wrap64 (x7_2 + 1))) = some r := by rw [if_pos rfl] at H; exact H
                          clear H
                          have H := H1
                          clear H1
                          have H' := Aside0.mk H
                          clear H
                          have p159 : 0 ≤ (x7_2 : Int) := of_decide_eq_true (by first | (with_reducible assumption) | assumption)
                          have q159 : x7_2 < (l0.length : Int) := of_decide_eq_true (by first | (with_reducible assumption) | assumption)
                          obtain ⟨ad159, A159_1, c159_1, e159, hx159_0, hx159_1, hl159_1, hi159_1⟩ := at_T61 HR0.out x7_2 p159 q159
                          cases e159
                          replace hx159_0 := (HB.out.cell (World.block_lt_of_cell? w _ hx159_0)).trans hx159_0
                          replace hx159_1 := (HB.out.cell (World.block_lt_of_cell? w _ hx159_1)).trans hx159_1
                          have HR159_1 := Aside0.mk hi159_1
                          have HC159_1 := Aside0.mk hl159_1
                          clear hi159_1 hl159_1
                          replace p159 := eq_true p159
                          replace q159 := eq_true q159
                          have p160 : 0 ≤ (x4_1 : Int) := of_decide_eq_true (by first | (with_reducible assumption) | assumption)
                          have q160 : x4_1 < (l0.length : Int) := of_decide_eq_true (by first | (with_reducible assumption) | assumption)
                          obtain ⟨ad160, A160_1, c160_1, e160, hx160_0, hx160_1, hl160_1, hi160_1⟩ := at_T61 HR0.out x4_1 p160 q160
                          obtain rfl : ad159 = ad160 := (by injection e160)
                          replace hx160_0 := (HB.out.cell (World.block_lt_of_cell? w _ hx160_0)).trans hx160_0
                          replace hx160_1 := (HB.out.cell (World.block_lt_of_cell? w _ hx160_1)).trans hx160_1
                          have HR160_1 := Aside0.mk hi160_1
                          have HC160_1 := Aside0.mk hl160_1
                          clear hi160_1 hl160_1
                          replace p160 := eq_true p160
                          replace q160 := eq_true q160
                          have p161 : 0 ≤ (x7_2 : Int) := of_decide_eq_true (by first | (with_reducible assumption) | assumption)
                          have q161 : x7_2 < (l0.length : Int) := of_decide_eq_true (by first | (with_reducible assumption) | assumption)
                          obtain ⟨ad161, A161_1, c161_1, e161, hx161_0, hx161_1, hl161_1, hi161_1⟩ := at_T61 HR0.out x7_2 p161 q161
                          obtain rfl : ad159 = ad161 := (by injection e161)
                          replace hx161_0 := (HB.out.cell (World.block_lt_of_cell? w _ hx161_0)).trans hx161_0
                          replace hx161_1 := (HB.out.cell (World.block_lt_of_cell? w _ hx161_1)).trans hx161_1
                          have HR161_1 := Aside0.mk hi161_1
                          have HC161_1 := Aside0.mk hl161_1
                          clear hi161_1 hl161_1
                          replace p161 := eq_true p161
                          replace q161 := eq_true q161
                          have ea_ := Option.some.inj (hx159_1.symm.trans hx161_1)
                          injection ea_ with ea_ en_ ec_
                          subst ea_
                          subst ec_
                          clear en_
                          have p162 : 0 ≤ (x4_1 : Int) := of_decide_eq_true (by first | (with_reducible assumption) | assumption)
                          have q162 : x4_1 < (l0.length : Int) := of_decide_eq_true (by first | (with_reducible assumption) | assumption)
                          obtain ⟨ad162, A162_1, c162_1, e162, hx162_0, hx162_1, hl162_1, hi162_1⟩ := at_T61 HR0.out x4_1 p162 q162
                          obtain rfl : ad159 = ad162 := (by injection e162)
                          replace hx162_0 := (HB.out.cell (World.block_lt_of_cell? w _ hx162_0)).trans hx162_0
                          replace hx162_1 := (HB.out.cell (World.block_lt_of_cell? w _ hx162_1)).trans hx162_1
                          have HR162_1 := Aside0.mk hi162_1
                          have HC162_1 := Aside0.mk hl162_1
                          clear hi162_1 hl162_1
                          replace p162 := eq_true p162
                          replace q162 := eq_true q162
                          have ea_ := Option.some.inj (hx160_1.symm.trans hx162_1)
                          injection ea_ with ea_ en_ ec_
                          subst ea_
                          subst ec_
                          clear en_
                          go_wp2
                          repeat (go_quiet (fail); try go_wp2)
                          go_roundg k2
                          case measure => have := HK1.out; have := HK2.out; omega
                          case rel => exact ⟨(wrap64 (x5_2 + 1)), (decide (x7_2 ≥ x4_1)), (wrap64 (x7_2 + 1)), (by first | rfl | (simp; done) | (simp [*]; done)), (by first | rfl | (simp; done) | (simp [*]; done)), (by first | rfl | (simp; done) | (simp [*]; done)), H', ⟨by have := HK1.out; have := HK2.out; omega⟩, ⟨by (with_reducible repeat (first | apply Kd.R_alloc | apply Kd.R_drewN | apply Kd.R_drew)); exact HO_3.out⟩, ⟨by repeat (first | (with_reducible first | exact HB.out | apply below_alloc | apply pw_below_drewN | apply below_drew1) | exact HB.out)⟩⟩
                        · replace c11 := Bool.eq_false_iff.mpr c11
                          subst c11
                          have H1 : (tachographref13_Runs.l1 k2 l0 x3_1 x4_1 (wrap64 (x5_2 + 1)) false (wrap64 (x7_2 + 1))) = some r := by rw [if_neg (show ¬ (false = true) by decide)] at H; exact H
                          clear H
                          have H := H1
                          clear H1
                          have H' := Aside0.mk H
                          clear H
                          have p159 : 0 ≤ (x7_2 : Int) := of_decide_eq_true (by first | (with_reducible assumption) | assumption)
                          have q159 : x7_2 < (l0.length : Int) := of_decide_eq_true (by first | (with_reducible assumption) | assumption)
                          obtain ⟨ad159, A159_1, c159_1, e159, hx159_0, hx159_1, hl159_1, hi159_1⟩ := at_T61 HR0.out x7_2 p159 q159
                          cases e159
                          replace hx159_0 := (HB.out.cell (World.block_lt_of_cell? w _ hx159_0)).trans hx159_0
                          replace hx159_1 := (HB.out.cell (World.block_lt_of_cell? w _ hx159_1)).trans hx159_1
                          have HR159_1 := Aside0.mk hi159_1
                          have HC159_1 := Aside0.mk hl159_1
                          clear hi159_1 hl159_1
                          replace p159 := eq_true p159
                          replace q159 := eq_true q159
                          have p160 : 0 ≤ (x4_1 : Int) := of_decide_eq_true (by first | (with_reducible assumption) | assumption)
                          have q160 : x4_1 < (l0.length : Int) := of_decide_eq_true (by first | (with_reducible assumption) | assumption)
                          obtain ⟨ad160, A160_1, c160_1, e160, hx160_0, hx160_1, hl160_1, hi160_1⟩ := at_T61 HR0.out x4_1 p160 q160
                          obtain rfl : ad159 = ad160 := (by injection e160)
                          replace hx160_0 := (HB.out.cell (World.block_lt_of_cell? w _ hx160_0)).trans hx160_0
                          replace hx160_1 := (HB.out.cell (World.block_lt_of_cell? w _ hx160_1)).trans hx160_1
                          have HR160_1 := Aside0.mk hi160_1
                          have HC160_1 := Aside0.mk hl160_1
                          clear hi160_1 hl160_1
                          replace p160 := eq_true p160
                          replace q160 := eq_true q160
                          have p161 : 0 ≤ (x7_2 : Int) := of_decide_eq_true (by first | (with_reducible assumption) | assumption)
                          have q161 : x7_2 < (l0.length : Int) := of_decide_eq_true (by first | (with_reducible assumption) | assumption)
                          obtain ⟨ad161, A161_1, c161_1, e161, hx161_0, hx161_1, hl161_1, hi161_1⟩ := at_T61 HR0.out x7_2 p161 q161
                          obtain rfl : ad159 = ad161 := (by injection e161)
                          replace hx161_0 := (HB.out.cell (World.block_lt_of_cell? w _ hx161_0)).trans hx161_0
                          replace hx161_1 := (HB.out.cell (World.block_lt_of_cell? w _ hx161_1)).trans hx161_1
                          have HR161_1 := Aside0.mk hi161_1
                          have HC161_1 := Aside0.mk hl161_1
                          clear hi161_1 hl161_1
                          replace p161 := eq_true p161
                          replace q161 := eq_true q161
                          have ea_ := Option.some.inj (hx159_1.symm.trans hx161_1)
                          injection ea_ with ea_ en_ ec_
                          subst ea_
                          subst ec_
                          clear en_
                          have p162 : 0 ≤ (x4_1 : Int) := of_decide_eq_true (by first | (with_reducible assumption) | assumption)
                          have q162 : x4_1 < (l0.length : Int) := of_decide_eq_true (by first | (with_reducible assumption) | assumption)
                          obtain ⟨ad162, A162_1, c162_1, e162, hx162_0, hx162_1, hl162_1, hi162_1⟩ := at_T61 HR0.out x4_1 p162 q162
                          obtain rfl : ad159 = ad162 := (by injection e162)
                          replace hx162_0 := (HB.out.cell (World.block_lt_of_cell? w _ hx162_0)).trans hx162_0
                          replace hx162_1 := (HB.out.cell (World.block_lt_of_cell? w _ hx162_1)).trans hx162_1
                          have HR162_1 := Aside0.mk hi162_1
                          have HC162_1 := Aside0.mk hl162_1
                          clear hi162_1 hl162_1
                          replace p162 := eq_true p162
                          replace q162 := eq_true q162
                          have ea_ := Option.some.inj (hx160_1.symm.trans hx162_1)
                          injection ea_ with ea_ en_ ec_
                          subst ea_
                          subst ec_
                          clear en_
                          go_wp2
                          repeat (go_quiet (fail); try go_wp2)
                          go_roundg k2
                          case measure => have := HK1.out; have := HK2.out; omega
                          case rel => exact ⟨(wrap64 (x5_2 + 1)), (false), (wrap64 (x7_2 + 1)), (by first | rfl | (simp; done) | (simp [*]; done)), (by first | rfl | (simp; done) | (simp [*]; done)), (by first | rfl | (simp; done) | (simp [*]; done)), H', ⟨by have := HK1.out; have := HK2.out; omega⟩, ⟨by (with_reducible repeat (first | apply Kd.R_alloc | apply Kd.R_drewN | apply Kd.R_drew)); exact HO_3.out⟩, ⟨by repeat (first | (with_reducible first | exact HB.out | apply below_alloc | apply pw_below_drewN | apply below_drew1) | exact HB.out)⟩⟩
                      · rw [if_neg c10] at H
                        have c10b0 : ((((rd_T61 l0 x7_2).f1).length : Int) == (((rd_T61 l0 x4_1).f1).length : Int)) = false := beq_eq_false_iff_ne.mpr c10
                        have c10b1 : ((((rd_T61 l0 x7_2).f1).length : Int) != (((rd_T61 l0 x4_1).f1).length : Int)) = true := bne_iff_ne.mpr c10
                        have c10b2 : (((rd_T61 l0 x7_2).f1).length == ((rd_T61 l0 x4_1).f1).length) = false := by first | simpa using c10 | (simp at c10 ⊢; omega)
                        have H' := Aside0.mk H
                        clear H
                        have p159 : 0 ≤ (x7_2 : Int) := of_decide_eq_true (by first | (with_reducible assumption) | assumption)
                        have q159 : x7_2 < (l0.length : Int) := of_decide_eq_true (by first | (with_reducible assumption) | assumption)
                        obtain ⟨ad159, A159_1, c159_1, e159, hx159_0, hx159_1, hl159_1, hi159_1⟩ := at_T61 HR0.out x7_2 p159 q159
                        cases e159
                        replace hx159_0 := (HB.out.cell (World.block_lt_of_cell? w _ hx159_0)).trans hx159_0
                        replace hx159_1 := (HB.out.cell (World.block_lt_of_cell? w _ hx159_1)).trans hx159_1
                        have HR159_1 := Aside0.mk hi159_1
                        have HC159_1 := Aside0.mk hl159_1
                        clear hi159_1 hl159_1
                        replace p159 := eq_true p159
                        replace q159 := eq_true q159
                        have p160 : 0 ≤ (x4_1 : Int) := of_decide_eq_true (by first | (with_reducible assumption) | assumption)
                        have q160 : x4_1 < (l0.length : Int) := of_decide_eq_true (by first | (with_reducible assumption) | assumption)
                        obtain ⟨ad160, A160_1, c160_1, e160, hx160_0, hx160_1, hl160_1, hi160_1⟩ := at_T61 HR0.out x4_1 p160 q160
                        obtain rfl : ad159 = ad160 := (by injection e160)
                        replace hx160_0 := (HB.out.cell (World.block_lt_of_cell? w _ hx160_0)).trans hx160_0
                        replace hx160_1 := (HB.out.cell (World.block_lt_of_cell? w _ hx160_1)).trans hx160_1
                        have HR160_1 := Aside0.mk hi160_1
                        have HC160_1 := Aside0.mk hl160_1
                        clear hi160_1 hl160_1
                        replace p160 := eq_true p160
                        replace q160 := eq_true q160
                        have p161 : 0 ≤ (x7_2 : Int) := of_decide_eq_true (by first | (with_reducible assumption) | assumption)
                        have q161 : x7_2 < (l0.length : Int) := of_decide_eq_true (by first | (with_reducible assumption) | assumption)
                        obtain ⟨ad161, A161_1, c161_1, e161, hx161_0, hx161_1, hl161_1, hi161_1⟩ := at_T61 HR0.out x7_2 p161 q161
                        obtain rfl : ad159 = ad161 := (by injection e161)
                        replace hx161_0 := (HB.out.cell (World.block_lt_of_cell? w _ hx161_0)).trans hx161_0
                        replace hx161_1 := (HB.out.cell (World.block_lt_of_cell? w _ hx161_1)).trans hx161_1
                        have HR161_1 := Aside0.mk hi161_1
                        have HC161_1 := Aside0.mk hl161_1
                        clear hi161_1 hl161_1
                        replace p161 := eq_true p161
                        replace q161 := eq_true q161
                        have ea_ := Option.some.inj (hx159_1.symm.trans hx161_1)
                        injection ea_ with ea_ en_ ec_
                        subst ea_
                        subst ec_
                        clear en_
                        have p162 : 0 ≤ (x4_1 : Int) := of_decide_eq_true (by first | (with_reducible assumption) | assumption)
                        have q162 : x4_1 < (l0.length : Int) := of_decide_eq_true (by first | (with_reducible assumption) | assumption)
                        obtain ⟨ad162, A162_1, c162_1, e162, hx162_0, hx162_1, hl162_1, hi162_1⟩ := at_T61 HR0.out x4_1 p162 q162
                        obtain rfl : ad159 = ad162 := (by injection e162)
                        replace hx162_0 := (HB.out.cell (World.block_lt_of_cell? w _ hx162_0)).trans hx162_0
                        replace hx162_1 := (HB.out.cell (World.block_lt_of_cell? w _ hx162_1)).trans hx162_1
                        have HR162_1 := Aside0.mk hi162_1
                        have HC162_1 := Aside0.mk hl162_1
                        clear hi162_1 hl162_1
                        replace p162 := eq_true p162
                        replace q162 := eq_true q162
                        have ea_ := Option.some.inj (hx160_1.symm.trans hx162_1)
                        injection ea_ with ea_ en_ ec_
                        subst ea_
                        subst ec_
                        clear en_
                        go_wp2
                        repeat (go_quiet (fail); try go_wp2)
                        go_roundg k2
                        case measure => have := HK1.out; have := HK2.out; omega
                        case rel => exact ⟨(x5_2), (x6_2), (wrap64 (x7_2 + 1)), (by first | rfl | (simp; done) | (simp [*]; done)), (by first | rfl | (simp; done) | (simp [*]; done)), (by first | rfl | (simp; done) | (simp [*]; done)), H', ⟨by have := HK1.out; have := HK2.out; omega⟩, ⟨by (with_reducible repeat (first | apply Kd.R_alloc | apply Kd.R_drewN | apply Kd.R_drew)); exact HO_3.out⟩, ⟨by repeat (first | (with_reducible first | exact HB.out | apply below_alloc | apply pw_below_drewN | apply below_drew1) | exact HB.out)⟩⟩
                    · rw [if_neg c9] at H
                      have c9b0 : (((rd_T61 l0 x7_2).f0) == ((rd_T61 l0 x4_1).f0)) = false := beq_eq_false_iff_ne.mpr c9
                      have c9b1 : (((rd_T61 l0 x7_2).f0) != ((rd_T61 l0 x4_1).f0)) = true := bne_iff_ne.mpr c9
                      have H' := Aside0.mk H
                      clear H
                      have p159 : 0 ≤ (x7_2 : Int) := of_decide_eq_true (by first | (with_reducible assumption) | assumption)
                      have q159 : x7_2 < (l0.length : Int) := of_decide_eq_true (by first | (with_reducible assumption) | assumption)
                      obtain ⟨ad159, A159_1, c159_1, e159, hx159_0, hx159_1, hl159_1, hi159_1⟩ := at_T61 HR0.out x7_2 p159 q159
                      cases e159
                      replace hx159_0 := (HB.out.cell (World.block_lt_of_cell? w _ hx159_0)).trans hx159_0
                      replace hx159_1 := (HB.out.cell (World.block_lt_of_cell? w _ hx159_1)).trans hx159_1
                      have HR159_1 := Aside0.mk hi159_1
                      have HC159_1 := Aside0.mk hl159_1
                      clear hi159_1 hl159_1
                      replace p159 := eq_true p159
                      replace q159 := eq_true q159
                      have p160 : 0 ≤ (x4_1 : Int) := of_decide_eq_true (by first | (with_reducible assumption) | assumption)
                      have q160 : x4_1 < (l0.length : Int) := of_decide_eq_true (by first | (with_reducible assumption) | assumption)
                      obtain ⟨ad160, A160_1, c160_1, e160, hx160_0, hx160_1, hl160_1, hi160_1⟩ := at_T61 HR0.out x4_1 p160 q160
                      obtain rfl : ad159 = ad160 := (by injection e160)
                      replace hx160_0 := (HB.out.cell (World.block_lt_of_cell? w _ hx160_0)).trans hx160_0
                      replace hx160_1 := (HB.out.cell (World.block_lt_of_cell? w _ hx160_1)).trans hx160_1
                      have HR160_1 := Aside0.mk hi160_1
                      have HC160_1 := Aside0.mk hl160_1
                      clear hi160_1 hl160_1
                      replace p160 := eq_true p160
                      replace q160 := eq_true q160
                      go_wp2
                      repeat (go_quiet (fail); try go_wp2)
                      go_roundg k2
                      case measure => have := HK1.out; have := HK2.out; omega
                      case rel => exact ⟨(x5_2), (x6_2), (wrap64 (x7_2 + 1)), (by first | rfl | (simp; done) | (simp [*]; done)), (by first | rfl | (simp; done) | (simp [*]; done)), (by first | rfl | (simp; done) | (simp [*]; done)), H', ⟨by have := HK1.out; have := HK2.out; omega⟩, ⟨by (with_reducible repeat (first | apply Kd.R_alloc | apply Kd.R_drewN | apply Kd.R_drew)); exact HO_3.out⟩, ⟨by repeat (first | (with_reducible first | exact HB.out | apply below_alloc | apply pw_below_drewN | apply below_drew1) | exact HB.out)⟩⟩
                  · rw [if_neg c8] at H
                    exact absurd H (by simp)
                · rw [if_neg c7] at H
                  exact absurd H (by simp)
              · rw [if_neg c6] at H
                exact absurd H (by simp)
            · rw [if_neg c5] at H
              have c5b0 : decide (x7_2 < (l0.length : Int)) = false := decide_eq_false c5
              clear c5
              by_cases c12 : x6_2 = true
              · subst c12
                have H1 : (if x3_1.length < 17592186044416 then (tachographref13_Runs.l0 k2 l0 (x3_1 ++ [x5_2]) (wrap64 (x4_1 + 1))) else (none)) = some r := by rw [if_pos rfl] at H; exact H
                clear H
                have H := H1
                clear H1
                by_cases c13 : x3_1.length < 17592186044416
                · rw [if_pos c13] at H
                  have LMc13 := Aside0.mk c13
                  clear c13
                  obtain ⟨y163, hy163⟩ : ∃ y_ : List Int, y_ = (x3_1 ++ [x5_2]) := ⟨_, rfl⟩
                  replace H : (tachographref13_Runs.l0 k2 l0 y163 (wrap64 (x4_1 + 1))) = some r := by first | (rw [hy163]; with_reducible exact H) | (have H2_ := (Option.bind_some _ _).symm.trans H; rw [hy163]; with_reducible exact H2_) | (have H2_ := (Option.bind_some _ _).symm.trans H; with_reducible exact H2_) | with_reducible exact H | (rw [hy163]; exact H) | exact H
                  have Ny163 := Aside0.mk hy163
                  clear hy163
                  have H' := Aside0.mk H
                  clear H
                  go_wp2_with (first | ((with_reducible refine gate_builtin (b := .append) (xs := #[.tmp 56, .tmp 58]) rfl ?_); (try (refine gate_guard (by rfl) ?_; dsimp only)); at_builtin; refine Kd.R_append (Kd.int .i64) (w0 := w) w.heap.size rfl (.tmp 56) (.tmp 58) 45 3 (.int .i64 0) 8 rfl Try.underlying45 info3 rfl (by decide) (by omega) u3 x3_1 x5_2 [.int .i64 x5_2] (fun _ => True) (fun _ => False) rfl rfl ?aP (fun _ hk => hk.elim) ?aF ?aO ?aB ?aS ?aL ?_; (case aP => exact rfl); (case aB => exact (by repeat (first | (with_reducible first | exact HB.out | apply below_alloc | apply pw_below_drewN | apply below_drew1) | exact HB.out))); (case aF => exact (fun _ _ => trivial)); (case aO => exact (by (with_reducible repeat (first | apply Kd.R_alloc | apply Kd.R_drewN | apply Kd.R_drew)); exact HO_3.out)); (case aS => exact (below_size (by repeat (first | (with_reducible first | exact HB.out | apply below_alloc | apply pw_below_drewN | apply below_drew1) | exact HB.out)))); (case aL => have := LMc13.out; omega); intro v164 w14 ho hb hg hat; rw [← Ny163.out] at ho; have n0_ := Aside0.mk (hb); have n1_ := Aside0.mk (ho); clear HB; clear HO_3; have HB := n0_; have HO165 := n1_; clear n0_ n1_; clear ho hb hg hat))
                  repeat (go_quiet (first | ((with_reducible refine gate_builtin (b := .append) (xs := #[.tmp 56, .tmp 58]) rfl ?_); (try (refine gate_guard (by rfl) ?_; dsimp only)); at_builtin; refine Kd.R_append (Kd.int .i64) (w0 := w) w.heap.size rfl (.tmp 56) (.tmp 58) 45 3 (.int .i64 0) 8 rfl Try.underlying45 info3 rfl (by decide) (by omega) u3 x3_1 x5_2 [.int .i64 x5_2] (fun _ => True) (fun _ => False) rfl rfl ?aP (fun _ hk => hk.elim) ?aF ?aO ?aB ?aS ?aL ?_; (case aP => exact rfl); (case aB => exact (by repeat (first | (with_reducible first | exact HB.out | apply below_alloc | apply pw_below_drewN | apply below_drew1) | exact HB.out))); (case aF => exact (fun _ _ => trivial)); (case aO => exact (by (with_reducible repeat (first | apply Kd.R_alloc | apply Kd.R_drewN | apply Kd.R_drew)); exact HO_3.out)); (case aS => exact (below_size (by repeat (first | (with_reducible first | exact HB.out | apply below_alloc | apply pw_below_drewN | apply below_drew1) | exact HB.out)))); (case aL => have := LMc13.out; omega); intro v164 w14 ho hb hg hat; rw [← Ny163.out] at ho; have n0_ := Aside0.mk (hb); have n1_ := Aside0.mk (ho); clear HB; clear HO_3; have HB := n0_; have HO165 := n1_; clear n0_ n1_; clear ho hb hg hat)); try go_wp2_with (first | ((with_reducible refine gate_builtin (b := .append) (xs := #[.tmp 56, .tmp 58]) rfl ?_); (try (refine gate_guard (by rfl) ?_; dsimp only)); at_builtin; refine Kd.R_append (Kd.int .i64) (w0 := w) w.heap.size rfl (.tmp 56) (.tmp 58) 45 3 (.int .i64 0) 8 rfl Try.underlying45 info3 rfl (by decide) (by omega) u3 x3_1 x5_2 [.int .i64 x5_2] (fun _ => True) (fun _ => False) rfl rfl ?aP (fun _ hk => hk.elim) ?aF ?aO ?aB ?aS ?aL ?_; (case aP => exact rfl); (case aB => exact (by repeat (first | (with_reducible first | exact HB.out | apply below_alloc | apply pw_below_drewN | apply below_drew1) | exact HB.out))); (case aF => exact (fun _ _ => trivial)); (case aO => exact (by (with_reducible repeat (first | apply Kd.R_alloc | apply Kd.R_drewN | apply Kd.R_drew)); exact HO_3.out)); (case aS => exact (below_size (by repeat (first | (with_reducible first | exact HB.out | apply below_alloc | apply pw_below_drewN | apply below_drew1) | exact HB.out)))); (case aL => have := LMc13.out; omega); intro v164 w14 ho hb hg hat; rw [← Ny163.out] at ho; have n0_ := Aside0.mk (hb); have n1_ := Aside0.mk (ho); clear HB; clear HO_3; have HB := n0_; have HO165 := n1_; clear n0_ n1_; clear ho hb hg hat)))
                  go_roundg k2
                  case measure => have := HK1.out; have := HK2.out; omega
                  case rel => exact ⟨(y163), (wrap64 (x4_1 + 1)), (by first | rfl | (simp; done) | (simp [*]; done)), H', ⟨by have := HK1.out; have := HK2.out; omega⟩, ⟨by (with_reducible repeat (first | apply Kd.R_alloc | apply Kd.R_drewN | apply Kd.R_drew)); exact HO165.out⟩, ⟨by repeat (first | (with_reducible first | exact HB.out | apply below_alloc | apply pw_below_drewN | apply below_drew1) | exact HB.out)⟩⟩
                · rw [if_neg c13] at H
                  exact absurd H (by simp)
              · replace c12 := Bool.eq_false_iff.mpr c12
                subst c12
                have H1 : (tachographref13_Runs.l0 k2 l0 x3_1 (wrap64 (x4_1 + 1))) = some r := by rw [if_neg (show ¬ (false = true) by decide)] at H; exact H
                clear H
                have H := H1
                clear H1
                have H' := Aside0.mk H
                clear H
                go_wp2
                repeat (go_quiet (fail); try go_wp2)
                go_roundg k2
                case measure => have := HK1.out; have := HK2.out; omega
                case rel => exact ⟨(x3_1), (wrap64 (x4_1 + 1)), (by first | rfl | (simp; done) | (simp [*]; done)), H', ⟨by have := HK1.out; have := HK2.out; omega⟩, ⟨by (with_reducible repeat (first | apply Kd.R_alloc | apply Kd.R_drewN | apply Kd.R_drew)); exact HO_3.out⟩, ⟨by repeat (first | (with_reducible first | exact HB.out | apply below_alloc | apply pw_below_drewN | apply below_drew1) | exact HB.out)⟩⟩
      · rw [if_neg c4] at H
        have c4b0 : decide (x4_1 < (l0.length : Int)) = false := decide_eq_false c4
        clear c4
        obtain rfl := Option.some.inj H
        go_wp2
        repeat (go_quiet (fail); try go_wp2)
        go_ret
        exact ⟨_, by first | rfl | (simp [errW_none, errW_some] <;> rfl) | (simp [*, errW_none, errW_some] <;> rfl), by (with_reducible repeat (first | apply Kd.R_alloc | apply Kd.R_drewN | apply Kd.R_drew)); exact HO_3.out, by repeat (first | (with_reducible first | exact HB.out | apply below_alloc | apply pw_below_drewN | apply below_drew1) | exact HB.out)⟩

end Go.Proofs.Ytjfklfmfeghjnab.PD
