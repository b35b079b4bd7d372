-- Contracts of Go functions, each with its plain Lean function: written by wip/tools/myprint.py of this work (the kit's print, with contracts proved by hand spliced in).
import Derived.Test.YtjfklfmfeghjnabPDx0
import Derived.Test.YtjfklfmfeghjnabPDx1
namespace Go.Proofs.Ytjfklfmfeghjnab.PD
open Go.RowKit Go.Proofs.YtjfklfmfeghjnabW.PrintWords Go.Proofs.YtjfklfmfeghjnabW.PrintLast Go.Proofs.YtjfklfmfeghjnabW.PrintMore
attribute [local go_sem] max2_int min2_int max_two min_two max_three min_three max_four min_four   -- for this text's walks alone
set_option linter.unusedVariables false
set_option linter.unusedSimpArgs false

/-! ### dict_Of: function 25 -/
mutual
def dict_Of.l0 : Nat → List (S44) → Int → Int → ByteArray → Option ByteArray
  | 0, _, _, _, _ => none
  | k + 1, x11, x12, x13, x161000 => if x13 < x12 then (if 0 ≤ x13 then (if x13 < (x11.length : Int) then (dict_Of.l1 k x11 x12 x13 ((rd_T44 x11 x13).f1) (((rd_T44 x11 x13).f1).length : Int) 0 x161000) else (none)) else (none)) else (some x161000)
def dict_Of.l1 : Nat → List (S44) → Int → Int → List (S61) → Int → Int → ByteArray → Option ByteArray
  | 0, _, _, _, _, _, _, _ => none
  | k + 1, x11, x12, x13, x18, x19, x20, x161000 => if x20 < x19 then (if 0 ≤ x20 then (if x20 < (x18.length : Int) then (dict_Of.l2 k x11 x12 x13 x18 x19 x20 ((rd_T61 x18 x20).f1) (((rd_T61 x18 x20).f1).length : Int) 0 x161000) else (none)) else (none)) else (dict_Of.l0 k x11 x12 (wrap64 (x13 + 1)) x161000)
def dict_Of.l2 : Nat → List (S44) → Int → Int → List (S61) → Int → Int → List (S70) → Int → Int → ByteArray → Option ByteArray
  | 0, _, _, _, _, _, _, _, _, _, _ => none
  | k + 1, x11, x12, x13, x18, x19, x20, x25, x26, x27, x161000 => if x27 < x26 then (if 0 ≤ x27 then (if x27 < (x25.length : Int) then (if ((rd_T70 x25 x27).f0) = 2 then ((dict_Dict_Put.f x161000 ((rd_T70 x25 x27).f2)).bind fun bt171 => (dict_Of.l2 k x11 x12 x13 x18 x19 x20 x25 x26 (wrap64 (x27 + 1)) bt171.2)) else (dict_Of.l2 k x11 x12 x13 x18 x19 x20 x25 x26 (wrap64 (x27 + 1)) x161000)) else (none)) else (none)) else (dict_Of.l1 k x11 x12 x13 x18 x19 (wrap64 (x20 + 1)) x161000)
end
def dict_Of.f (k : Nat) (l0 : List (S44)) : Option ByteArray := (dict_New.f).bind fun t159 => (dict_Of.l0 k l0 (l0.length : Int) 0 t159)
theorem dict_Of.mono_l : ∀ k, (∀ y0 y1 y2 y3, LeO (dict_Of.l0 k y0 y1 y2 y3) (dict_Of.l0 (k + 1) y0 y1 y2 y3)) ∧ (∀ y0 y1 y2 y3 y4 y5 y6, LeO (dict_Of.l1 k y0 y1 y2 y3 y4 y5 y6) (dict_Of.l1 (k + 1) y0 y1 y2 y3 y4 y5 y6)) ∧ (∀ y0 y1 y2 y3 y4 y5 y6 y7 y8 y9, LeO (dict_Of.l2 k y0 y1 y2 y3 y4 y5 y6 y7 y8 y9) (dict_Of.l2 (k + 1) y0 y1 y2 y3 y4 y5 y6 y7 y8 y9))
  | 0 => ⟨fun _ _ _ _ r h => by simp [dict_Of.l0] at h, fun _ _ _ _ _ _ _ r h => by simp [dict_Of.l1] at h, fun _ _ _ _ _ _ _ _ _ _ r h => by simp [dict_Of.l2] at h⟩
  | k + 1 => by
    obtain ⟨ih0, ih1, ih2⟩ := dict_Of.mono_l k
    refine ⟨?_, ?_, ?_⟩
    · intro y0 y1 y2 y3
      unfold dict_Of.l0
      repeat' first
      | (with_reducible exact ih0 _ _ _ _)
      | (with_reducible exact ih1 _ _ _ _ _ _ _)
      | (with_reducible exact ih2 _ _ _ _ _ _ _ _ _ _)
      | (with_reducible exact LeO.refl _)
      | (with_reducible exact LeO.none _)
      | (with_reducible refine LeO.ite ?_ ?_)
      | (with_reducible refine LeO.bind ?_ (fun _ => ?_))
      | exact ih0 _ _ _ _
      | exact ih1 _ _ _ _ _ _ _
      | exact ih2 _ _ _ _ _ _ _ _ _ _
      | exact LeO.none _
      | refine LeO.ite ?_ ?_
      | refine LeO.bind ?_ (fun _ => ?_)
    · intro y0 y1 y2 y3 y4 y5 y6
      unfold dict_Of.l1
      repeat' first
      | (with_reducible exact ih0 _ _ _ _)
      | (with_reducible exact ih1 _ _ _ _ _ _ _)
      | (with_reducible exact ih2 _ _ _ _ _ _ _ _ _ _)
      | (with_reducible exact LeO.refl _)
      | (with_reducible exact LeO.none _)
      | (with_reducible refine LeO.ite ?_ ?_)
      | (with_reducible refine LeO.bind ?_ (fun _ => ?_))
      | exact ih0 _ _ _ _
      | exact ih1 _ _ _ _ _ _ _
      | exact ih2 _ _ _ _ _ _ _ _ _ _
      | exact LeO.none _
      | refine LeO.ite ?_ ?_
      | refine LeO.bind ?_ (fun _ => ?_)
    · intro y0 y1 y2 y3 y4 y5 y6 y7 y8 y9
      unfold dict_Of.l2
      repeat' first
      | (with_reducible exact ih0 _ _ _ _)
      | (with_reducible exact ih1 _ _ _ _ _ _ _)
      | (with_reducible exact ih2 _ _ _ _ _ _ _ _ _ _)
      | (with_reducible exact LeO.refl _)
      | (with_reducible exact LeO.none _)
      | (with_reducible refine LeO.ite ?_ ?_)
      | (with_reducible refine LeO.bind ?_ (fun _ => ?_))
      | exact ih0 _ _ _ _
      | exact ih1 _ _ _ _ _ _ _
      | exact ih2 _ _ _ _ _ _ _ _ _ _
      | exact LeO.none _
      | refine LeO.ite ?_ ?_
      | refine LeO.bind ?_ (fun _ => ?_)
theorem dict_Of.mono : ∀ a0 k, LeO (dict_Of.f k a0) (dict_Of.f (k + 1) a0) := by
  intro a0 k
  obtain ⟨ih0, ih1, ih2⟩ := dict_Of.mono_l k
  unfold dict_Of.f
  repeat' first
      | (with_reducible exact ih0 _ _ _ _)
      | (with_reducible exact ih1 _ _ _ _ _ _ _)
      | (with_reducible exact ih2 _ _ _ _ _ _ _ _ _ _)
      | (with_reducible exact LeO.refl _)
      | (with_reducible exact LeO.none _)
      | (with_reducible refine LeO.ite ?_ ?_)
      | (with_reducible refine LeO.bind ?_ (fun _ => ?_))
      | exact ih0 _ _ _ _
      | exact ih1 _ _ _ _ _ _ _
      | exact ih2 _ _ _ _ _ _ _ _ _ _
      | exact LeO.none _
      | refine LeO.ite ?_ ?_
      | refine LeO.bind ?_ (fun _ => ?_)
set_option maxHeartbeats 8000000 in
set_option maxRecDepth 100000 in
theorem dict_Of.calls (k : Nat) (A0 : Option Addr) (c0 : Nat) (l0 : List (S44)) (r : ByteArray) (w0 w : World) (hB0 : Below w0.heap.size w0 w) (hr0 : Kd.C k44 w A0 l0.length l0) (hc0 : l0.length ≤ c0) (h : dict_Of.f k l0 = some r) :
    Calls Try.prog 25 #[.slice A0 l0.length c0] w fun e w' => ∃ g_ : Nat, e = .returned (.pointer (some ⟨g_, 0, none⟩)) ∧ IsS100 w0 w' g_ r ∧ Below w0.heap.size w0 w' ∧ Below w.heap.size w w' := by
  have HB0 := Aside0.mk hB0
  clear hB0
  have hu44 := Try.underlying44
  have hu61 := Try.underlying61
  have hu70 := Try.underlying70
  have HR0 := Aside0.mk hr0
  have HC0 := Aside0.mk hc0
  clear hr0 hc0
  have HB := Aside0.mk (Below.refl w.heap.size w)
  have H : ((dict_New.f).bind fun t159 => (dict_Of.l0 k l0 (l0.length : Int) 0 t159)) = some r := h
  clear h
  replace H := Option.bind_eq_some_iff.mp H
  obtain ⟨t159, A20, H⟩ := H
  replace H : (dict_Of.l0 k l0 (l0.length : Int) 0 t159) = some r := H
  have A2 := Aside0.mk A20
  clear A20
  have H' := Aside0.mk H
  clear H
  go_enter Try.func25, Try.ntmps25
  go_wp2_with (first | ((with_reducible refine gate_callee (f := 16) rfl ?_); refine goesL_ (some 10) rfl rfl Try.func16 (by kernel_rfl) rfl #[] rfl (by (try simp only [List.map_toArray, List.map_cons, List.map_nil]); first | done | rfl | (simp only [List.length_drop, List.length_take]; rfl) | (refine congrArg (fun z_ => #[z_]) (congrArg (Value.int IntKind.u64) (Eq.symm (Go.Proofs.YtjfklfmfeghjnabAid.wrap_len _ (by omega)))))) ?_; (with_reducible refine (dict_New.calls  t159 w _ ?side1 A2.out).mono ?_); (case side1 => repeat (first | (with_reducible first | exact HB.out | apply below_alloc | apply pw_below_drewN | apply below_drew1) | exact HB.out)); rintro e w3 ⟨g160, rfl, hi, hb, hb2⟩; refine ⟨_, rfl, ?_⟩; have n0_ := Aside0.mk (hb); have n1_ := Aside0.mk (hi); clear HB; have HB := n0_; have HI160 := n1_; clear n0_ n1_; (try clear hb); (try clear hb2); (try clear hk); (try clear hi)))
  go_loopg [13] k (fun kq v13 w' => ∃ (x13_1 : Int) (x161000_1 : ByteArray), v13 = .int .i64 x13_1 ∧ Aside0 (dict_Of.l0 kq l0 (l0.length : Int) x13_1 x161000_1 = some r) ∧ Aside0 (kq ≤ k) ∧ Aside0 (IsS100 w w' g160 x161000_1) ∧ Aside0 (Below w.heap.size w w'))
  case atStart => exact ⟨(0), (t159), (by first | rfl | (simp; done) | (simp [*]; done)), H', ⟨Nat.le_refl _⟩, ⟨by repeat (first | (with_reducible first | exact HI160.out | apply IsS100.alloc | apply IsS100.drewN | apply IsS100.drew | apply IsS100.set_0) | exact HI160.out)⟩, ⟨by repeat (first | (with_reducible first | exact HB.out | apply below_alloc | apply pw_below_drewN | apply below_drew1 | refine below_set ?_ (IsS100.ge HI160.out)) | exact HB.out)⟩⟩
  case round =>
    clear H'
    try clear c1
    try clear c2
    try clear p2
    obtain ⟨x13_1, x161000_1, rfl, HA, HK1, HI160, HB⟩ := hrel
    cases gk with
    | zero => exact absurd HA.out (by simp [dict_Of.l0])
    | succ k1 =>
      have H := HA.out
      clear HA
      simp only [dict_Of.l0] at H
      by_cases c4 : x13_1 < (l0.length : Int)
      · rw [if_pos c4] at H
        have c4b0 : decide (x13_1 < (l0.length : Int)) = true := decide_eq_true c4
        clear c4
        by_cases c5 : 0 ≤ x13_1
        · rw [if_pos c5] at H
          have c5b0 : decide (0 ≤ x13_1) = true := decide_eq_true c5
          clear c5
          by_cases c6 : x13_1 < (l0.length : Int)
          · rw [if_pos c6] at H
            have c6b0 : decide (x13_1 < (l0.length : Int)) = true := decide_eq_true c6
            clear c6
            have H' := Aside0.mk H
            clear H
            have p165 : 0 ≤ (x13_1 : Int) := of_decide_eq_true (by first | (with_reducible assumption) | assumption)
            have q165 : x13_1 < (l0.length : Int) := of_decide_eq_true (by first | (with_reducible assumption) | assumption)
            obtain ⟨ad165, A165_1, c165_1, e165, hx165_0, hx165_1, hl165_1, hi165_1⟩ := at_T44 HR0.out x13_1 p165 q165
            cases e165
            replace hx165_0 := (HB.out.cell (World.block_lt_of_cell? w _ hx165_0)).trans hx165_0
            replace hx165_1 := (HB.out.cell (World.block_lt_of_cell? w _ hx165_1)).trans hx165_1
            have HR165_1 := Aside0.mk hi165_1
            have HC165_1 := Aside0.mk hl165_1
            clear hi165_1 hl165_1
            replace p165 := eq_true p165
            replace q165 := eq_true q165
            go_wp2_with (first | ((with_reducible refine gate_dst (N := 5) rfl ?_); refine box_event ?hg (N := 5) ?hd (cs := #[.int .u64 0, .slice none 0 0]) (t := 44) ?hr ?_; (case hd => rfl); (case hg => rfl); (case hr => first | (go_simp; done) | (go_simp; rfl)); intro gb166 hg w7 hbox hb; have n0_ := Aside0.mk (IsS100.below (by repeat (first | (with_reducible first | exact HI160.out | apply IsS100.alloc | apply IsS100.drewN | apply IsS100.drew | apply IsS100.set_0) | exact HI160.out)) hb); have n1_ := Aside0.mk (below_step (by repeat (first | (with_reducible first | exact HB.out | apply below_alloc | apply pw_below_drewN | apply below_drew1 | refine below_set ?_ (IsS100.ge HI160.out)) | exact HB.out)) hb); have n2_ := Aside0.mk (hbox); have n3_ := Aside0.mk ((by rw [hg]; exact (below_size (by repeat (first | (with_reducible first | exact HB.out | apply below_alloc | apply pw_below_drewN | apply below_drew1 | refine below_set ?_ (IsS100.ge HI160.out)) | exact HB.out))) : w.heap.size ≤ gb166)); have n4_ := Aside0.mk ((by rw [hg]; exact (below_size (by repeat (first | (with_reducible first | exact HB.out | apply below_alloc | apply pw_below_drewN | apply below_drew1 | refine below_set ?_ (IsS100.ge HI160.out)) | exact HB.out))) : w.heap.size ≤ gb166)); have n5_ := Aside0.mk ((by rw [hg]; exact Nat.ne_of_lt (IsS100.lt (show IsS100 w _ g160 x161000_1 from by repeat (first | (with_reducible first | exact HI160.out | apply IsS100.alloc | apply IsS100.drewN | apply IsS100.drew | apply IsS100.set_0) | exact HI160.out))) : g160 ≠ gb166)); have n6_ := Aside0.mk ((by rw [hg]; exact Nat.ne_of_gt (IsS100.lt (show IsS100 w _ g160 x161000_1 from by repeat (first | (with_reducible first | exact HI160.out | apply IsS100.alloc | apply IsS100.drewN | apply IsS100.drew | apply IsS100.set_0) | exact HI160.out))) : gb166 ≠ g160)); clear HI160; clear HB; have HI160 := n0_; have HB := n1_; have BK166 := n2_; have GW166 := n3_; have GE166 := n4_; have NB160_166 := n5_; have NB166_160 := n6_; clear n0_ n1_ n2_ n3_ n4_ n5_ n6_; clear hb hbox hg; have hnb8 := NB166_160.out; have hnc8 := NB160_166.out; have hcz9_0 : w7.cell? ⟨gb166, 0, none⟩ = some (.int .u64 0) := (blk_cell BK166.out 0).trans rfl; have hcz9_1 : w7.cell? ⟨gb166, 1, none⟩ = some (.slice none 0 0) := (blk_cell BK166.out 1).trans rfl; have hfz9_0 := blk_frozen BK166.out 0; have hfz9_1 := blk_frozen BK166.out 1))
            go_loopg [20] k1 (fun kq v20 w' => ∃ (x20_2 : Int) (x161000_2 : ByteArray), v20 = .int .i64 x20_2 ∧ Aside0 (dict_Of.l1 kq l0 (l0.length : Int) x13_1 ((rd_T44 l0 x13_1).f1) (((rd_T44 l0 x13_1).f1).length : Int) x20_2 x161000_2 = some r) ∧ Aside0 (kq ≤ k1) ∧ Aside0 (w'.heap[gb166]? = some (.cells #[.int .u64 ((rd_T44 l0 x13_1).f0), (.slice A165_1 ((rd_T44 l0 x13_1).f1).length c165_1)] 44 (0, 0))) ∧ Aside0 (IsS100 w w' g160 x161000_2) ∧ Aside0 (Below w.heap.size w w'))
            case atStart => exact ⟨(0), (x161000_1), (by first | rfl | (simp; done) | (simp [*]; done)), H', ⟨Nat.le_refl _⟩, ⟨by (with_reducible repeat (first | refine blk_drewN ?_ _ | refine blk_drew ?_ | refine blk_alloc ?_ _)); refine blk_put (cs := #[.int .u64 ((rd_T44 l0 x13_1).f0), .slice none 0 0]) ?_ 1 _ rfl; (with_reducible repeat (first | refine blk_drewN ?_ _ | refine blk_drew ?_ | refine blk_alloc ?_ _)); refine blk_put (cs := #[.int .u64 0, .slice none 0 0]) ?_ 0 _ rfl; (with_reducible repeat (first | refine blk_drewN ?_ _ | refine blk_drew ?_ | refine blk_alloc ?_ _)); exact BK166.out⟩, ⟨by repeat (first | (with_reducible first | exact HI160.out | apply IsS100.alloc | apply IsS100.drewN | apply IsS100.drew | apply IsS100.set_0 | refine IsS100.farT (t := 44) (a := gb166) ?_ (by (with_reducible repeat (first | exact Go.Proofs.YtjfklfmfeghjnabAid.TyAt.mk BK166.out | apply Go.Proofs.YtjfklfmfeghjnabAid.TyAt.set | apply Go.Proofs.YtjfklfmfeghjnabAid.TyAt.alloc | apply Go.Proofs.YtjfklfmfeghjnabAid.TyAt.drewN | apply Go.Proofs.YtjfklfmfeghjnabAid.TyAt.drew))) (by decide) (by decide) _) | exact HI160.out)⟩, ⟨by repeat (first | (with_reducible first | exact HB.out | apply below_alloc | apply pw_below_drewN | apply below_drew1 | refine below_set ?_ (IsS100.ge HI160.out) | refine below_set ?_ GE166.out) | exact HB.out)⟩⟩
            case round =>
              clear H'
              try clear c1
              try clear p1
              try clear q1
              try clear hx1
              try clear c2
              try clear p2
              try clear c4
              try clear c4b0
              try clear c5
              try clear c5b0
              try clear c6
              try clear c6b0
              try clear c8
              try clear hcz9_0
              try clear hcz9_1
              try clear hfz9_0
              try clear hfz9_1
              try clear hx165_0
              try clear hx165_1
              try clear p165
              try clear p2
              try clear q165
              obtain ⟨x20_2, x161000_2, rfl, HA, HK2, BK166, HI160, HB⟩ := hrel
              cases gk with
              | zero => exact absurd HA.out (by simp [dict_Of.l1])
              | succ k2 =>
                have H := HA.out
                clear HA
                simp only [dict_Of.l1] at H
                by_cases c10 : x20_2 < (((rd_T44 l0 x13_1).f1).length : Int)
                · rw [if_pos c10] at H
                  have c10b0 : decide (x20_2 < (((rd_T44 l0 x13_1).f1).length : Int)) = true := decide_eq_true c10
                  clear c10
                  by_cases c11 : 0 ≤ x20_2
                  · rw [if_pos c11] at H
                    have c11b0 : decide (0 ≤ x20_2) = true := decide_eq_true c11
                    clear c11
                    by_cases c12 : x20_2 < (((rd_T44 l0 x13_1).f1).length : Int)
                    · rw [if_pos c12] at H
                      have c12b0 : decide (x20_2 < (((rd_T44 l0 x13_1).f1).length : Int)) = true := decide_eq_true c12
                      clear c12
                      have H' := Aside0.mk H
                      clear H
                      have p167 : 0 ≤ (x20_2 : Int) := of_decide_eq_true (by first | (with_reducible assumption) | assumption)
                      have q167 : x20_2 < (((rd_T44 l0 x13_1).f1).length : Int) := of_decide_eq_true (by first | (with_reducible assumption) | assumption)
                      obtain ⟨ad167, A167_1, c167_1, e167, hx167_0, hx167_1, hl167_1, hi167_1⟩ := at_T61 HR165_1.out x20_2 p167 q167
                      cases e167
                      replace hx167_0 := (HB.out.cell (World.block_lt_of_cell? w _ hx167_0)).trans hx167_0
                      replace hx167_1 := (HB.out.cell (World.block_lt_of_cell? w _ hx167_1)).trans hx167_1
                      have HR167_1 := Aside0.mk hi167_1
                      have HC167_1 := Aside0.mk hl167_1
                      clear hi167_1 hl167_1
                      replace p167 := eq_true p167
                      replace q167 := eq_true q167
                      go_wp2_with (first | ((with_reducible refine gate_dst (N := 7) rfl ?_); refine box_event ?hg (N := 7) ?hd (cs := #[.int .i64 0, .slice none 0 0]) (t := 61) ?hr ?_; (case hd => rfl); (case hg => rfl); (case hr => first | (go_simp; done) | (go_simp; rfl)); intro gb168 hg w13 hbox hb; have n0_ := Aside0.mk (blk_below (g := gb166) (o := .cells #[.int .u64 ((rd_T44 l0 x13_1).f0), .slice (some ad167) ((rd_T44 l0 x13_1).f1).length c165_1] 44 (0, 0)) (by (with_reducible repeat (first | refine blk_drewN ?_ _ | refine blk_drew ?_ | refine blk_alloc ?_ _)); exact BK166.out) hb); have n1_ := Aside0.mk (IsS100.below (by repeat (first | (with_reducible first | exact HI160.out | apply IsS100.alloc | apply IsS100.drewN | apply IsS100.drew | apply IsS100.set_0 | refine IsS100.farT (t := 44) (a := gb166) ?_ (by (with_reducible repeat (first | exact Go.Proofs.YtjfklfmfeghjnabAid.TyAt.mk BK166.out | apply Go.Proofs.YtjfklfmfeghjnabAid.TyAt.set | apply Go.Proofs.YtjfklfmfeghjnabAid.TyAt.alloc | apply Go.Proofs.YtjfklfmfeghjnabAid.TyAt.drewN | apply Go.Proofs.YtjfklfmfeghjnabAid.TyAt.drew))) (by decide) (by decide) _) | exact HI160.out)) hb); have n2_ := Aside0.mk (below_step (by repeat (first | (with_reducible first | exact HB.out | apply below_alloc | apply pw_below_drewN | apply below_drew1 | refine below_set ?_ (IsS100.ge HI160.out) | refine below_set ?_ GE166.out) | exact HB.out)) hb); have n3_ := Aside0.mk (hbox); have n4_ := Aside0.mk ((by rw [hg]; exact (below_size (by repeat (first | (with_reducible first | exact HB.out | apply below_alloc | apply pw_below_drewN | apply below_drew1 | refine below_set ?_ (IsS100.ge HI160.out) | refine below_set ?_ GE166.out) | exact HB.out))) : w.heap.size ≤ gb168)); have n5_ := Aside0.mk ((by rw [hg]; exact (below_size (by repeat (first | (with_reducible first | exact HB.out | apply below_alloc | apply pw_below_drewN | apply below_drew1 | refine below_set ?_ (IsS100.ge HI160.out) | refine below_set ?_ GE166.out) | exact HB.out))) : w.heap.size ≤ gb168)); have n6_ := Aside0.mk ((by rw [hg]; exact Nat.ne_of_lt (blk_lt (g := gb166) (o := .cells #[.int .u64 ((rd_T44 l0 x13_1).f0), .slice (some ad167) ((rd_T44 l0 x13_1).f1).length c165_1] 44 (0, 0)) (by (with_reducible repeat (first | refine blk_drewN ?_ _ | refine blk_drew ?_ | refine blk_alloc ?_ _)); exact BK166.out)) : gb166 ≠ gb168)); have n7_ := Aside0.mk ((by rw [hg]; exact Nat.ne_of_gt (blk_lt (g := gb166) (o := .cells #[.int .u64 ((rd_T44 l0 x13_1).f0), .slice (some ad167) ((rd_T44 l0 x13_1).f1).length c165_1] 44 (0, 0)) (by (with_reducible repeat (first | refine blk_drewN ?_ _ | refine blk_drew ?_ | refine blk_alloc ?_ _)); exact BK166.out)) : gb168 ≠ gb166)); have n8_ := Aside0.mk ((by rw [hg]; exact Nat.ne_of_lt (IsS100.lt (show IsS100 w _ g160 x161000_2 from by repeat (first | (with_reducible first | exact HI160.out | apply IsS100.alloc | apply IsS100.drewN | apply IsS100.drew | apply IsS100.set_0 | refine IsS100.farT (t := 44) (a := gb166) ?_ (by (with_reducible repeat (first | exact Go.Proofs.YtjfklfmfeghjnabAid.TyAt.mk BK166.out | apply Go.Proofs.YtjfklfmfeghjnabAid.TyAt.set | apply Go.Proofs.YtjfklfmfeghjnabAid.TyAt.alloc | apply Go.Proofs.YtjfklfmfeghjnabAid.TyAt.drewN | apply Go.Proofs.YtjfklfmfeghjnabAid.TyAt.drew))) (by decide) (by decide) _) | exact HI160.out))) : g160 ≠ gb168)); have n9_ := Aside0.mk ((by rw [hg]; exact Nat.ne_of_gt (IsS100.lt (show IsS100 w _ g160 x161000_2 from by repeat (first | (with_reducible first | exact HI160.out | apply IsS100.alloc | apply IsS100.drewN | apply IsS100.drew | apply IsS100.set_0 | refine IsS100.farT (t := 44) (a := gb166) ?_ (by (with_reducible repeat (first | exact Go.Proofs.YtjfklfmfeghjnabAid.TyAt.mk BK166.out | apply Go.Proofs.YtjfklfmfeghjnabAid.TyAt.set | apply Go.Proofs.YtjfklfmfeghjnabAid.TyAt.alloc | apply Go.Proofs.YtjfklfmfeghjnabAid.TyAt.drewN | apply Go.Proofs.YtjfklfmfeghjnabAid.TyAt.drew))) (by decide) (by decide) _) | exact HI160.out))) : gb168 ≠ g160)); clear BK166; clear HI160; clear HB; have BK166 := n0_; have HI160 := n1_; have HB := n2_; have BK168 := n3_; have GW168 := n4_; have GE168 := n5_; have NB166_168 := n6_; have NB168_166 := n7_; have NB160_168 := n8_; have NB168_160 := n9_; clear n0_ n1_ n2_ n3_ n4_ n5_ n6_ n7_ n8_ n9_; clear hb hbox hg; have hnb14 := NB168_166.out; have hnc14 := NB166_168.out; have hnb15 := NB168_160.out; have hnc15 := NB160_168.out; have hcz16_0 : w13.cell? ⟨gb168, 0, none⟩ = some (.int .i64 0) := (blk_cell BK168.out 0).trans rfl; have hcz16_1 : w13.cell? ⟨gb168, 1, none⟩ = some (.slice none 0 0) := (blk_cell BK168.out 1).trans rfl; have hfz16_0 := blk_frozen BK168.out 0; have hfz16_1 := blk_frozen BK168.out 1))
                      go_loopg [27] k2 (fun kq v27 w' => ∃ (x27_3 : Int) (x161000_3 : ByteArray), v27 = .int .i64 x27_3 ∧ Aside0 (dict_Of.l2 kq l0 (l0.length : Int) x13_1 ((rd_T44 l0 x13_1).f1) (((rd_T44 l0 x13_1).f1).length : Int) x20_2 ((rd_T61 ((rd_T44 l0 x13_1).f1) x20_2).f1) (((rd_T61 ((rd_T44 l0 x13_1).f1) x20_2).f1).length : Int) x27_3 x161000_3 = some r) ∧ Aside0 (kq ≤ k2) ∧ Aside0 (w'.heap[gb166]? = some (.cells #[.int .u64 ((rd_T44 l0 x13_1).f0), (.slice (some ad167) ((rd_T44 l0 x13_1).f1).length c165_1)] 44 (0, 0))) ∧ Aside0 (w'.heap[gb168]? = some (.cells #[.int .i64 ((rd_T61 ((rd_T44 l0 x13_1).f1) x20_2).f0), (.slice A167_1 ((rd_T61 ((rd_T44 l0 x13_1).f1) x20_2).f1).length c167_1)] 61 (0, 0))) ∧ Aside0 (IsS100 w w' g160 x161000_3) ∧ Aside0 (Below w.heap.size w w'))
                      case atStart => exact ⟨(0), (x161000_2), (by first | rfl | (simp; done) | (simp [*]; done)), H', ⟨Nat.le_refl _⟩, ⟨by (with_reducible repeat (first | refine blk_drewN ?_ _ | refine blk_drew ?_ | refine blk_alloc ?_ _)); refine blk_far ?_ NB166_168.out _; (with_reducible repeat (first | refine blk_drewN ?_ _ | refine blk_drew ?_ | refine blk_alloc ?_ _)); refine blk_far ?_ NB166_168.out _; (with_reducible repeat (first | refine blk_drewN ?_ _ | refine blk_drew ?_ | refine blk_alloc ?_ _)); exact BK166.out⟩, ⟨by (with_reducible repeat (first | refine blk_drewN ?_ _ | refine blk_drew ?_ | refine blk_alloc ?_ _)); refine blk_put (cs := #[.int .i64 ((rd_T61 ((rd_T44 l0 x13_1).f1) x20_2).f0), .slice none 0 0]) ?_ 1 _ rfl; (with_reducible repeat (first | refine blk_drewN ?_ _ | refine blk_drew ?_ | refine blk_alloc ?_ _)); refine blk_put (cs := #[.int .i64 0, .slice none 0 0]) ?_ 0 _ rfl; (with_reducible repeat (first | refine blk_drewN ?_ _ | refine blk_drew ?_ | refine blk_alloc ?_ _)); exact BK168.out⟩, ⟨by repeat (first | (with_reducible first | exact HI160.out | apply IsS100.alloc | apply IsS100.drewN | apply IsS100.drew | apply IsS100.set_0 | refine IsS100.farT (t := 44) (a := gb166) ?_ (by (with_reducible repeat (first | exact Go.Proofs.YtjfklfmfeghjnabAid.TyAt.mk BK166.out | apply Go.Proofs.YtjfklfmfeghjnabAid.TyAt.set | apply Go.Proofs.YtjfklfmfeghjnabAid.TyAt.alloc | apply Go.Proofs.YtjfklfmfeghjnabAid.TyAt.drewN | apply Go.Proofs.YtjfklfmfeghjnabAid.TyAt.drew))) (by decide) (by decide) _ | refine IsS100.farT (t := 61) (a := gb168) ?_ (by (with_reducible repeat (first | exact Go.Proofs.YtjfklfmfeghjnabAid.TyAt.mk BK168.out | apply Go.Proofs.YtjfklfmfeghjnabAid.TyAt.set | apply Go.Proofs.YtjfklfmfeghjnabAid.TyAt.alloc | apply Go.Proofs.YtjfklfmfeghjnabAid.TyAt.drewN | apply Go.Proofs.YtjfklfmfeghjnabAid.TyAt.drew))) (by decide) (by decide) _) | exact HI160.out)⟩, ⟨by repeat (first | (with_reducible first | exact HB.out | apply below_alloc | apply pw_below_drewN | apply below_drew1 | refine below_set ?_ (IsS100.ge HI160.out) | refine below_set ?_ GE166.out | refine below_set ?_ GE168.out) | exact HB.out)⟩⟩
                      case round =>
                        clear H'
                        try clear c1
                        try clear p1
                        try clear q1
                        try clear hx1
                        try clear c2
                        try clear p2
                        try clear c4
                        try clear c4b0
                        try clear c5
                        try clear c5b0
                        try clear c6
                        try clear c6b0
                        try clear c8
                        try clear c10
                        try clear c10b0
                        try clear c11
                        try clear c11b0
                        try clear c12
                        try clear c12b0
                        try clear c14
                        try clear c15
                        try clear c16
                        try clear p16
                        try clear q16
                        try clear hx16
                        try clear hcz16_0
                        try clear hcz16_1
                        try clear hcz9_0
                        try clear hcz9_1
                        try clear hfz16_0
                        try clear hfz16_1
                        try clear hfz9_0
                        try clear hfz9_1
                        try clear hx165_0
                        try clear hx165_1
                        try clear hx167_0
                        try clear hx167_1
                        try clear p1
                        try clear p165
                        try clear p167
                        try clear p2
                        try clear q1
                        try clear q165
                        try clear q167
                        obtain ⟨x27_3, x161000_3, rfl, HA, HK3, BK166, BK168, HI160, HB⟩ := hrel
                        cases gk with
                        | zero => exact absurd HA.out (by simp [dict_Of.l2])
                        | succ k3 =>
                          have H := HA.out
                          clear HA
                          simp only [dict_Of.l2] at H
                          by_cases c17 : x27_3 < (((rd_T61 ((rd_T44 l0 x13_1).f1) x20_2).f1).length : Int)
                          · rw [if_pos c17] at H
                            have c17b0 : decide (x27_3 < (((rd_T61 ((rd_T44 l0 x13_1).f1) x20_2).f1).length : Int)) = true := decide_eq_true c17
                            clear c17
                            by_cases c18 : 0 ≤ x27_3
                            · rw [if_pos c18] at H
                              have c18b0 : decide (0 ≤ x27_3) = true := decide_eq_true c18
                              clear c18
                              by_cases c19 : x27_3 < (((rd_T61 ((rd_T44 l0 x13_1).f1) x20_2).f1).length : Int)
                              · rw [if_pos c19] at H
                                have c19b0 : decide (x27_3 < (((rd_T61 ((rd_T44 l0 x13_1).f1) x20_2).f1).length : Int)) = true := decide_eq_true c19
                                clear c19
                                by_cases c20 : ((rd_T70 ((rd_T61 ((rd_T44 l0 x13_1).f1) x20_2).f1) x27_3).f0) = 2
                                · rw [if_pos c20] at H
                                  have c20b0 : (((rd_T70 ((rd_T61 ((rd_T44 l0 x13_1).f1) x20_2).f1) x27_3).f0) == 2) = true := beq_iff_eq.mpr c20
                                  have c20b1 : (((rd_T70 ((rd_T61 ((rd_T44 l0 x13_1).f1) x20_2).f1) x27_3).f0) != 2) = false := bne_eq_false_iff_eq.mpr c20
                                  clear c20
                                  replace H := Option.bind_eq_some_iff.mp H
                                  obtain ⟨⟨t171, t172⟩, A210, H⟩ := H
                                  replace H : (dict_Of.l2 k3 l0 (l0.length : Int) x13_1 ((rd_T44 l0 x13_1).f1) (((rd_T44 l0 x13_1).f1).length : Int) x20_2 ((rd_T61 ((rd_T44 l0 x13_1).f1) x20_2).f1) (((rd_T61 ((rd_T44 l0 x13_1).f1) x20_2).f1).length : Int) (wrap64 (x27_3 + 1)) t172) = some r := H
                                  have A21 := Aside0.mk A210
                                  clear A210
                                  have H' := Aside0.mk H
                                  clear H
                                  have p169 : 0 ≤ (x27_3 : Int) := of_decide_eq_true (by first | (with_reducible assumption) | assumption)
                                  have q169 : x27_3 < (((rd_T61 ((rd_T44 l0 x13_1).f1) x20_2).f1).length : Int) := of_decide_eq_true (by first | (with_reducible assumption) | assumption)
                                  obtain ⟨ad169, e169, hx169_0, hx169_1, hx169_2⟩ := at_T70 HR167_1.out x27_3 p169 q169
                                  cases e169
                                  replace hx169_0 := (HB.out.cell (World.block_lt_of_cell? w _ hx169_0)).trans hx169_0
                                  replace hx169_1 := (HB.out.cell (World.block_lt_of_cell? w _ hx169_1)).trans hx169_1
                                  replace hx169_2 := (HB.out.cell (World.block_lt_of_cell? w _ hx169_2)).trans hx169_2
                                  replace p169 := eq_true p169
                                  replace q169 := eq_true q169
                                  go_wp2_with (first | ((with_reducible refine gate_dst (N := 9) rfl ?_); refine box_event ?hg (N := 9) ?hd (cs := #[.int .i64 0, .int .i64 0, .string (⟨#[]⟩ : ByteArray)]) (t := 70) ?hr ?_; (case hd => rfl); (case hg => rfl); (case hr => first | (go_simp; done) | (go_simp; rfl)); intro gb170 hg w22 hbox hb; have n0_ := Aside0.mk (blk_below (g := gb166) (o := .cells #[.int .u64 ((rd_T44 l0 x13_1).f0), .slice (some ad167) ((rd_T44 l0 x13_1).f1).length c165_1] 44 (0, 0)) (by (with_reducible repeat (first | refine blk_drewN ?_ _ | refine blk_drew ?_ | refine blk_alloc ?_ _)); exact BK166.out) hb); have n1_ := Aside0.mk (blk_below (g := gb168) (o := .cells #[.int .i64 ((rd_T61 ((rd_T44 l0 x13_1).f1) x20_2).f0), .slice (some ad169) ((rd_T61 ((rd_T44 l0 x13_1).f1) x20_2).f1).length c167_1] 61 (0, 0)) (by (with_reducible repeat (first | refine blk_drewN ?_ _ | refine blk_drew ?_ | refine blk_alloc ?_ _)); exact BK168.out) hb); have n2_ := Aside0.mk (IsS100.below (by repeat (first | (with_reducible first | exact HI160.out | apply IsS100.alloc | apply IsS100.drewN | apply IsS100.drew | apply IsS100.set_0 | refine IsS100.farT (t := 44) (a := gb166) ?_ (by (with_reducible repeat (first | exact Go.Proofs.YtjfklfmfeghjnabAid.TyAt.mk BK166.out | apply Go.Proofs.YtjfklfmfeghjnabAid.TyAt.set | apply Go.Proofs.YtjfklfmfeghjnabAid.TyAt.alloc | apply Go.Proofs.YtjfklfmfeghjnabAid.TyAt.drewN | apply Go.Proofs.YtjfklfmfeghjnabAid.TyAt.drew))) (by decide) (by decide) _ | refine IsS100.farT (t := 61) (a := gb168) ?_ (by (with_reducible repeat (first | exact Go.Proofs.YtjfklfmfeghjnabAid.TyAt.mk BK168.out | apply Go.Proofs.YtjfklfmfeghjnabAid.TyAt.set | apply Go.Proofs.YtjfklfmfeghjnabAid.TyAt.alloc | apply Go.Proofs.YtjfklfmfeghjnabAid.TyAt.drewN | apply Go.Proofs.YtjfklfmfeghjnabAid.TyAt.drew))) (by decide) (by decide) _) | exact HI160.out)) hb); have n3_ := Aside0.mk (below_step (by repeat (first | (with_reducible first | exact HB.out | apply below_alloc | apply pw_below_drewN | apply below_drew1 | refine below_set ?_ (IsS100.ge HI160.out) | refine below_set ?_ GE166.out | refine below_set ?_ GE168.out) | exact HB.out)) hb); have n4_ := Aside0.mk (hbox); have n5_ := Aside0.mk ((by rw [hg]; exact (below_size (by repeat (first | (with_reducible first | exact HB.out | apply below_alloc | apply pw_below_drewN | apply below_drew1 | refine below_set ?_ (IsS100.ge HI160.out) | refine below_set ?_ GE166.out | refine below_set ?_ GE168.out) | exact HB.out))) : w.heap.size ≤ gb170)); have n6_ := Aside0.mk ((by rw [hg]; exact (below_size (by repeat (first | (with_reducible first | exact HB.out | apply below_alloc | apply pw_below_drewN | apply below_drew1 | refine below_set ?_ (IsS100.ge HI160.out) | refine below_set ?_ GE166.out | refine below_set ?_ GE168.out) | exact HB.out))) : w.heap.size ≤ gb170)); have n7_ := Aside0.mk ((by rw [hg]; exact Nat.ne_of_lt (blk_lt (g := gb166) (o := .cells #[.int .u64 ((rd_T44 l0 x13_1).f0), .slice (some ad167) ((rd_T44 l0 x13_1).f1).length c165_1] 44 (0, 0)) (by (with_reducible repeat (first | refine blk_drewN ?_ _ | refine blk_drew ?_ | refine blk_alloc ?_ _)); exact BK166.out)) : gb166 ≠ gb170)); have n8_ := Aside0.mk ((by rw [hg]; exact Nat.ne_of_gt (blk_lt (g := gb166) (o := .cells #[.int .u64 ((rd_T44 l0 x13_1).f0), .slice (some ad167) ((rd_T44 l0 x13_1).f1).length c165_1] 44 (0, 0)) (by (with_reducible repeat (first | refine blk_drewN ?_ _ | refine blk_drew ?_ | refine blk_alloc ?_ _)); exact BK166.out)) : gb170 ≠ gb166)); have n9_ := Aside0.mk ((by rw [hg]; exact Nat.ne_of_lt (blk_lt (g := gb168) (o := .cells #[.int .i64 ((rd_T61 ((rd_T44 l0 x13_1).f1) x20_2).f0), .slice (some ad169) ((rd_T61 ((rd_T44 l0 x13_1).f1) x20_2).f1).length c167_1] 61 (0, 0)) (by (with_reducible repeat (first | refine blk_drewN ?_ _ | refine blk_drew ?_ | refine blk_alloc ?_ _)); exact BK168.out)) : gb168 ≠ gb170)); have n10_ := Aside0.mk ((by rw [hg]; exact Nat.ne_of_gt (blk_lt (g := gb168) (o := .cells #[.int .i64 ((rd_T61 ((rd_T44 l0 x13_1).f1) x20_2).f0), .slice (some ad169) ((rd_T61 ((rd_T44 l0 x13_1).f1) x20_2).f1).length c167_1] 61 (0, 0)) (by (with_reducible repeat (first | refine blk_drewN ?_ _ | refine blk_drew ?_ | refine blk_alloc ?_ _)); exact BK168.out)) : gb170 ≠ gb168)); have n11_ := Aside0.mk ((by rw [hg]; exact Nat.ne_of_lt (IsS100.lt (show IsS100 w _ g160 x161000_3 from by repeat (first | (with_reducible first | exact HI160.out | apply IsS100.alloc | apply IsS100.drewN | apply IsS100.drew | apply IsS100.set_0 | refine IsS100.farT (t := 44) (a := gb166) ?_ (by (with_reducible repeat (first | exact Go.Proofs.YtjfklfmfeghjnabAid.TyAt.mk BK166.out | apply Go.Proofs.YtjfklfmfeghjnabAid.TyAt.set | apply Go.Proofs.YtjfklfmfeghjnabAid.TyAt.alloc | apply Go.Proofs.YtjfklfmfeghjnabAid.TyAt.drewN | apply Go.Proofs.YtjfklfmfeghjnabAid.TyAt.drew))) (by decide) (by decide) _ | refine IsS100.farT (t := 61) (a := gb168) ?_ (by (with_reducible repeat (first | exact Go.Proofs.YtjfklfmfeghjnabAid.TyAt.mk BK168.out | apply Go.Proofs.YtjfklfmfeghjnabAid.TyAt.set | apply Go.Proofs.YtjfklfmfeghjnabAid.TyAt.alloc | apply Go.Proofs.YtjfklfmfeghjnabAid.TyAt.drewN | apply Go.Proofs.YtjfklfmfeghjnabAid.TyAt.drew))) (by decide) (by decide) _) | exact HI160.out))) : g160 ≠ gb170)); have n12_ := Aside0.mk ((by rw [hg]; exact Nat.ne_of_gt (IsS100.lt (show IsS100 w _ g160 x161000_3 from by repeat (first | (with_reducible first | exact HI160.out | apply IsS100.alloc | apply IsS100.drewN | apply IsS100.drew | apply IsS100.set_0 | refine IsS100.farT (t := 44) (a := gb166) ?_ (by (with_reducible repeat (first | exact Go.Proofs.YtjfklfmfeghjnabAid.TyAt.mk BK166.out | apply Go.Proofs.YtjfklfmfeghjnabAid.TyAt.set | apply Go.Proofs.YtjfklfmfeghjnabAid.TyAt.alloc | apply Go.Proofs.YtjfklfmfeghjnabAid.TyAt.drewN | apply Go.Proofs.YtjfklfmfeghjnabAid.TyAt.drew))) (by decide) (by decide) _ | refine IsS100.farT (t := 61) (a := gb168) ?_ (by (with_reducible repeat (first | exact Go.Proofs.YtjfklfmfeghjnabAid.TyAt.mk BK168.out | apply Go.Proofs.YtjfklfmfeghjnabAid.TyAt.set | apply Go.Proofs.YtjfklfmfeghjnabAid.TyAt.alloc | apply Go.Proofs.YtjfklfmfeghjnabAid.TyAt.drewN | apply Go.Proofs.YtjfklfmfeghjnabAid.TyAt.drew))) (by decide) (by decide) _) | exact HI160.out))) : gb170 ≠ g160)); clear BK166; clear BK168; clear HI160; clear HB; have BK166 := n0_; have BK168 := n1_; have HI160 := n2_; have HB := n3_; have BK170 := n4_; have GW170 := n5_; have GE170 := n6_; have NB166_170 := n7_; have NB170_166 := n8_; have NB168_170 := n9_; have NB170_168 := n10_; have NB160_170 := n11_; have NB170_160 := n12_; clear n0_ n1_ n2_ n3_ n4_ n5_ n6_ n7_ n8_ n9_ n10_ n11_ n12_; clear hb hbox hg; have hnb23 := NB170_166.out; have hnc23 := NB166_170.out; have hnb24 := NB170_168.out; have hnc24 := NB168_170.out; have hnb25 := NB170_160.out; have hnc25 := NB160_170.out; have hcz26_0 : w22.cell? ⟨gb170, 0, none⟩ = some (.int .i64 0) := (blk_cell BK170.out 0).trans rfl; have hcz26_1 : w22.cell? ⟨gb170, 1, none⟩ = some (.int .i64 0) := (blk_cell BK170.out 1).trans rfl; have hcz26_2 : w22.cell? ⟨gb170, 2, none⟩ = some (.string (⟨#[]⟩ : ByteArray)) := (blk_cell BK170.out 2).trans rfl; have hfz26_0 := blk_frozen BK170.out 0; have hfz26_1 := blk_frozen BK170.out 1; have hfz26_2 := blk_frozen BK170.out 2) | ((with_reducible refine gate_callee (f := 18) rfl ?_); refine goesL_ (some 37) rfl rfl Try.func18 (by kernel_rfl) rfl #[.pointer (some ⟨g160, 0, none⟩), .string ((rd_T70 ((rd_T61 ((rd_T44 l0 x13_1).f1) x20_2).f1) x27_3).f2)] rfl (by (try simp only [List.map_toArray, List.map_cons, List.map_nil]); first | done | rfl | (simp only [List.length_drop, List.length_take]; rfl) | (refine congrArg (fun z_ => #[z_]) (congrArg (Value.int IntKind.u64) (Eq.symm (Go.Proofs.YtjfklfmfeghjnabAid.wrap_len _ (by omega)))))) ?_; (with_reducible refine (dict_Dict_Put.calls g160 x161000_3 ((rd_T70 ((rd_T61 ((rd_T44 l0 x13_1).f1) x20_2).f1) x27_3).f2) t171 t172 w _ ?side1 ?side2 A21.out).mono ?_); (case side1 => repeat (first | (with_reducible first | exact HI160.out | apply IsS100.alloc | apply IsS100.drewN | apply IsS100.drew | apply IsS100.set_0 | refine IsS100.farT (t := 44) (a := gb166) ?_ (by (with_reducible repeat (first | exact Go.Proofs.YtjfklfmfeghjnabAid.TyAt.mk BK166.out | apply Go.Proofs.YtjfklfmfeghjnabAid.TyAt.set | apply Go.Proofs.YtjfklfmfeghjnabAid.TyAt.alloc | apply Go.Proofs.YtjfklfmfeghjnabAid.TyAt.drewN | apply Go.Proofs.YtjfklfmfeghjnabAid.TyAt.drew))) (by decide) (by decide) _ | refine IsS100.farT (t := 61) (a := gb168) ?_ (by (with_reducible repeat (first | exact Go.Proofs.YtjfklfmfeghjnabAid.TyAt.mk BK168.out | apply Go.Proofs.YtjfklfmfeghjnabAid.TyAt.set | apply Go.Proofs.YtjfklfmfeghjnabAid.TyAt.alloc | apply Go.Proofs.YtjfklfmfeghjnabAid.TyAt.drewN | apply Go.Proofs.YtjfklfmfeghjnabAid.TyAt.drew))) (by decide) (by decide) _ | refine IsS100.farT (t := 70) (a := gb170) ?_ (by (with_reducible repeat (first | exact Go.Proofs.YtjfklfmfeghjnabAid.TyAt.mk BK170.out | apply Go.Proofs.YtjfklfmfeghjnabAid.TyAt.set | apply Go.Proofs.YtjfklfmfeghjnabAid.TyAt.alloc | apply Go.Proofs.YtjfklfmfeghjnabAid.TyAt.drewN | apply Go.Proofs.YtjfklfmfeghjnabAid.TyAt.drew))) (by decide) (by decide) _) | exact HI160.out)); (case side2 => repeat (first | (with_reducible first | exact HB.out | apply below_alloc | apply pw_below_drewN | apply below_drew1 | refine below_set ?_ (IsS100.ge HI160.out) | refine below_set ?_ GE166.out | refine below_set ?_ GE168.out | refine below_set ?_ GE170.out) | exact HB.out)); rintro e w27 ⟨rfl, hi, hb, hk⟩; refine ⟨_, rfl, ?_⟩; have n0_ := Aside0.mk (Go.Proofs.YtjfklfmfeghjnabAid.DictKept.blk hk (g' := gb166) (o := .cells #[.int .u64 ((rd_T44 l0 x13_1).f0), .slice (some ad167) ((rd_T44 l0 x13_1).f1).length c165_1] 44 (0, 0)) (by (with_reducible repeat (first | refine blk_drewN ?_ _ | refine blk_drew ?_ | refine blk_alloc ?_ _)); refine blk_far ?_ NB166_170.out _; (with_reducible repeat (first | refine blk_drewN ?_ _ | refine blk_drew ?_ | refine blk_alloc ?_ _)); refine blk_far ?_ NB166_170.out _; (with_reducible repeat (first | refine blk_drewN ?_ _ | refine blk_drew ?_ | refine blk_alloc ?_ _)); refine blk_far ?_ NB166_170.out _; (with_reducible repeat (first | refine blk_drewN ?_ _ | refine blk_drew ?_ | refine blk_alloc ?_ _)); exact BK166.out) NB166_160.out (by simp)); have n1_ := Aside0.mk (Go.Proofs.YtjfklfmfeghjnabAid.DictKept.blk hk (g' := gb168) (o := .cells #[.int .i64 ((rd_T61 ((rd_T44 l0 x13_1).f1) x20_2).f0), .slice (some ad169) ((rd_T61 ((rd_T44 l0 x13_1).f1) x20_2).f1).length c167_1] 61 (0, 0)) (by (with_reducible repeat (first | refine blk_drewN ?_ _ | refine blk_drew ?_ | refine blk_alloc ?_ _)); refine blk_far ?_ NB168_170.out _; (with_reducible repeat (first | refine blk_drewN ?_ _ | refine blk_drew ?_ | refine blk_alloc ?_ _)); refine blk_far ?_ NB168_170.out _; (with_reducible repeat (first | refine blk_drewN ?_ _ | refine blk_drew ?_ | refine blk_alloc ?_ _)); refine blk_far ?_ NB168_170.out _; (with_reducible repeat (first | refine blk_drewN ?_ _ | refine blk_drew ?_ | refine blk_alloc ?_ _)); exact BK168.out) NB168_160.out (by simp)); have n2_ := Aside0.mk (Go.Proofs.YtjfklfmfeghjnabAid.DictKept.blk hk (g' := gb170) (o := .cells #[.int .i64 ((rd_T70 ((rd_T61 ((rd_T44 l0 x13_1).f1) x20_2).f1) x27_3).f0), .int .i64 ((rd_T70 ((rd_T61 ((rd_T44 l0 x13_1).f1) x20_2).f1) x27_3).f1), .string ((rd_T70 ((rd_T61 ((rd_T44 l0 x13_1).f1) x20_2).f1) x27_3).f2)] 70 (0, 0)) (by (with_reducible repeat (first | refine blk_drewN ?_ _ | refine blk_drew ?_ | refine blk_alloc ?_ _)); refine blk_put (cs := #[.int .i64 ((rd_T70 ((rd_T61 ((rd_T44 l0 x13_1).f1) x20_2).f1) x27_3).f0), .int .i64 ((rd_T70 ((rd_T61 ((rd_T44 l0 x13_1).f1) x20_2).f1) x27_3).f1), .string (⟨#[]⟩ : ByteArray)]) ?_ 2 _ rfl; (with_reducible repeat (first | refine blk_drewN ?_ _ | refine blk_drew ?_ | refine blk_alloc ?_ _)); refine blk_put (cs := #[.int .i64 ((rd_T70 ((rd_T61 ((rd_T44 l0 x13_1).f1) x20_2).f1) x27_3).f0), .int .i64 0, .string (⟨#[]⟩ : ByteArray)]) ?_ 1 _ rfl; (with_reducible repeat (first | refine blk_drewN ?_ _ | refine blk_drew ?_ | refine blk_alloc ?_ _)); refine blk_put (cs := #[.int .i64 0, .int .i64 0, .string (⟨#[]⟩ : ByteArray)]) ?_ 0 _ rfl; (with_reducible repeat (first | refine blk_drewN ?_ _ | refine blk_drew ?_ | refine blk_alloc ?_ _)); exact BK170.out) NB170_160.out (by simp)); have n3_ := Aside0.mk (hb); have n4_ := Aside0.mk (hi); clear BK166; clear BK168; clear BK170; clear HB; clear HI160; have BK166 := n0_; have BK168 := n1_; have BK170 := n2_; have HB := n3_; have HI160 := n4_; clear n0_ n1_ n2_ n3_ n4_; (try clear hb); (try clear hb2); (try clear hk); (try clear hi)))
                                  go_roundg k3
                                  case measure => have := HK1.out; have := HK2.out; have := HK3.out; omega
                                  case rel => exact ⟨(wrap64 (x27_3 + 1)), (t172), (by first | rfl | (simp; done) | (simp [*]; done)), H', ⟨by have := HK1.out; have := HK2.out; have := HK3.out; omega⟩, ⟨by (with_reducible repeat (first | refine blk_drewN ?_ _ | refine blk_drew ?_ | refine blk_alloc ?_ _)); exact BK166.out⟩, ⟨by (with_reducible repeat (first | refine blk_drewN ?_ _ | refine blk_drew ?_ | refine blk_alloc ?_ _)); exact BK168.out⟩, ⟨by repeat (first | (with_reducible first | exact HI160.out | apply IsS100.alloc | apply IsS100.drewN | apply IsS100.drew | apply IsS100.set_0 | refine IsS100.farT (t := 44) (a := gb166) ?_ (by (with_reducible repeat (first | exact Go.Proofs.YtjfklfmfeghjnabAid.TyAt.mk BK166.out | apply Go.Proofs.YtjfklfmfeghjnabAid.TyAt.set | apply Go.Proofs.YtjfklfmfeghjnabAid.TyAt.alloc | apply Go.Proofs.YtjfklfmfeghjnabAid.TyAt.drewN | apply Go.Proofs.YtjfklfmfeghjnabAid.TyAt.drew))) (by decide) (by decide) _ | refine IsS100.farT (t := 61) (a := gb168) ?_ (by (with_reducible repeat (first | exact Go.Proofs.YtjfklfmfeghjnabAid.TyAt.mk BK168.out | apply Go.Proofs.YtjfklfmfeghjnabAid.TyAt.set | apply Go.Proofs.YtjfklfmfeghjnabAid.TyAt.alloc | apply Go.Proofs.YtjfklfmfeghjnabAid.TyAt.drewN | apply Go.Proofs.YtjfklfmfeghjnabAid.TyAt.drew))) (by decide) (by decide) _ | refine IsS100.farT (t := 70) (a := gb170) ?_ (by (with_reducible repeat (first | exact Go.Proofs.YtjfklfmfeghjnabAid.TyAt.mk BK170.out | apply Go.Proofs.YtjfklfmfeghjnabAid.TyAt.set | apply Go.Proofs.YtjfklfmfeghjnabAid.TyAt.alloc | apply Go.Proofs.YtjfklfmfeghjnabAid.TyAt.drewN | apply Go.Proofs.YtjfklfmfeghjnabAid.TyAt.drew))) (by decide) (by decide) _) | exact HI160.out)⟩, ⟨by repeat (first | (with_reducible first | exact HB.out | apply below_alloc | apply pw_below_drewN | apply below_drew1 | refine below_set ?_ (IsS100.ge HI160.out) | refine below_set ?_ GE166.out | refine below_set ?_ GE168.out | refine below_set ?_ GE170.out) | exact HB.out)⟩⟩
                                · rw [if_neg c20] at H
                                  have c20b0 : (((rd_T70 ((rd_T61 ((rd_T44 l0 x13_1).f1) x20_2).f1) x27_3).f0) == 2) = false := beq_eq_false_iff_ne.mpr c20
                                  have c20b1 : (((rd_T70 ((rd_T61 ((rd_T44 l0 x13_1).f1) x20_2).f1) x27_3).f0) != 2) = true := bne_iff_ne.mpr c20
                                  have H' := Aside0.mk H
                                  clear H
                                  have p169 : 0 ≤ (x27_3 : Int) := of_decide_eq_true (by first | (with_reducible assumption) | assumption)
                                  have q169 : x27_3 < (((rd_T61 ((rd_T44 l0 x13_1).f1) x20_2).f1).length : Int) := of_decide_eq_true (by first | (with_reducible assumption) | assumption)
                                  obtain ⟨ad169, e169, hx169_0, hx169_1, hx169_2⟩ := at_T70 HR167_1.out x27_3 p169 q169
                                  cases e169
                                  replace hx169_0 := (HB.out.cell (World.block_lt_of_cell? w _ hx169_0)).trans hx169_0
                                  replace hx169_1 := (HB.out.cell (World.block_lt_of_cell? w _ hx169_1)).trans hx169_1
                                  replace hx169_2 := (HB.out.cell (World.block_lt_of_cell? w _ hx169_2)).trans hx169_2
                                  replace p169 := eq_true p169
                                  replace q169 := eq_true q169
                                  go_wp2_with (first | ((with_reducible refine gate_dst (N := 9) rfl ?_); refine box_event ?hg (N := 9) ?hd (cs := #[.int .i64 0, .int .i64 0, .string (⟨#[]⟩ : ByteArray)]) (t := 70) ?hr ?_; (case hd => rfl); (case hg => rfl); (case hr => first | (go_simp; done) | (go_simp; rfl)); intro gb170 hg w28 hbox hb; have n0_ := Aside0.mk (blk_below (g := gb166) (o := .cells #[.int .u64 ((rd_T44 l0 x13_1).f0), .slice (some ad167) ((rd_T44 l0 x13_1).f1).length c165_1] 44 (0, 0)) (by (with_reducible repeat (first | refine blk_drewN ?_ _ | refine blk_drew ?_ | refine blk_alloc ?_ _)); exact BK166.out) hb); have n1_ := Aside0.mk (blk_below (g := gb168) (o := .cells #[.int .i64 ((rd_T61 ((rd_T44 l0 x13_1).f1) x20_2).f0), .slice (some ad169) ((rd_T61 ((rd_T44 l0 x13_1).f1) x20_2).f1).length c167_1] 61 (0, 0)) (by (with_reducible repeat (first | refine blk_drewN ?_ _ | refine blk_drew ?_ | refine blk_alloc ?_ _)); exact BK168.out) hb); have n2_ := Aside0.mk (IsS100.below (by repeat (first | (with_reducible first | exact HI160.out | apply IsS100.alloc | apply IsS100.drewN | apply IsS100.drew | apply IsS100.set_0 | refine IsS100.farT (t := 44) (a := gb166) ?_ (by (with_reducible repeat (first | exact Go.Proofs.YtjfklfmfeghjnabAid.TyAt.mk BK166.out | apply Go.Proofs.YtjfklfmfeghjnabAid.TyAt.set | apply Go.Proofs.YtjfklfmfeghjnabAid.TyAt.alloc | apply Go.Proofs.YtjfklfmfeghjnabAid.TyAt.drewN | apply Go.Proofs.YtjfklfmfeghjnabAid.TyAt.drew))) (by decide) (by decide) _ | refine IsS100.farT (t := 61) (a := gb168) ?_ (by (with_reducible repeat (first | exact Go.Proofs.YtjfklfmfeghjnabAid.TyAt.mk BK168.out | apply Go.Proofs.YtjfklfmfeghjnabAid.TyAt.set | apply Go.Proofs.YtjfklfmfeghjnabAid.TyAt.alloc | apply Go.Proofs.YtjfklfmfeghjnabAid.TyAt.drewN | apply Go.Proofs.YtjfklfmfeghjnabAid.TyAt.drew))) (by decide) (by decide) _) | exact HI160.out)) hb); have n3_ := Aside0.mk (below_step (by repeat (first | (with_reducible first | exact HB.out | apply below_alloc | apply pw_below_drewN | apply below_drew1 | refine below_set ?_ (IsS100.ge HI160.out) | refine below_set ?_ GE166.out | refine below_set ?_ GE168.out) | exact HB.out)) hb); have n4_ := Aside0.mk (hbox); have n5_ := Aside0.mk ((by rw [hg]; exact (below_size (by repeat (first | (with_reducible first | exact HB.out | apply below_alloc | apply pw_below_drewN | apply below_drew1 | refine below_set ?_ (IsS100.ge HI160.out) | refine below_set ?_ GE166.out | refine below_set ?_ GE168.out) | exact HB.out))) : w.heap.size ≤ gb170)); have n6_ := Aside0.mk ((by rw [hg]; exact (below_size (by repeat (first | (with_reducible first | exact HB.out | apply below_alloc | apply pw_below_drewN | apply below_drew1 | refine below_set ?_ (IsS100.ge HI160.out) | refine below_set ?_ GE166.out | refine below_set ?_ GE168.out) | exact HB.out))) : w.heap.size ≤ gb170)); have n7_ := Aside0.mk ((by rw [hg]; exact Nat.ne_of_lt (blk_lt (g := gb166) (o := .cells #[.int .u64 ((rd_T44 l0 x13_1).f0), .slice (some ad167) ((rd_T44 l0 x13_1).f1).length c165_1] 44 (0, 0)) (by (with_reducible repeat (first | refine blk_drewN ?_ _ | refine blk_drew ?_ | refine blk_alloc ?_ _)); exact BK166.out)) : gb166 ≠ gb170)); have n8_ := Aside0.mk ((by rw [hg]; exact Nat.ne_of_gt (blk_lt (g := gb166) (o := .cells #[.int .u64 ((rd_T44 l0 x13_1).f0), .slice (some ad167) ((rd_T44 l0 x13_1).f1).length c165_1] 44 (0, 0)) (by (with_reducible repeat (first | refine blk_drewN ?_ _ | refine blk_drew ?_ | refine blk_alloc ?_ _)); exact BK166.out)) : gb170 ≠ gb166)); have n9_ := Aside0.mk ((by rw [hg]; exact Nat.ne_of_lt (blk_lt (g := gb168) (o := .cells #[.int .i64 ((rd_T61 ((rd_T44 l0 x13_1).f1) x20_2).f0), .slice (some ad169) ((rd_T61 ((rd_T44 l0 x13_1).f1) x20_2).f1).length c167_1] 61 (0, 0)) (by (with_reducible repeat (first | refine blk_drewN ?_ _ | refine blk_drew ?_ | refine blk_alloc ?_ _)); exact BK168.out)) : gb168 ≠ gb170)); have n10_ := Aside0.mk ((by rw [hg]; exact Nat.ne_of_gt (blk_lt (g := gb168) (o := .cells #[.int .i64 ((rd_T61 ((rd_T44 l0 x13_1).f1) x20_2).f0), .slice (some ad169) ((rd_T61 ((rd_T44 l0 x13_1).f1) x20_2).f1).length c167_1] 61 (0, 0)) (by (with_reducible repeat (first | refine blk_drewN ?_ _ | refine blk_drew ?_ | refine blk_alloc ?_ _)); exact BK168.out)) : gb170 ≠ gb168)); have n11_ := Aside0.mk ((by rw [hg]; exact Nat.ne_of_lt (IsS100.lt (show IsS100 w _ g160 x161000_3 from by repeat (first | (with_reducible first | exact HI160.out | apply IsS100.alloc | apply IsS100.drewN | apply IsS100.drew | apply IsS100.set_0 | refine IsS100.farT (t := 44) (a := gb166) ?_ (by (with_reducible repeat (first | exact Go.Proofs.YtjfklfmfeghjnabAid.TyAt.mk BK166.out | apply Go.Proofs.YtjfklfmfeghjnabAid.TyAt.set | apply Go.Proofs.YtjfklfmfeghjnabAid.TyAt.alloc | apply Go.Proofs.YtjfklfmfeghjnabAid.TyAt.drewN | apply Go.Proofs.YtjfklfmfeghjnabAid.TyAt.drew))) (by decide) (by decide) _ | refine IsS100.farT (t := 61) (a := gb168) ?_ (by (with_reducible repeat (first | exact Go.Proofs.YtjfklfmfeghjnabAid.TyAt.mk BK168.out | apply Go.Proofs.YtjfklfmfeghjnabAid.TyAt.set | apply Go.Proofs.YtjfklfmfeghjnabAid.TyAt.alloc | apply Go.Proofs.YtjfklfmfeghjnabAid.TyAt.drewN | apply Go.Proofs.YtjfklfmfeghjnabAid.TyAt.drew))) (by decide) (by decide) _) | exact HI160.out))) : g160 ≠ gb170)); have n12_ := Aside0.mk ((by rw [hg]; exact Nat.ne_of_gt (IsS100.lt (show IsS100 w _ g160 x161000_3 from by repeat (first | (with_reducible first | exact HI160.out | apply IsS100.alloc | apply IsS100.drewN | apply IsS100.drew | apply IsS100.set_0 | refine IsS100.farT (t := 44) (a := gb166) ?_ (by (with_reducible repeat (first | exact Go.Proofs.YtjfklfmfeghjnabAid.TyAt.mk BK166.out | apply Go.Proofs.YtjfklfmfeghjnabAid.TyAt.set | apply Go.Proofs.YtjfklfmfeghjnabAid.TyAt.alloc | apply Go.Proofs.YtjfklfmfeghjnabAid.TyAt.drewN | apply Go.Proofs.YtjfklfmfeghjnabAid.TyAt.drew))) (by decide) (by decide) _ | refine IsS100.farT (t := 61) (a := gb168) ?_ (by (with_reducible repeat (first | exact Go.Proofs.YtjfklfmfeghjnabAid.TyAt.mk BK168.out | apply Go.Proofs.YtjfklfmfeghjnabAid.TyAt.set | apply Go.Proofs.YtjfklfmfeghjnabAid.TyAt.alloc | apply Go.Proofs.YtjfklfmfeghjnabAid.TyAt.drewN | apply Go.Proofs.YtjfklfmfeghjnabAid.TyAt.drew))) (by decide) (by decide) _) | exact HI160.out))) : gb170 ≠ g160)); clear BK166; clear BK168; clear HI160; clear HB; have BK166 := n0_; have BK168 := n1_; have HI160 := n2_; have HB := n3_; have BK170 := n4_; have GW170 := n5_; have GE170 := n6_; have NB166_170 := n7_; have NB170_166 := n8_; have NB168_170 := n9_; have NB170_168 := n10_; have NB160_170 := n11_; have NB170_160 := n12_; clear n0_ n1_ n2_ n3_ n4_ n5_ n6_ n7_ n8_ n9_ n10_ n11_ n12_; clear hb hbox hg; have hnb29 := NB170_166.out; have hnc29 := NB166_170.out; have hnb30 := NB170_168.out; have hnc30 := NB168_170.out; have hnb31 := NB170_160.out; have hnc31 := NB160_170.out; have hcz32_0 : w28.cell? ⟨gb170, 0, none⟩ = some (.int .i64 0) := (blk_cell BK170.out 0).trans rfl; have hcz32_1 : w28.cell? ⟨gb170, 1, none⟩ = some (.int .i64 0) := (blk_cell BK170.out 1).trans rfl; have hcz32_2 : w28.cell? ⟨gb170, 2, none⟩ = some (.string (⟨#[]⟩ : ByteArray)) := (blk_cell BK170.out 2).trans rfl; have hfz32_0 := blk_frozen BK170.out 0; have hfz32_1 := blk_frozen BK170.out 1; have hfz32_2 := blk_frozen BK170.out 2))
                                  go_roundg k3
                                  case measure => have := HK1.out; have := HK2.out; have := HK3.out; omega
                                  case rel => exact ⟨(wrap64 (x27_3 + 1)), (x161000_3), (by first | rfl | (simp; done) | (simp [*]; done)), H', ⟨by have := HK1.out; have := HK2.out; have := HK3.out; omega⟩, ⟨by (with_reducible repeat (first | refine blk_drewN ?_ _ | refine blk_drew ?_ | refine blk_alloc ?_ _)); refine blk_far ?_ NB166_170.out _; (with_reducible repeat (first | refine blk_drewN ?_ _ | refine blk_drew ?_ | refine blk_alloc ?_ _)); refine blk_far ?_ NB166_170.out _; (with_reducible repeat (first | refine blk_drewN ?_ _ | refine blk_drew ?_ | refine blk_alloc ?_ _)); refine blk_far ?_ NB166_170.out _; (with_reducible repeat (first | refine blk_drewN ?_ _ | refine blk_drew ?_ | refine blk_alloc ?_ _)); exact BK166.out⟩, ⟨by (with_reducible repeat (first | refine blk_drewN ?_ _ | refine blk_drew ?_ | refine blk_alloc ?_ _)); refine blk_far ?_ NB168_170.out _; (with_reducible repeat (first | refine blk_drewN ?_ _ | refine blk_drew ?_ | refine blk_alloc ?_ _)); refine blk_far ?_ NB168_170.out _; (with_reducible repeat (first | refine blk_drewN ?_ _ | refine blk_drew ?_ | refine blk_alloc ?_ _)); refine blk_far ?_ NB168_170.out _; (with_reducible repeat (first | refine blk_drewN ?_ _ | refine blk_drew ?_ | refine blk_alloc ?_ _)); exact BK168.out⟩, ⟨by repeat (first | (with_reducible first | exact HI160.out | apply IsS100.alloc | apply IsS100.drewN | apply IsS100.drew | apply IsS100.set_0 | refine IsS100.farT (t := 44) (a := gb166) ?_ (by (with_reducible repeat (first | exact Go.Proofs.YtjfklfmfeghjnabAid.TyAt.mk BK166.out | apply Go.Proofs.YtjfklfmfeghjnabAid.TyAt.set | apply Go.Proofs.YtjfklfmfeghjnabAid.TyAt.alloc | apply Go.Proofs.YtjfklfmfeghjnabAid.TyAt.drewN | apply Go.Proofs.YtjfklfmfeghjnabAid.TyAt.drew))) (by decide) (by decide) _ | refine IsS100.farT (t := 61) (a := gb168) ?_ (by (with_reducible repeat (first | exact Go.Proofs.YtjfklfmfeghjnabAid.TyAt.mk BK168.out | apply Go.Proofs.YtjfklfmfeghjnabAid.TyAt.set | apply Go.Proofs.YtjfklfmfeghjnabAid.TyAt.alloc | apply Go.Proofs.YtjfklfmfeghjnabAid.TyAt.drewN | apply Go.Proofs.YtjfklfmfeghjnabAid.TyAt.drew))) (by decide) (by decide) _ | refine IsS100.farT (t := 70) (a := gb170) ?_ (by (with_reducible repeat (first | exact Go.Proofs.YtjfklfmfeghjnabAid.TyAt.mk BK170.out | apply Go.Proofs.YtjfklfmfeghjnabAid.TyAt.set | apply Go.Proofs.YtjfklfmfeghjnabAid.TyAt.alloc | apply Go.Proofs.YtjfklfmfeghjnabAid.TyAt.drewN | apply Go.Proofs.YtjfklfmfeghjnabAid.TyAt.drew))) (by decide) (by decide) _) | exact HI160.out)⟩, ⟨by repeat (first | (with_reducible first | exact HB.out | apply below_alloc | apply pw_below_drewN | apply below_drew1 | refine below_set ?_ (IsS100.ge HI160.out) | refine below_set ?_ GE166.out | refine below_set ?_ GE168.out | refine below_set ?_ GE170.out) | exact HB.out)⟩⟩
                              · rw [if_neg c19] at H
                                exact absurd H (by simp)
                            · rw [if_neg c18] at H
                              exact absurd H (by simp)
                          · rw [if_neg c17] at H
                            have c17b0 : decide (x27_3 < (((rd_T61 ((rd_T44 l0 x13_1).f1) x20_2).f1).length : Int)) = false := decide_eq_false c17
                            clear c17
                            have H' := Aside0.mk H
                            clear H
                            go_wp2
                            go_roundg k3
                            case measure => have := HK1.out; have := HK2.out; have := HK3.out; omega
                            case rel => exact ⟨(wrap64 (x20_2 + 1)), (x161000_3), (by first | rfl | (simp; done) | (simp [*]; done)), H', ⟨by have := HK1.out; have := HK2.out; have := HK3.out; omega⟩, ⟨by (with_reducible repeat (first | refine blk_drewN ?_ _ | refine blk_drew ?_ | refine blk_alloc ?_ _)); exact BK166.out⟩, ⟨by repeat (first | (with_reducible first | exact HI160.out | apply IsS100.alloc | apply IsS100.drewN | apply IsS100.drew | apply IsS100.set_0 | refine IsS100.farT (t := 44) (a := gb166) ?_ (by (with_reducible repeat (first | exact Go.Proofs.YtjfklfmfeghjnabAid.TyAt.mk BK166.out | apply Go.Proofs.YtjfklfmfeghjnabAid.TyAt.set | apply Go.Proofs.YtjfklfmfeghjnabAid.TyAt.alloc | apply Go.Proofs.YtjfklfmfeghjnabAid.TyAt.drewN | apply Go.Proofs.YtjfklfmfeghjnabAid.TyAt.drew))) (by decide) (by decide) _ | refine IsS100.farT (t := 61) (a := gb168) ?_ (by (with_reducible repeat (first | exact Go.Proofs.YtjfklfmfeghjnabAid.TyAt.mk BK168.out | apply Go.Proofs.YtjfklfmfeghjnabAid.TyAt.set | apply Go.Proofs.YtjfklfmfeghjnabAid.TyAt.alloc | apply Go.Proofs.YtjfklfmfeghjnabAid.TyAt.drewN | apply Go.Proofs.YtjfklfmfeghjnabAid.TyAt.drew))) (by decide) (by decide) _) | exact HI160.out)⟩, ⟨by repeat (first | (with_reducible first | exact HB.out | apply below_alloc | apply pw_below_drewN | apply below_drew1 | refine below_set ?_ (IsS100.ge HI160.out) | refine below_set ?_ GE166.out | refine below_set ?_ GE168.out) | exact HB.out)⟩⟩
                    · rw [if_neg c12] at H
                      exact absurd H (by simp)
                  · rw [if_neg c11] at H
                    exact absurd H (by simp)
                · rw [if_neg c10] at H
                  have c10b0 : decide (x20_2 < (((rd_T44 l0 x13_1).f1).length : Int)) = false := decide_eq_false c10
                  clear c10
                  have H' := Aside0.mk H
                  clear H
                  go_wp2
                  go_roundg k2
                  case measure => have := HK1.out; have := HK2.out; omega
                  case rel => exact ⟨(wrap64 (x13_1 + 1)), (x161000_2), (by first | rfl | (simp; done) | (simp [*]; done)), H', ⟨by have := HK1.out; have := HK2.out; omega⟩, ⟨by repeat (first | (with_reducible first | exact HI160.out | apply IsS100.alloc | apply IsS100.drewN | apply IsS100.drew | apply IsS100.set_0 | refine IsS100.farT (t := 44) (a := gb166) ?_ (by (with_reducible repeat (first | exact Go.Proofs.YtjfklfmfeghjnabAid.TyAt.mk BK166.out | apply Go.Proofs.YtjfklfmfeghjnabAid.TyAt.set | apply Go.Proofs.YtjfklfmfeghjnabAid.TyAt.alloc | apply Go.Proofs.YtjfklfmfeghjnabAid.TyAt.drewN | apply Go.Proofs.YtjfklfmfeghjnabAid.TyAt.drew))) (by decide) (by decide) _) | exact HI160.out)⟩, ⟨by repeat (first | (with_reducible first | exact HB.out | apply below_alloc | apply pw_below_drewN | apply below_drew1 | refine below_set ?_ (IsS100.ge HI160.out) | refine below_set ?_ GE166.out) | exact HB.out)⟩⟩
          · rw [if_neg c6] at H
            exact absurd H (by simp)
        · rw [if_neg c5] at H
          exact absurd H (by simp)
      · rw [if_neg c4] at H
        have c4b0 : decide (x13_1 < (l0.length : Int)) = false := decide_eq_false c4
        clear c4
        obtain rfl := Option.some.inj H
        go_wp2
        go_ret
        have hb_ := (by repeat (first | (with_reducible first | exact HB.out | apply below_alloc | apply pw_below_drewN | apply below_drew1) | exact HB.out) : Below w.heap.size w _)
        exact ⟨g160, rfl, Go.Proofs.YtjfklfmfeghjnabAid.IsDict.later (w1 := w) (by repeat (first | (with_reducible first | exact HI160.out | apply IsS100.alloc | apply IsS100.drewN | apply IsS100.drew) | exact HI160.out)) HB0.out.size, below_weaken HB0.out HB0.out.size hb_, hb_⟩

/-! ### tachographref13_Place: function 22 -/
def tachographref13_Place.l0 : Nat → List ByteArray → ByteArray → Int → Option (Int)
  | 0, _, _, _ => none
  | k + 1, x0, x1, x5 => if x5 < (x0.length : Int) then (if 0 ≤ x5 then (if (rdOf ByteArray.empty x0 x5).toList = x1.toList then (some x5) else (tachographref13_Place.l0 k x0 x1 (wrap64 (x5 + 1)))) else (none)) else (some (-1))
def tachographref13_Place.f (k : Nat) (l0 : List ByteArray) (a1 : ByteArray) : Option (Int) := tachographref13_Place.l0 k l0 a1 0
theorem tachographref13_Place.mono_l : ∀ k, (∀ y0 y1 y2, LeO (tachographref13_Place.l0 k y0 y1 y2) (tachographref13_Place.l0 (k + 1) y0 y1 y2))
  | 0 => fun _ _ _ r h => by simp [tachographref13_Place.l0] at h
  | k + 1 => by
    have ih0 := tachographref13_Place.mono_l k
    · intro y0 y1 y2
      unfold tachographref13_Place.l0
      repeat' first
      | (with_reducible exact ih0 _ _ _)
      | (with_reducible exact LeO.refl _)
      | (with_reducible exact LeO.none _)
      | (with_reducible refine LeO.ite ?_ ?_)
      | (with_reducible refine LeO.bind ?_ (fun _ => ?_))
      | exact ih0 _ _ _
      | exact LeO.none _
      | refine LeO.ite ?_ ?_
      | refine LeO.bind ?_ (fun _ => ?_)
theorem tachographref13_Place.mono : ∀ a0 a1 k, LeO (tachographref13_Place.f k a0 a1) (tachographref13_Place.f (k + 1) a0 a1) := by
  intro a0 a1 k
  have ih0 := tachographref13_Place.mono_l k
  unfold tachographref13_Place.f
  repeat' first
      | (with_reducible exact ih0 _ _ _)
      | (with_reducible exact LeO.refl _)
      | (with_reducible exact LeO.none _)
      | (with_reducible refine LeO.ite ?_ ?_)
      | (with_reducible refine LeO.bind ?_ (fun _ => ?_))
      | exact ih0 _ _ _
      | exact LeO.none _
      | refine LeO.ite ?_ ?_
      | refine LeO.bind ?_ (fun _ => ?_)
set_option maxHeartbeats 8000000 in
set_option maxRecDepth 100000 in
theorem tachographref13_Place.calls (k : Nat) (A0 : Option Addr) (c0 : Nat) (l0 : List ByteArray) (a1 : ByteArray) (r : Int) (w : World) (hr0 : Kd.C Kd.string w A0 l0.length l0) (hc0 : l0.length ≤ c0) (h : tachographref13_Place.f k l0 a1 = some r) :
    Calls Try.prog 22 #[.slice A0 l0.length c0, .string a1] w fun e w' => e = .returned (.int .i64 r) ∧ Drawn0 w w' := by
  have HR0 := Aside0.mk hr0
  have HC0 := Aside0.mk hc0
  clear hr0 hc0
  have H : (tachographref13_Place.l0 k l0 a1 0) = some r := h
  clear h
  have H' := Aside0.mk H
  clear H
  go_enter Try.func22, Try.ntmps22
  go_wp2
  go_loopg [5] k (fun kq v5 w' => ∃ (x5_1 : Int), v5 = .int .i64 x5_1 ∧ Aside0 (tachographref13_Place.l0 kq l0 a1 x5_1 = some r) ∧ Aside0 (kq ≤ k) ∧ Drawn0 w w')
  case atStart => exact ⟨(0), (by first | rfl | (simp; done) | (simp [*]; done)), H', ⟨Nat.le_refl _⟩, by repeat (first | exact Drawn0.refl _ | apply Drawn0.step)⟩
  case round =>
    clear H'
    try clear c2
    try clear p2
    obtain ⟨x5_1, rfl, HA, HK1, ⟨m1, rfl⟩⟩ := hrel
    cases gk with
    | zero => exact absurd HA.out (by simp [tachographref13_Place.l0])
    | succ k1 =>
      have H := HA.out
      clear HA
      simp only [tachographref13_Place.l0] at H
      by_cases c3 : x5_1 < (l0.length : Int)
      · rw [if_pos c3] at H
        have c3b0 : decide (x5_1 < (l0.length : Int)) = true := decide_eq_true c3
        clear c3
        by_cases c4 : 0 ≤ x5_1
        · rw [if_pos c4] at H
          have c4b0 : decide (0 ≤ x5_1) = true := decide_eq_true c4
          clear c4
          by_cases c5 : (rdOf ByteArray.empty l0 x5_1).toList = a1.toList
          · rw [if_pos c5] at H
            have c5b0 : ((rdOf ByteArray.empty l0 x5_1).toList == a1.toList) = true := beq_iff_eq.mpr c5
            have c5b1 : ((rdOf ByteArray.empty l0 x5_1).toList != a1.toList) = false := bne_eq_false_iff_eq.mpr c5
            clear c5
            obtain rfl := Option.some.inj H
            have p117 : 0 ≤ (x5_1 : Int) := of_decide_eq_true (by first | (with_reducible assumption) | assumption)
            have q117 : x5_1 < (l0.length : Int) := of_decide_eq_true (by first | (with_reducible assumption) | assumption)
            obtain ⟨ad117, e117, hx117_0⟩ := Kd.at_string HR0.out x5_1 p117 q117
            cases e117
            replace p117 := eq_true p117
            replace q117 := eq_true q117
            go_wp2
            go_ret
            exact ⟨by first | rfl | (simp; done) | (simp [*]; done), by repeat (first | exact Drawn0.refl _ | apply Drawn0.step)⟩
          · rw [if_neg c5] at H
            have c5b0 : ((rdOf ByteArray.empty l0 x5_1).toList == a1.toList) = false := beq_eq_false_iff_ne.mpr c5
            have c5b1 : ((rdOf ByteArray.empty l0 x5_1).toList != a1.toList) = true := bne_iff_ne.mpr c5
            have H' := Aside0.mk H
            clear H
            have p117 : 0 ≤ (x5_1 : Int) := of_decide_eq_true (by first | (with_reducible assumption) | assumption)
            have q117 : x5_1 < (l0.length : Int) := of_decide_eq_true (by first | (with_reducible assumption) | assumption)
            obtain ⟨ad117, e117, hx117_0⟩ := Kd.at_string HR0.out x5_1 p117 q117
            cases e117
            replace p117 := eq_true p117
            replace q117 := eq_true q117
            go_wp2
            go_roundg k1
            case measure => have := HK1.out; omega
            case rel => exact ⟨(wrap64 (x5_1 + 1)), (by first | rfl | (simp; done) | (simp [*]; done)), H', ⟨by have := HK1.out; omega⟩, by repeat (first | exact Drawn0.refl _ | apply Drawn0.step)⟩
        · rw [if_neg c4] at H
          exact absurd H (by simp)
      · rw [if_neg c3] at H
        have c3b0 : decide (x5_1 < (l0.length : Int)) = false := decide_eq_false c3
        clear c3
        obtain rfl := Option.some.inj H
        go_wp2
        go_ret
        exact ⟨by first | rfl | (simp; done) | (simp [*]; done), by repeat (first | exact Drawn0.refl _ | apply Drawn0.step)⟩

/-! ### tachographref13_Put: function 17 -/
def tachographref13_Put.f (k : Nat) (l0 : List ByteArray) (a1 : ByteArray) : Option (List ByteArray × Int) := (tachographref13_Place.f k l0 a1).bind fun t118 => (if t118 ≥ 0 then (some (l0, t118)) else ((some (([] : List ByteArray) : List ByteArray)).bind fun y119 => (if y119.length + l0.length < 8796093022208 then ((some (y119 ++ l0 : List ByteArray)).bind fun y122 => (if y122.length < 8796093022208 then (some ((y122 ++ [a1]), (l0.length : Int))) else (none))) else (none))))
theorem tachographref13_Put.mono : ∀ a0 a1 k, LeO (tachographref13_Put.f k a0 a1) (tachographref13_Put.f (k + 1) a0 a1) := by
  intro a0 a1 k
  unfold tachographref13_Put.f
  repeat' first
      | (with_reducible exact tachographref13_Place.mono _ _ _)
      | (with_reducible exact LeO.refl _)
      | (with_reducible exact LeO.none _)
      | (with_reducible refine LeO.ite ?_ ?_)
      | (with_reducible refine LeO.bind ?_ (fun _ => ?_))
      | exact tachographref13_Place.mono _ _ _
      | exact LeO.none _
      | refine LeO.ite ?_ ?_
      | refine LeO.bind ?_ (fun _ => ?_)
set_option maxHeartbeats 8000000 in
set_option maxRecDepth 100000 in
theorem tachographref13_Put.calls (k : Nat) (P0_ : Nat → Prop) (u9000_ : Value) (l0 : List ByteArray) (a1 : ByteArray) (r1 : List ByteArray) (r2 : Int) (w0 w : World) (hB : Below w0.heap.size w0 w) (ho0 : Kd.R Kd.string 9 w w0.heap.size P0_ u9000_ l0) (h : tachographref13_Put.f k l0 a1 = some (r1, r2)) :
    Calls Try.prog 17 #[u9000_, .string a1] w fun e w' => ∃ v0_ : Value, e = .returned (.tuple #[v0_, .int .i64 r2]) ∧ Kd.R Kd.string 9 w' w0.heap.size (fun k_ => (P0_ k_ ∨ w.heap.size ≤ k_)) v0_ r1 ∧ Below w0.heap.size w0 w' ∧ Kept w w' (fun k_ => P0_ k_) := by
  have HO0 := Aside0.mk (show Kd.R Kd.string 9 w w0.heap.size (fun k_ => (P0_ k_ ∨ w.heap.size ≤ k_)) u9000_ l0 from Kd.R_mono ho0 (fun k_ hk => (.inl hk)))
  have HK := Aside0.mk (Kept.refl w (fun k_ => P0_ k_))
  have HW0 := Aside0.mk hB.size
  have HB := Aside0.mk hB
  clear hB
  have H : ((tachographref13_Place.f k l0 a1).bind fun t118 => (if t118 ≥ 0 then (some (l0, t118)) else ((some (([] : List ByteArray) : List ByteArray)).bind fun y119 => (if y119.length + l0.length < 8796093022208 then ((some (y119 ++ l0 : List ByteArray)).bind fun y122 => (if y122.length < 8796093022208 then (some ((y122 ++ [a1]), (l0.length : Int))) else (none))) else (none))))) = some (r1, r2) := h
  clear h
  replace H := Option.bind_eq_some_iff.mp H
  obtain ⟨t118, A30, H⟩ := H
  replace H : (if t118 ≥ 0 then (some (l0, t118)) else ((some (([] : List ByteArray) : List ByteArray)).bind fun y119 => (if y119.length + l0.length < 8796093022208 then ((some (y119 ++ l0 : List ByteArray)).bind fun y122 => (if y122.length < 8796093022208 then (some ((y122 ++ [a1]), (l0.length : Int))) else (none))) else (none)))) = some (r1, r2) := H
  have A3 := Aside0.mk A30
  clear A30
  by_cases c4 : t118 ≥ 0
  · rw [if_pos c4] at H
    have c4b0 : decide (0 ≤ t118) = true := decide_eq_true c4
    clear c4
    simp only [Option.some.injEq, Prod.mk.injEq] at H
    obtain ⟨rfl, rfl⟩ := H
    obtain ⟨Ao5, co5, eo5⟩ := Kd.R_slice HO0.out
    subst eo5
    go_enter Try.func17, Try.ntmps17
    go_wp2_with (first | ((with_reducible refine gate_callee (f := 22) rfl ?_); refine goesL_ (some 9) rfl rfl Try.func22 (by kernel_rfl) rfl #[.slice Ao5 l0.length co5, .string a1] rfl (by (try simp only [List.map_toArray, List.map_cons, List.map_nil]); first | done | rfl | (simp only [List.length_drop, List.length_take]; rfl) | (refine congrArg (fun z_ => #[z_]) (congrArg (Value.int IntKind.u64) (Eq.symm (Go.Proofs.YtjfklfmfeghjnabAid.wrap_len _ (by omega)))))) ?_; (with_reducible refine (tachographref13_Place.calls k _ _ l0 a1 t118 _ ?side1 ?side2 A3.out).mono ?_); (case side1 => repeat (first | exact (Kd.R_reads' HO0.out).2.2 | (with_reducible refine Kd.C_alloc ?_ _) | (with_reducible refine Kd.C_drewN ?_ _) | (with_reducible refine Kd.C_drew ?_))); (case side2 => exact (Kd.R_reads' HO0.out).2.1); rintro e w' ⟨rfl, ⟨nd, rfl⟩⟩; refine ⟨_, rfl, ?_⟩))
    go_ret2
    exact ⟨_, by first | rfl | (simp [errW_none, errW_some] <;> rfl) | (simp [*, errW_none, errW_some] <;> rfl), by (with_reducible repeat (first | apply Kd.R_alloc | apply Kd.R_drewN | apply Kd.R_drew)); exact HO0.out, by repeat (first | (with_reducible first | exact HB.out | apply below_alloc | apply pw_below_drewN | apply below_drew1) | exact HB.out), by repeat (first | (with_reducible first | exact HK.out | apply Kept.alloc | apply Kept.drewN | apply Kept.drew) | exact HK.out)⟩
  · rw [if_neg c4] at H
    have c4b0 : decide (0 ≤ t118) = false := decide_eq_false c4
    clear c4
    obtain ⟨y119, hy119⟩ : ∃ y_ : List ByteArray, y_ = (([] : List ByteArray)) := ⟨_, rfl⟩
    replace H : (if y119.length + l0.length < 8796093022208 then ((some (y119 ++ l0 : List ByteArray)).bind fun y122 => (if y122.length < 8796093022208 then (some ((y122 ++ [a1]), (l0.length : Int))) else (none))) else (none)) = some (r1, r2) := by first | (rw [hy119]; with_reducible exact H) | (have H2_ := (Option.bind_some _ _).symm.trans H; rw [hy119]; with_reducible exact H2_) | (have H2_ := (Option.bind_some _ _).symm.trans H; with_reducible exact H2_) | with_reducible exact H | (rw [hy119]; exact H) | exact H
    have Ny119 := Aside0.mk hy119
    clear hy119
    by_cases c6 : y119.length + l0.length < 8796093022208
    · rw [if_pos c6] at H
      have LMc6 := Aside0.mk c6
      clear c6
      obtain ⟨y122, hy122⟩ : ∃ y_ : List ByteArray, y_ = (y119 ++ l0) := ⟨_, rfl⟩
      replace H : (if y122.length < 8796093022208 then (some ((y122 ++ [a1]), (l0.length : Int))) else (none)) = some (r1, r2) := by first | (rw [hy122]; with_reducible exact H) | (have H2_ := (Option.bind_some _ _).symm.trans H; rw [hy122]; with_reducible exact H2_) | (have H2_ := (Option.bind_some _ _).symm.trans H; with_reducible exact H2_) | with_reducible exact H | (rw [hy122]; exact H) | exact H
      have Ny122 := Aside0.mk hy122
      clear hy122
      by_cases c7 : y122.length < 8796093022208
      · rw [if_pos c7] at H
        have LMc7 := Aside0.mk c7
        clear c7
        obtain ⟨y125, hy125⟩ : ∃ y_ : List ByteArray, y_ = (y122 ++ [a1]) := ⟨_, rfl⟩
        replace H : (some (y125, (l0.length : Int))) = some (r1, r2) := by first | (rw [hy125]; with_reducible exact H) | (have H2_ := (Option.bind_some _ _).symm.trans H; rw [hy125]; with_reducible exact H2_) | (have H2_ := (Option.bind_some _ _).symm.trans H; with_reducible exact H2_) | with_reducible exact H | (rw [hy125]; exact H) | exact H
        have Ny125 := Aside0.mk hy125
        clear hy125
        simp only [Option.some.injEq, Prod.mk.injEq] at H
        obtain ⟨rfl, rfl⟩ := H
        obtain ⟨Ao8, co8, eo8⟩ := Kd.R_slice HO0.out
        subst eo8
        go_enter Try.func17, Try.ntmps17
        go_wp2_with (first | ((with_reducible refine gate_callee (f := 22) rfl ?_); refine goesL_ (some 9) rfl rfl Try.func22 (by kernel_rfl) rfl #[.slice Ao8 l0.length co8, .string a1] rfl (by (try simp only [List.map_toArray, List.map_cons, List.map_nil]); first | done | rfl | (simp only [List.length_drop, List.length_take]; rfl) | (refine congrArg (fun z_ => #[z_]) (congrArg (Value.int IntKind.u64) (Eq.symm (Go.Proofs.YtjfklfmfeghjnabAid.wrap_len _ (by omega)))))) ?_; (with_reducible refine (tachographref13_Place.calls k _ _ l0 a1 t118 _ ?side1 ?side2 A3.out).mono ?_); (case side1 => repeat (first | exact (Kd.R_reads' HO0.out).2.2 | (with_reducible refine Kd.C_alloc ?_ _) | (with_reducible refine Kd.C_drewN ?_ _) | (with_reducible refine Kd.C_drew ?_))); (case side2 => exact (Kd.R_reads' HO0.out).2.1); rintro e w' ⟨rfl, ⟨nd, rfl⟩⟩; refine ⟨_, rfl, ?_⟩) | ((with_reducible refine gate_dst (N := 14) rfl ?_); refine Kd.R_lit Kd.string _ 9 ?hg (N := 14) ?hd (xs := ([] : List ByteArray)) (inner := []) (ok := fun _ => True) (okp := fun _ => True) ?hr ?hp (fun _ hk => hk) trivial (Below.refl _ _) (Nat.le_refl _) (by simp) ?_; (case hd => rfl); (case hg => rfl); (case hr => first | (go_simp; done) | (go_simp; rfl)); (case hp => exact (Reps.none _ _)); intro v120 w9 ho10 hb hg_ hnew_; clear hg_ hnew_; (first | rw [← Ny119.out] at ho10 | (simp only [Int.reduceToNat] at ho10; rw [← Ny119.out] at ho10)); have n0_ := Aside0.mk (Kd.R_elder' (by (with_reducible repeat (first | apply Kd.R_alloc | apply Kd.R_drewN | apply Kd.R_drew)); exact HO0.out) (Kd.R_base ho10) hb); have n1_ := Aside0.mk (Kd.R_lower (Kd.R_new' (Kd.R_newM (M := fun k_ => (P0_ k_ ∨ w.heap.size ≤ k_)) ho10 (by first | exact HK.out.1 | exact (show Kept w _ (fun k_ => P0_ k_) from by repeat (first | (with_reducible first | exact HK.out | apply Kept.alloc | apply Kept.drewN | apply Kept.drew) | exact HK.out)).1) (fun k_ h_ => .inr h_)) (Kd.R_lt (by (with_reducible repeat (first | apply Kd.R_alloc | apply Kd.R_drewN | apply Kd.R_drew)); exact HO0.out))) (below_size (by repeat (first | (with_reducible first | exact HB.out | apply below_alloc | apply pw_below_drewN | apply below_drew1) | exact HB.out)))); have n2_ := Aside0.mk (Kept.below (S := (fun k_ => P0_ k_)) (by repeat (first | (with_reducible first | exact HK.out | apply Kept.alloc | apply Kept.drewN | apply Kept.drew) | exact HK.out)) hb); have n3_ := Aside0.mk (below_step (by repeat (first | (with_reducible first | exact HB.out | apply below_alloc | apply pw_below_drewN | apply below_drew1) | exact HB.out)) hb); clear HO0; clear HK; clear HB; have HO0 := n0_; have HO121 := n1_; have HK := n2_; have HB := n3_; clear n0_ n1_ n2_ n3_; clear hb ho10) | ((with_reducible refine gate_builtin (b := .append) (xs := #[.tmp 14, .tmp 15]) rfl ?_); at_builtin; refine Kd.R_append_rows Kd.string (w0 := w0) w0.heap.size rfl (.tmp 14) (.tmp 15) 22 9 (.string ⟨#[]⟩) 16 rfl Try.underlying22 info9 rfl (by decide) (by omega) v120 y119 l0 _ _ _ (fun k_ => (P0_ k_ ∨ w.heap.size ≤ k_) ∧ some k_ ≠ (.slice Ao8 l0.length co8 : Value).ownBlock) (fun _ => False) rfl rfl ?aO ?aR (fun _ _ h => h) (fun _ h => h.elim) ?aF ?aB ?aS ?aL ?_; (case aR => repeat (first | exact (Kd.R_reads' HO0.out).2.2 | (with_reducible refine Kd.C_alloc ?_ _) | (with_reducible refine Kd.C_drewN ?_ _) | (with_reducible refine Kd.C_drew ?_))); (case aB => exact (by repeat (first | (with_reducible first | exact HB.out | apply below_alloc | apply pw_below_drewN | apply below_drew1) | exact HB.out))); (case aF => exact (fun k_ hk => ⟨(.inr (Nat.le_trans (by first | exact HK.out.1 | exact (show Kept w _ (fun k_ => P0_ k_) from by repeat (first | (with_reducible first | exact HK.out | apply Kept.alloc | apply Kept.drewN | apply Kept.drew) | exact HK.out)).1) hk)), Kd.fresh' (Kd.R_lt (by (with_reducible repeat (first | apply Kd.R_alloc | apply Kd.R_drewN | apply Kd.R_drew)); exact HO0.out)) k_ hk⟩)); (case aO => exact (by (with_reducible repeat (first | apply Kd.R_alloc | apply Kd.R_drewN | apply Kd.R_drew)); exact Kd.R_mono HO121.out (fun _ hk => ⟨hk.1.1, hk.2⟩))); (case aS => exact (below_size (by repeat (first | (with_reducible first | exact HB.out | apply below_alloc | apply pw_below_drewN | apply below_drew1) | exact HB.out)))); (case aL => have := LMc6.out; omega); intro v123 w11 ho hb hg hat; rw [← Ny122.out] at ho; have n0_ := Aside0.mk (Kd.R_after (ok := (fun k_ => (P0_ k_ ∨ w.heap.size ≤ k_))) (by (with_reducible repeat (first | apply Kd.R_alloc | apply Kd.R_drewN | apply Kd.R_drew)); exact HO0.out) hg hat); have n1_ := Aside0.mk (hb); have n2_ := Aside0.mk (Kept.of_grown (S := (fun k_ => P0_ k_)) hg (by repeat (first | (with_reducible first | exact HK.out | apply Kept.alloc | apply Kept.drewN | apply Kept.drew) | exact HK.out)) (fun k_ e_ => (HO121.out.1 k_ e_).1.1)); have n3_ := Aside0.mk (ho); clear HO0; clear HB; clear HK; clear HO121; have HO0 := n0_; have HB := n1_; have HK := n2_; have HO124 := n3_; clear n0_ n1_ n2_ n3_; clear ho hb hg hat) | ((with_reducible refine gate_builtin (b := .append) (xs := #[.tmp 16, .tmp 18]) rfl ?_); at_builtin; refine Kd.R_append Kd.string (w0 := w0) w0.heap.size rfl (.tmp 16) (.tmp 18) 22 9 (.string ⟨#[]⟩) 16 rfl Try.underlying22 info9 rfl (by decide) (by omega) v123 y122 a1 [.string a1] (fun k_ => (P0_ k_ ∨ w.heap.size ≤ k_) ∧ some k_ ≠ (.slice Ao8 l0.length co8 : Value).ownBlock) (fun _ => False) rfl rfl ?aP (fun _ hk => hk.elim) ?aF ?aO ?aB ?aS ?aL ?_; (case aP => exact rfl); (case aB => exact (by repeat (first | (with_reducible first | exact HB.out | apply below_alloc | apply pw_below_drewN | apply below_drew1) | exact HB.out))); (case aF => exact (fun k_ hk => ⟨(.inr (Nat.le_trans (by first | exact HK.out.1 | exact (show Kept w _ (fun k_ => P0_ k_) from by repeat (first | (with_reducible first | exact HK.out | apply Kept.alloc | apply Kept.drewN | apply Kept.drew) | exact HK.out)).1) hk)), Kd.fresh' (Kd.R_lt (by (with_reducible repeat (first | apply Kd.R_alloc | apply Kd.R_drewN | apply Kd.R_drew)); exact HO0.out)) k_ hk⟩)); (case aO => exact (by (with_reducible repeat (first | apply Kd.R_alloc | apply Kd.R_drewN | apply Kd.R_drew)); exact HO124.out)); (case aS => exact (below_size (by repeat (first | (with_reducible first | exact HB.out | apply below_alloc | apply pw_below_drewN | apply below_drew1) | exact HB.out)))); (case aL => have := LMc7.out; omega); intro v126 w12 ho hb hg hat; rw [← Ny125.out] at ho; have n0_ := Aside0.mk (Kd.R_after (ok := (fun k_ => (P0_ k_ ∨ w.heap.size ≤ k_))) (by (with_reducible repeat (first | apply Kd.R_alloc | apply Kd.R_drewN | apply Kd.R_drew)); exact HO0.out) hg hat); have n1_ := Aside0.mk (hb); have n2_ := Aside0.mk (Kept.of_grown (S := (fun k_ => P0_ k_)) hg (by repeat (first | (with_reducible first | exact HK.out | apply Kept.alloc | apply Kept.drewN | apply Kept.drew) | exact HK.out)) (fun k_ e_ => (HO124.out.1 k_ e_).1)); have n3_ := Aside0.mk (ho); clear HO0; clear HB; clear HK; clear HO124; have HO0 := n0_; have HB := n1_; have HK := n2_; have HO127 := n3_; clear n0_ n1_ n2_ n3_; clear ho hb hg hat))
        go_ret2
        exact ⟨_, by first | rfl | (simp [errW_none, errW_some] <;> rfl) | (simp [*, errW_none, errW_some] <;> rfl), by (with_reducible repeat (first | apply Kd.R_alloc | apply Kd.R_drewN | apply Kd.R_drew)); exact Kd.R_mono HO127.out (fun _ hk => hk.1), by repeat (first | (with_reducible first | exact HB.out | apply below_alloc | apply pw_below_drewN | apply below_drew1) | exact HB.out), by repeat (first | (with_reducible first | exact HK.out | apply Kept.alloc | apply Kept.drewN | apply Kept.drew) | exact HK.out)⟩
      · rw [if_neg c7] at H
        exact absurd H (by simp)
    · rw [if_neg c6] at H
      exact absurd H (by simp)

/-! ### tachographref13_Of: function 26 -/
mutual
def tachographref13_Of.l0 : Nat → List (S44) → List ByteArray → Int → Option (List ByteArray)
  | 0, _, _, _ => none
  | k + 1, x0, x3, x4 => if x4 < (x0.length : Int) then (tachographref13_Of.l1 k x0 x3 x4 0) else (some x3)
def tachographref13_Of.l1 : Nat → List (S44) → List ByteArray → Int → Int → Option (List ByteArray)
  | 0, _, _, _, _ => none
  | k + 1, x0, x3, x4, x5 => if 0 ≤ x4 then (if x4 < (x0.length : Int) then (if x5 < (((rd_T44 x0 x4).f1).length : Int) then (if 0 ≤ x5 then (tachographref13_Of.l2 k x0 x3 x4 x5 ((rd_T61 ((rd_T44 x0 x4).f1) x5).f1) 0) else (none)) else (tachographref13_Of.l0 k x0 x3 (wrap64 (x4 + 1)))) else (none)) else (none)
def tachographref13_Of.l2 : Nat → List (S44) → List ByteArray → Int → Int → List (S70) → Int → Option (List ByteArray)
  | 0, _, _, _, _, _, _ => none
  | k + 1, x0, x3, x4, x5, x6, x7 => if x7 < (x6.length : Int) then (if 0 ≤ x7 then (if ((rd_T70 x6 x7).f0) = 2 then ((tachographref13_Put.f k x3 ((rd_T70 x6 x7).f2)).bind fun bt136 => (tachographref13_Of.l2 k x0 bt136.1 x4 x5 x6 (wrap64 (x7 + 1)))) else (tachographref13_Of.l2 k x0 x3 x4 x5 x6 (wrap64 (x7 + 1)))) else (none)) else (tachographref13_Of.l1 k x0 x3 x4 (wrap64 (x5 + 1)))
end
def tachographref13_Of.f (k : Nat) (l0 : List (S44)) : Option (List ByteArray) := tachographref13_Of.l0 k l0 (([] : List ByteArray)) 0
theorem tachographref13_Of.mono_l : ∀ k, (∀ y0 y1 y2, LeO (tachographref13_Of.l0 k y0 y1 y2) (tachographref13_Of.l0 (k + 1) y0 y1 y2)) ∧ (∀ y0 y1 y2 y3, LeO (tachographref13_Of.l1 k y0 y1 y2 y3) (tachographref13_Of.l1 (k + 1) y0 y1 y2 y3)) ∧ (∀ y0 y1 y2 y3 y4 y5, LeO (tachographref13_Of.l2 k y0 y1 y2 y3 y4 y5) (tachographref13_Of.l2 (k + 1) y0 y1 y2 y3 y4 y5))
  | 0 => ⟨fun _ _ _ r h => by simp [tachographref13_Of.l0] at h, fun _ _ _ _ r h => by simp [tachographref13_Of.l1] at h, fun _ _ _ _ _ _ r h => by simp [tachographref13_Of.l2] at h⟩
  | k + 1 => by
    obtain ⟨ih0, ih1, ih2⟩ := tachographref13_Of.mono_l k
    refine ⟨?_, ?_, ?_⟩
    · intro y0 y1 y2
      unfold tachographref13_Of.l0
      repeat' first
      | (with_reducible exact ih0 _ _ _)
      | (with_reducible exact ih1 _ _ _ _)
      | (with_reducible exact ih2 _ _ _ _ _ _)
      | (with_reducible exact tachographref13_Put.mono _ _ _)
      | (with_reducible exact LeO.refl _)
      | (with_reducible exact LeO.none _)
      | (with_reducible refine LeO.ite ?_ ?_)
      | (with_reducible refine LeO.bind ?_ (fun _ => ?_))
      | exact ih0 _ _ _
      | exact ih1 _ _ _ _
      | exact ih2 _ _ _ _ _ _
      | exact tachographref13_Put.mono _ _ _
      | exact LeO.none _
      | refine LeO.ite ?_ ?_
      | refine LeO.bind ?_ (fun _ => ?_)
    · intro y0 y1 y2 y3
      unfold tachographref13_Of.l1
      repeat' first
      | (with_reducible exact ih0 _ _ _)
      | (with_reducible exact ih1 _ _ _ _)
      | (with_reducible exact ih2 _ _ _ _ _ _)
      | (with_reducible exact tachographref13_Put.mono _ _ _)
      | (with_reducible exact LeO.refl _)
      | (with_reducible exact LeO.none _)
      | (with_reducible refine LeO.ite ?_ ?_)
      | (with_reducible refine LeO.bind ?_ (fun _ => ?_))
      | exact ih0 _ _ _
      | exact ih1 _ _ _ _
      | exact ih2 _ _ _ _ _ _
      | exact tachographref13_Put.mono _ _ _
      | exact LeO.none _
      | refine LeO.ite ?_ ?_
      | refine LeO.bind ?_ (fun _ => ?_)
    · intro y0 y1 y2 y3 y4 y5
      unfold tachographref13_Of.l2
      repeat' first
      | (with_reducible exact ih0 _ _ _)
      | (with_reducible exact ih1 _ _ _ _)
      | (with_reducible exact ih2 _ _ _ _ _ _)
      | (with_reducible exact tachographref13_Put.mono _ _ _)
      | (with_reducible exact LeO.refl _)
      | (with_reducible exact LeO.none _)
      | (with_reducible refine LeO.ite ?_ ?_)
      | (with_reducible refine LeO.bind ?_ (fun _ => ?_))
      | exact ih0 _ _ _
      | exact ih1 _ _ _ _
      | exact ih2 _ _ _ _ _ _
      | exact tachographref13_Put.mono _ _ _
      | exact LeO.none _
      | refine LeO.ite ?_ ?_
      | refine LeO.bind ?_ (fun _ => ?_)
theorem tachographref13_Of.mono : ∀ a0 k, LeO (tachographref13_Of.f k a0) (tachographref13_Of.f (k + 1) a0) := by
  intro a0 k
  obtain ⟨ih0, ih1, ih2⟩ := tachographref13_Of.mono_l k
  unfold tachographref13_Of.f
  repeat' first
      | (with_reducible exact ih0 _ _ _)
      | (with_reducible exact ih1 _ _ _ _)
      | (with_reducible exact ih2 _ _ _ _ _ _)
      | (with_reducible exact tachographref13_Put.mono _ _ _)
      | (with_reducible exact LeO.refl _)
      | (with_reducible exact LeO.none _)
      | (with_reducible refine LeO.ite ?_ ?_)
      | (with_reducible refine LeO.bind ?_ (fun _ => ?_))
      | exact ih0 _ _ _
      | exact ih1 _ _ _ _
      | exact ih2 _ _ _ _ _ _
      | exact tachographref13_Put.mono _ _ _
      | exact LeO.none _
      | refine LeO.ite ?_ ?_
      | refine LeO.bind ?_ (fun _ => ?_)
set_option maxHeartbeats 8000000 in
set_option maxRecDepth 100000 in
theorem tachographref13_Of.calls (k : Nat) (A0 : Option Addr) (c0 : Nat) (l0 : List (S44)) (r : List ByteArray) (w : World) (hr0 : Kd.C k44 w A0 l0.length l0) (hc0 : l0.length ≤ c0) (h : tachographref13_Of.f k l0 = some r) :
    Calls Try.prog 26 #[.slice A0 l0.length c0] w fun e w' => ∃ v0_ : Value, e = .returned (v0_) ∧ Kd.R Kd.string 9 w' w.heap.size (fun _ => True) v0_ r ∧ Below w.heap.size w w' := by
  have HR0 := Aside0.mk hr0
  have HC0 := Aside0.mk hc0
  clear hr0 hc0
  have HB := Aside0.mk (Below.refl w.heap.size w)
  have H : (tachographref13_Of.l0 k l0 (([] : List ByteArray)) 0) = some r := h
  clear h
  obtain ⟨y128, hy128⟩ : ∃ y_ : List ByteArray, y_ = (([] : List ByteArray)) := ⟨_, rfl⟩
  replace H : (tachographref13_Of.l0 k l0 y128 0) = some r := by first | (rw [hy128]; with_reducible exact H) | (have H2_ := (Option.bind_some _ _).symm.trans H; rw [hy128]; with_reducible exact H2_) | (have H2_ := (Option.bind_some _ _).symm.trans H; with_reducible exact H2_) | with_reducible exact H | (rw [hy128]; exact H) | exact H
  have Ny128 := Aside0.mk hy128
  clear hy128
  have H' := Aside0.mk H
  clear H
  go_enter Try.func26, Try.ntmps26
  go_wp2_with (first | ((with_reducible refine gate_dst (N := 8) rfl ?_); refine Kd.R_lit Kd.string _ 9 ?hg (N := 8) ?hd (xs := ([] : List ByteArray)) (inner := []) (ok := fun _ => True) (okp := fun _ => True) ?hr ?hp (fun _ hk => hk) trivial (Below.refl _ _) (Nat.le_refl _) (by simp) ?_; (case hd => rfl); (case hg => rfl); (case hr => first | (go_simp; done) | (go_simp; rfl)); (case hp => exact (Reps.none _ _)); intro v129 w2 ho3 hb hg_ hnew_; clear hg_ hnew_; (first | rw [← Ny128.out] at ho3 | (simp only [Int.reduceToNat] at ho3; rw [← Ny128.out] at ho3)); have n0_ := Aside0.mk (Kd.R_lower ho3 (below_size (by repeat (first | (with_reducible first | exact HB.out | apply below_alloc | apply pw_below_drewN | apply below_drew1) | exact HB.out)))); have n1_ := Aside0.mk (below_step (by repeat (first | (with_reducible first | exact HB.out | apply below_alloc | apply pw_below_drewN | apply below_drew1) | exact HB.out)) hb); clear HB; have HO130 := n0_; have HB := n1_; clear n0_ n1_; clear hb ho3))
  go_loopg [3, 4] k (fun kq v3 v4 w' => ∃ (x3_1 : List ByteArray) (x4_1 : Int), v4 = .int .i64 x4_1 ∧ Aside0 (tachographref13_Of.l0 kq l0 x3_1 x4_1 = some r) ∧ Aside0 (kq ≤ k) ∧ Aside0 (Kd.R Kd.string 9 w' w.heap.size (fun _ => True) v3 x3_1) ∧ Aside0 (Below w.heap.size w w'))
  case atStart => exact ⟨(y128), (0), (by first | rfl | (simp; done) | (simp [*]; done)), H', ⟨Nat.le_refl _⟩, ⟨by (with_reducible repeat (first | apply Kd.R_alloc | apply Kd.R_drewN | apply Kd.R_drew)); exact HO130.out⟩, ⟨by repeat (first | (with_reducible first | exact HB.out | apply below_alloc | apply pw_below_drewN | apply below_drew1) | exact HB.out)⟩⟩
  case round =>
    clear H'
    try clear c2
    try clear p2
    obtain ⟨x3_1, x4_1, rfl, HA, HK1, HO_3, HB⟩ := hrel
    cases gk with
    | zero => exact absurd HA.out (by simp [tachographref13_Of.l0])
    | succ k1 =>
      have H := HA.out
      clear HA
      simp only [tachographref13_Of.l0] at H
      by_cases c4 : x4_1 < (l0.length : Int)
      · rw [if_pos c4] at H
        have c4b0 : decide (x4_1 < (l0.length : Int)) = true := decide_eq_true c4
        clear c4
        have H' := Aside0.mk H
        clear H
        go_wp2
        go_loopg [3, 5] k1 (fun kq v3 v5 w' => ∃ (x3_2 : List ByteArray) (x5_2 : Int), v5 = .int .i64 x5_2 ∧ Aside0 (tachographref13_Of.l1 kq l0 x3_2 x4_1 x5_2 = some r) ∧ Aside0 (kq ≤ k1) ∧ Aside0 (Kd.R Kd.string 9 w' w.heap.size (fun _ => True) v3 x3_2) ∧ Aside0 (Below w.heap.size w w'))
        case atStart => exact ⟨(x3_1), (0), (by first | rfl | (simp; done) | (simp [*]; done)), H', ⟨Nat.le_refl _⟩, ⟨by (with_reducible repeat (first | apply Kd.R_alloc | apply Kd.R_drewN | apply Kd.R_drew)); exact HO_3.out⟩, ⟨by repeat (first | (with_reducible first | exact HB.out | apply below_alloc | apply pw_below_drewN | apply below_drew1) | exact HB.out)⟩⟩
        case round =>
          clear H'
          try clear c2
          try clear p2
          try clear c4
          try clear c4b0
          try clear p2
          obtain ⟨x3_2, x5_2, rfl, HA, HK2, HO_3, HB⟩ := hrel
          cases gk with
          | zero => exact absurd HA.out (by simp [tachographref13_Of.l1])
          | succ k2 =>
            have H := HA.out
            clear HA
            simp only [tachographref13_Of.l1] at H
            by_cases c5 : 0 ≤ x4_1
            · rw [if_pos c5] at H
              have c5b0 : decide (0 ≤ x4_1) = true := decide_eq_true c5
              clear c5
              by_cases c6 : x4_1 < (l0.length : Int)
              · rw [if_pos c6] at H
                have c6b0 : decide (x4_1 < (l0.length : Int)) = true := decide_eq_true c6
                clear c6
                by_cases c7 : x5_2 < (((rd_T44 l0 x4_1).f1).length : Int)
                · rw [if_pos c7] at H
                  have c7b0 : decide (x5_2 < (((rd_T44 l0 x4_1).f1).length : Int)) = true := decide_eq_true c7
                  clear c7
                  by_cases c8 : 0 ≤ x5_2
                  · rw [if_pos c8] at H
                    have c8b0 : decide (0 ≤ x5_2) = true := decide_eq_true c8
                    clear c8
                    have H' := Aside0.mk H
                    clear H
                    have p131 : 0 ≤ (x4_1 : Int) := of_decide_eq_true (by first | (with_reducible assumption) | assumption)
                    have q131 : x4_1 < (l0.length : Int) := of_decide_eq_true (by first | (with_reducible assumption) | assumption)
                    obtain ⟨ad131, A131_1, c131_1, e131, hx131_0, hx131_1, hl131_1, hi131_1⟩ := at_T44 HR0.out x4_1 p131 q131
                    cases e131
                    replace hx131_0 := (HB.out.cell (World.block_lt_of_cell? w _ hx131_0)).trans hx131_0
                    replace hx131_1 := (HB.out.cell (World.block_lt_of_cell? w _ hx131_1)).trans hx131_1
                    have HR131_1 := Aside0.mk hi131_1
                    have HC131_1 := Aside0.mk hl131_1
                    clear hi131_1 hl131_1
                    replace p131 := eq_true p131
                    replace q131 := eq_true q131
                    have p132 : 0 ≤ (x4_1 : Int) := of_decide_eq_true (by first | (with_reducible assumption) | assumption)
                    have q132 : x4_1 < (l0.length : Int) := of_decide_eq_true (by first | (with_reducible assumption) | assumption)
                    obtain ⟨ad132, A132_1, c132_1, e132, hx132_0, hx132_1, hl132_1, hi132_1⟩ := at_T44 HR0.out x4_1 p132 q132
                    obtain rfl : ad131 = ad132 := (by injection e132)
                    replace hx132_0 := (HB.out.cell (World.block_lt_of_cell? w _ hx132_0)).trans hx132_0
                    replace hx132_1 := (HB.out.cell (World.block_lt_of_cell? w _ hx132_1)).trans hx132_1
                    have HR132_1 := Aside0.mk hi132_1
                    have HC132_1 := Aside0.mk hl132_1
                    clear hi132_1 hl132_1
                    replace p132 := eq_true p132
                    replace q132 := eq_true q132
                    have ea_ := Option.some.inj (hx131_1.symm.trans hx132_1)
                    injection ea_ with ea_ en_ ec_
                    subst ea_
                    subst ec_
                    clear en_
                    have p133 : 0 ≤ (x5_2 : Int) := of_decide_eq_true (by first | (with_reducible assumption) | assumption)
                    have q133 : x5_2 < (((rd_T44 l0 x4_1).f1).length : Int) := of_decide_eq_true (by first | (with_reducible assumption) | assumption)
                    obtain ⟨ad133, A133_1, c133_1, e133, hx133_0, hx133_1, hl133_1, hi133_1⟩ := at_T61 HR132_1.out x5_2 p133 q133
                    cases e133
                    replace hx133_0 := (HB.out.cell (World.block_lt_of_cell? w _ hx133_0)).trans hx133_0
                    replace hx133_1 := (HB.out.cell (World.block_lt_of_cell? w _ hx133_1)).trans hx133_1
                    have HR133_1 := Aside0.mk hi133_1
                    have HC133_1 := Aside0.mk hl133_1
                    clear hi133_1 hl133_1
                    replace p133 := eq_true p133
                    replace q133 := eq_true q133
                    go_wp2
                    go_loopg [3, 7] k2 (fun kq v3 v7 w' => ∃ (x3_3 : List ByteArray) (x7_3 : Int), v7 = .int .i64 x7_3 ∧ Aside0 (tachographref13_Of.l2 kq l0 x3_3 x4_1 x5_2 ((rd_T61 ((rd_T44 l0 x4_1).f1) x5_2).f1) x7_3 = some r) ∧ Aside0 (kq ≤ k2) ∧ Aside0 (Kd.R Kd.string 9 w' w.heap.size (fun _ => True) v3 x3_3) ∧ Aside0 (Below w.heap.size w w'))
                    case atStart => exact ⟨(x3_2), (0), (by first | rfl | (simp; done) | (simp [*]; done)), H', ⟨Nat.le_refl _⟩, ⟨by (with_reducible repeat (first | apply Kd.R_alloc | apply Kd.R_drewN | apply Kd.R_drew)); exact HO_3.out⟩, ⟨by repeat (first | (with_reducible first | exact HB.out | apply below_alloc | apply pw_below_drewN | apply below_drew1) | exact HB.out)⟩⟩
                    case round =>
                      clear H'
                      try clear c1
                      try clear p1
                      try clear q1
                      try clear hx1
                      try clear c2
                      try clear p2
                      try clear c4
                      try clear c4b0
                      try clear c5
                      try clear c5b0
                      try clear c6
                      try clear c6b0
                      try clear c7
                      try clear c7b0
                      try clear c8
                      try clear c8b0
                      try clear hx131_0
                      try clear hx131_1
                      try clear hx132_0
                      try clear hx132_1
                      try clear hx133_0
                      try clear hx133_1
                      try clear p131
                      try clear p132
                      try clear p133
                      try clear p2
                      try clear q131
                      try clear q132
                      try clear q133
                      obtain ⟨x3_3, x7_3, rfl, HA, HK3, HO_3, HB⟩ := hrel
                      cases gk with
                      | zero => exact absurd HA.out (by simp [tachographref13_Of.l2])
                      | succ k3 =>
                        have H := HA.out
                        clear HA
                        simp only [tachographref13_Of.l2] at H
                        by_cases c9 : x7_3 < (((rd_T61 ((rd_T44 l0 x4_1).f1) x5_2).f1).length : Int)
                        · rw [if_pos c9] at H
                          have c9b0 : decide (x7_3 < (((rd_T61 ((rd_T44 l0 x4_1).f1) x5_2).f1).length : Int)) = true := decide_eq_true c9
                          clear c9
                          by_cases c10 : 0 ≤ x7_3
                          · rw [if_pos c10] at H
                            have c10b0 : decide (0 ≤ x7_3) = true := decide_eq_true c10
                            clear c10
                            by_cases c11 : ((rd_T70 ((rd_T61 ((rd_T44 l0 x4_1).f1) x5_2).f1) x7_3).f0) = 2
                            · rw [if_pos c11] at H
                              have c11b0 : (((rd_T70 ((rd_T61 ((rd_T44 l0 x4_1).f1) x5_2).f1) x7_3).f0) == 2) = true := beq_iff_eq.mpr c11
                              have c11b1 : (((rd_T70 ((rd_T61 ((rd_T44 l0 x4_1).f1) x5_2).f1) x7_3).f0) != 2) = false := bne_eq_false_iff_eq.mpr c11
                              clear c11
                              replace H := Option.bind_eq_some_iff.mp H
                              obtain ⟨⟨t136, t139⟩, A120, H⟩ := H
                              replace H : (tachographref13_Of.l2 k3 l0 t136 x4_1 x5_2 ((rd_T61 ((rd_T44 l0 x4_1).f1) x5_2).f1) (wrap64 (x7_3 + 1))) = some r := H
                              have A12 := Aside0.mk A120
                              clear A120
                              have H' := Aside0.mk H
                              clear H
                              have p134 : 0 ≤ (x7_3 : Int) := of_decide_eq_true (by first | (with_reducible assumption) | assumption)
                              have q134 : x7_3 < (((rd_T61 ((rd_T44 l0 x4_1).f1) x5_2).f1).length : Int) := of_decide_eq_true (by first | (with_reducible assumption) | assumption)
                              obtain ⟨ad134, e134, hx134_0, hx134_1, hx134_2⟩ := at_T70 HR133_1.out x7_3 p134 q134
                              cases e134
                              replace hx134_0 := (HB.out.cell (World.block_lt_of_cell? w _ hx134_0)).trans hx134_0
                              replace hx134_1 := (HB.out.cell (World.block_lt_of_cell? w _ hx134_1)).trans hx134_1
                              replace hx134_2 := (HB.out.cell (World.block_lt_of_cell? w _ hx134_2)).trans hx134_2
                              replace p134 := eq_true p134
                              replace q134 := eq_true q134
                              have p135 : 0 ≤ (x7_3 : Int) := of_decide_eq_true (by first | (with_reducible assumption) | assumption)
                              have q135 : x7_3 < (((rd_T61 ((rd_T44 l0 x4_1).f1) x5_2).f1).length : Int) := of_decide_eq_true (by first | (with_reducible assumption) | assumption)
                              obtain ⟨ad135, e135, hx135_0, hx135_1, hx135_2⟩ := at_T70 HR133_1.out x7_3 p135 q135
                              obtain rfl : ad134 = ad135 := (by injection e135)
                              replace hx135_0 := (HB.out.cell (World.block_lt_of_cell? w _ hx135_0)).trans hx135_0
                              replace hx135_1 := (HB.out.cell (World.block_lt_of_cell? w _ hx135_1)).trans hx135_1
                              replace hx135_2 := (HB.out.cell (World.block_lt_of_cell? w _ hx135_2)).trans hx135_2
                              replace p135 := eq_true p135
                              replace q135 := eq_true q135
                              obtain ⟨Ao13, co13, eo13⟩ := Kd.R_slice HO_3.out
                              subst eo13
                              go_wp2_with (first | ((with_reducible refine gate_callee (f := 17) rfl ?_); refine goesL_ (some 53) rfl rfl Try.func17 (by kernel_rfl) rfl #[.slice Ao13 x3_3.length co13, .string ((rd_T70 ((rd_T61 ((rd_T44 l0 x4_1).f1) x5_2).f1) x7_3).f2)] rfl (by (try simp only [List.map_toArray, List.map_cons, List.map_nil]); first | done | rfl | (simp only [List.length_drop, List.length_take]; rfl) | (refine congrArg (fun z_ => #[z_]) (congrArg (Value.int IntKind.u64) (Eq.symm (Go.Proofs.YtjfklfmfeghjnabAid.wrap_len _ (by omega)))))) ?_; (with_reducible refine (tachographref13_Put.calls k3 (fun k_ => some k_ = (.slice Ao13 x3_3.length co13 : Value).ownBlock) (.slice Ao13 x3_3.length co13) x3_3 ((rd_T70 ((rd_T61 ((rd_T44 l0 x4_1).f1) x5_2).f1) x7_3).f2) t136 t139 w _ ?side1 ?side2 A12.out).mono ?_); (case side1 => repeat (first | (with_reducible first | exact HB.out | apply below_alloc | apply pw_below_drewN | apply below_drew1) | exact HB.out)); (case side2 => exact Kd.R_tight rfl HO_3.out); rintro e w14 ⟨v137, rfl, ho0, hb, hkp⟩; refine ⟨_, rfl, ?_⟩; have n0_ := Aside0.mk (Kd.R_mono (ok' := fun k_ => True) ho0 (fun k_ hk_ => trivial)); have n1_ := Aside0.mk (hb); clear HB; clear HO_3; have HO138 := n0_; have HB := n1_; clear n0_ n1_; (try clear hb); (try clear hkp); (try clear ho0)))
                              go_roundg k3
                              case measure => have := HK1.out; have := HK2.out; have := HK3.out; omega
                              case rel => exact ⟨(t136), (wrap64 (x7_3 + 1)), (by first | rfl | (simp; done) | (simp [*]; done)), H', ⟨by have := HK1.out; have := HK2.out; have := HK3.out; omega⟩, ⟨by (with_reducible repeat (first | apply Kd.R_alloc | apply Kd.R_drewN | apply Kd.R_drew)); exact HO138.out⟩, ⟨by repeat (first | (with_reducible first | exact HB.out | apply below_alloc | apply pw_below_drewN | apply below_drew1) | exact HB.out)⟩⟩
                            · rw [if_neg c11] at H
                              have c11b0 : (((rd_T70 ((rd_T61 ((rd_T44 l0 x4_1).f1) x5_2).f1) x7_3).f0) == 2) = false := beq_eq_false_iff_ne.mpr c11
                              have c11b1 : (((rd_T70 ((rd_T61 ((rd_T44 l0 x4_1).f1) x5_2).f1) x7_3).f0) != 2) = true := bne_iff_ne.mpr c11
                              have H' := Aside0.mk H
                              clear H
                              have p134 : 0 ≤ (x7_3 : Int) := of_decide_eq_true (by first | (with_reducible assumption) | assumption)
                              have q134 : x7_3 < (((rd_T61 ((rd_T44 l0 x4_1).f1) x5_2).f1).length : Int) := of_decide_eq_true (by first | (with_reducible assumption) | assumption)
                              obtain ⟨ad134, e134, hx134_0, hx134_1, hx134_2⟩ := at_T70 HR133_1.out x7_3 p134 q134
                              cases e134
                              replace hx134_0 := (HB.out.cell (World.block_lt_of_cell? w _ hx134_0)).trans hx134_0
                              replace hx134_1 := (HB.out.cell (World.block_lt_of_cell? w _ hx134_1)).trans hx134_1
                              replace hx134_2 := (HB.out.cell (World.block_lt_of_cell? w _ hx134_2)).trans hx134_2
                              replace p134 := eq_true p134
                              replace q134 := eq_true q134
                              go_wp2
                              go_roundg k3
                              case measure => have := HK1.out; have := HK2.out; have := HK3.out; omega
                              case rel => exact ⟨(x3_3), (wrap64 (x7_3 + 1)), (by first | rfl | (simp; done) | (simp [*]; done)), H', ⟨by have := HK1.out; have := HK2.out; have := HK3.out; omega⟩, ⟨by (with_reducible repeat (first | apply Kd.R_alloc | apply Kd.R_drewN | apply Kd.R_drew)); exact HO_3.out⟩, ⟨by repeat (first | (with_reducible first | exact HB.out | apply below_alloc | apply pw_below_drewN | apply below_drew1) | exact HB.out)⟩⟩
                          · rw [if_neg c10] at H
                            exact absurd H (by simp)
                        · rw [if_neg c9] at H
                          have c9b0 : decide (x7_3 < (((rd_T61 ((rd_T44 l0 x4_1).f1) x5_2).f1).length : Int)) = false := decide_eq_false c9
                          clear c9
                          have H' := Aside0.mk H
                          clear H
                          go_wp2
                          go_roundg k3
                          case measure => have := HK1.out; have := HK2.out; have := HK3.out; omega
                          case rel => exact ⟨(x3_3), (wrap64 (x5_2 + 1)), (by first | rfl | (simp; done) | (simp [*]; done)), H', ⟨by have := HK1.out; have := HK2.out; have := HK3.out; omega⟩, ⟨by (with_reducible repeat (first | apply Kd.R_alloc | apply Kd.R_drewN | apply Kd.R_drew)); exact HO_3.out⟩, ⟨by repeat (first | (with_reducible first | exact HB.out | apply below_alloc | apply pw_below_drewN | apply below_drew1) | exact HB.out)⟩⟩
                  · rw [if_neg c8] at H
                    exact absurd H (by simp)
                · rw [if_neg c7] at H
                  have c7b0 : decide (x5_2 < (((rd_T44 l0 x4_1).f1).length : Int)) = false := decide_eq_false c7
                  clear c7
                  have H' := Aside0.mk H
                  clear H
                  have p131 : 0 ≤ (x4_1 : Int) := of_decide_eq_true (by first | (with_reducible assumption) | assumption)
                  have q131 : x4_1 < (l0.length : Int) := of_decide_eq_true (by first | (with_reducible assumption) | assumption)
                  obtain ⟨ad131, A131_1, c131_1, e131, hx131_0, hx131_1, hl131_1, hi131_1⟩ := at_T44 HR0.out x4_1 p131 q131
                  cases e131
                  replace hx131_0 := (HB.out.cell (World.block_lt_of_cell? w _ hx131_0)).trans hx131_0
                  replace hx131_1 := (HB.out.cell (World.block_lt_of_cell? w _ hx131_1)).trans hx131_1
                  have HR131_1 := Aside0.mk hi131_1
                  have HC131_1 := Aside0.mk hl131_1
                  clear hi131_1 hl131_1
                  replace p131 := eq_true p131
                  replace q131 := eq_true q131
                  go_wp2
                  go_roundg k2
                  case measure => have := HK1.out; have := HK2.out; omega
                  case rel => exact ⟨(x3_2), (wrap64 (x4_1 + 1)), (by first | rfl | (simp; done) | (simp [*]; done)), H', ⟨by have := HK1.out; have := HK2.out; omega⟩, ⟨by (with_reducible repeat (first | apply Kd.R_alloc | apply Kd.R_drewN | apply Kd.R_drew)); exact HO_3.out⟩, ⟨by repeat (first | (with_reducible first | exact HB.out | apply below_alloc | apply pw_below_drewN | apply below_drew1) | exact HB.out)⟩⟩
              · rw [if_neg c6] at H
                exact absurd H (by simp)
            · rw [if_neg c5] at H
              exact absurd H (by simp)
      · rw [if_neg c4] at H
        have c4b0 : decide (x4_1 < (l0.length : Int)) = false := decide_eq_false c4
        clear c4
        obtain rfl := Option.some.inj H
        go_wp2
        go_ret
        exact ⟨_, by first | rfl | (simp [errW_none, errW_some] <;> rfl) | (simp [*, errW_none, errW_some] <;> rfl), by (with_reducible repeat (first | apply Kd.R_alloc | apply Kd.R_drewN | apply Kd.R_drew)); exact HO_3.out, by repeat (first | (with_reducible first | exact HB.out | apply below_alloc | apply pw_below_drewN | apply below_drew1) | exact HB.out)⟩

/-! ### cursor_Cursor_Left: function 96 -/
def cursor_Cursor_Left.f (m : ByteArray) (a b c : Int) : Option ByteArray := none

/-! ### cursor_Cursor_At: function 145 -/
def cursor_Cursor_At.f (m : ByteArray) (a b : Int) : Option (Int × Bool × ByteArray) := none

end Go.Proofs.Ytjfklfmfeghjnab.PD
