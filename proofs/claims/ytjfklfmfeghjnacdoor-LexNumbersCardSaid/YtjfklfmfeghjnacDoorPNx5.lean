-- Contracts of Go functions, each with its plain Lean function: written by wip/tools/myprint.py of this work (the kit's print, with contracts proved by hand spliced in).
import Derived.Test.YtjfklfmfeghjnacDoorPNx0
import Derived.Test.YtjfklfmfeghjnacDoorPNx1
import Derived.Test.YtjfklfmfeghjnacDoorPNx2
import Derived.Test.YtjfklfmfeghjnacDoorPNx4
namespace Go.Proofs.YtjfklfmfeghjnacDoor.PN
open Go.RowKit Go.Proofs.YtjfklfmfeghjnacDoorW.PrintWords Go.Proofs.YtjfklfmfeghjnacDoorW.PrintLast Go.Proofs.YtjfklfmfeghjnacDoorW.PrintMore
attribute [local go_sem] max2_int min2_int max_two min_two max_three min_three max_four min_four   -- for this text's walks alone
set_option linter.unusedVariables false
set_option linter.unusedSimpArgs false

attribute [local go_sem high] eqA32
/-! ### lex_Lex: function 9 -/
def lex_Lex.l0 : Nat → ByteArray → List (S36) → Int → Int → Int → Option ((List (S36)) × Int × Int × Int)
  | 0, _, _, _, _, _ => none
  | k + 1, x0, x5, x142000, x146000, x146001 => if x0.toList = ([] : List UInt8) then (some (x5, 0, 0, 0)) else (if 0 < (x0.size : Int) then ((strings_IndexByte.f (⟨#[32, 9, 10, 13]⟩ : ByteArray) (bt x0 0)).bind fun t146 => (if t146 ≥ 0 then (if 0 ≤ 1 then (if 1 ≤ (x0.size : Int) then ((lex_on.f x146000 x146001 (x0.extract 0 1)).bind fun bt147 => (lex_Lex.l0 k (x0.extract 1 x0.size) x5 x142000 bt147.1 bt147.2)) else (none)) else (none)) else ((lex_first.f k x142000 x0).bind fun bt149 => (if bt149.2.2.2.2.2.1 = 0 then (if x5.length < 3518437208883 then (if 0 ≤ bt149.2.2.2.2.1 then (if bt149.2.2.2.2.1 ≤ (x0.size : Int) then ((lex_on.f x146000 x146001 (x0.extract 0 (bt149.2.2.2.2.1 : Int).toNat)).bind fun bt160 => (lex_Lex.l0 k (x0.extract (bt149.2.2.2.2.1 : Int).toNat x0.size) (x5 ++ [(⟨bt149.1, bt149.2.1, (⟨x146000, x146001⟩ : S32)⟩ : S36)]) bt149.2.2.2.2.2.2 bt160.1 bt160.2)) else (none)) else (none)) else (none)) else (some (([] : List (S36)), bt149.2.2.2.2.2.1, x146000, x146001)))))) else (none))
def lex_Lex.f (k : Nat) (a0 : ByteArray) : Option ((List (S36)) × Int × Int × Int) := (lex_shapes.f).bind fun t140 => ((lex_End.f (⟨#[]⟩ : ByteArray)).bind fun bt142 => (lex_Lex.l0 k a0 ([] : List (S36)) t140 bt142.1 bt142.2))
theorem lex_Lex.mono_l : ∀ k, (∀ y0 y1 y2 y3 y4, LeO (lex_Lex.l0 k y0 y1 y2 y3 y4) (lex_Lex.l0 (k + 1) y0 y1 y2 y3 y4))
  | 0 => fun _ _ _ _ _ r h => by simp [lex_Lex.l0] at h
  | k + 1 => by
    have ih0 := lex_Lex.mono_l k
    · intro y0 y1 y2 y3 y4
      unfold lex_Lex.l0
      repeat' first
      | (with_reducible exact ih0 _ _ _ _ _)
      | (with_reducible exact lex_first.mono _ _ _)
      | (with_reducible exact LeO.refl _)
      | (with_reducible exact LeO.none _)
      | (with_reducible refine LeO.ite ?_ ?_)
      | (with_reducible refine LeO.bind ?_ (fun _ => ?_))
      | exact ih0 _ _ _ _ _
      | exact lex_first.mono _ _ _
      | exact LeO.none _
      | refine LeO.ite ?_ ?_
      | refine LeO.bind ?_ (fun _ => ?_)
theorem lex_Lex.mono : ∀ a0 k, LeO (lex_Lex.f k a0) (lex_Lex.f (k + 1) a0) := by
  intro a0 k
  have ih0 := lex_Lex.mono_l k
  unfold lex_Lex.f
  repeat' first
      | (with_reducible exact ih0 _ _ _ _ _)
      | (with_reducible exact lex_first.mono _ _ _)
      | (with_reducible exact LeO.refl _)
      | (with_reducible exact LeO.none _)
      | (with_reducible refine LeO.ite ?_ ?_)
      | (with_reducible refine LeO.bind ?_ (fun _ => ?_))
      | exact ih0 _ _ _ _ _
      | exact lex_first.mono _ _ _
      | exact LeO.none _
      | refine LeO.ite ?_ ?_
      | refine LeO.bind ?_ (fun _ => ?_)
def lex_Lex.T6 : Bool × List (List Nat × List Nat) := (true, [([], []), ([], []), ([1], [1]), ([0, 2], [0, 2]), ([], []), ([4], [4]), ([3, 3, 0, 1, 2, 3], [3]), ([5, 6, 0, 1, 2, 3, 4, 5, 6], [1, 4, 5])])
def lex_Lex.B6 : List Nat := [0, 0, 2, 7, 0, 16, 15, 127]
theorem lex_Lex.tab6 : rtab .any (opsOf Tryd.f9 6) = lex_Lex.T6 := by kernel_rfl
theorem lex_Lex.bits6 : waitsOk lex_Lex.T6.2 lex_Lex.B6 = true := by kernel_rfl
def lex_Lex.T11 : Bool × List (List Nat × List Nat) := (true, [([], []), ([], []), ([1], [1]), ([0, 2], [0, 2]), ([], []), ([], []), ([], []), ([5, 6], [5, 6]), ([4, 7, 3], [4, 7]), ([], []), ([], []), ([9, 10], [9, 10]), ([3, 8, 0, 1, 2, 3], [0, 3]), ([8, 12, 0, 1, 2, 3, 4, 5, 6, 7, 8, 12], [8]), ([11, 13, 0, 1, 2, 3, 4, 5, 6, 7, 8, 9, 10, 11, 12, 13], [5, 9, 11])])
def lex_Lex.B11 : List Nat := [0, 0, 2, 7, 0, 0, 0, 96, 255, 0, 0, 1536, 511, 4607, 16383]
theorem lex_Lex.tab11 : rtab .any (opsOf Tryd.f9 11) = lex_Lex.T11 := by kernel_rfl
theorem lex_Lex.bits11 : waitsOk lex_Lex.T11.2 lex_Lex.B11 = true := by kernel_rfl
set_option maxHeartbeats 8000000 in
set_option maxRecDepth 100000 in
theorem lex_Lex.calls (k : Nat) (a0 : ByteArray) (r1 : List (S36)) (r2 : Int) (r3 : Int) (r4 : Int) (w : World) (h : lex_Lex.f k a0 = some (r1, r2, r3, r4)) :
    Calls Tryd.prog 9 #[.string a0] w fun e w' => ∃ v0_ : Value, e = .returned (.tuple #[v0_, .int .i64 r2, .agg #[.int .i64 r3, .int .i64 r4]]) ∧ Kd.R k36 36 w' w.heap.size (fun _ => True) v0_ r1 ∧ Below w.heap.size w w' := by
  have hu32 := Tryd.underlying32
  have hu49 := Tryd.underlying49
  have hst_ := lex_store_fn
  have hu36 := Tryd.underlying36
  have HB := Aside0.mk (Below.refl w.heap.size w)
  have H : ((lex_shapes.f).bind fun t140 => ((lex_End.f (⟨#[]⟩ : ByteArray)).bind fun bt142 => (lex_Lex.l0 k a0 ([] : List (S36)) t140 bt142.1 bt142.2))) = some (r1, r2, r3, r4) := h
  clear h
  replace H := Option.bind_eq_some_iff.mp H
  obtain ⟨t140, A20, H⟩ := H
  replace H : ((lex_End.f (⟨#[]⟩ : ByteArray)).bind fun bt142 => (lex_Lex.l0 k a0 ([] : List (S36)) t140 bt142.1 bt142.2)) = some (r1, r2, r3, r4) := H
  have A2 := Aside0.mk A20
  clear A20
  replace H := Option.bind_eq_some_iff.mp H
  obtain ⟨⟨t142, t143⟩, A30, H⟩ := H
  replace H : (lex_Lex.l0 k a0 ([] : List (S36)) t140 t142 t143) = some (r1, r2, r3, r4) := H
  have A3 := Aside0.mk A30
  clear A30
  have H' := Aside0.mk H
  clear H
  go_enter Tryd.func9, Tryd.ntmps9
  go_wp2_with (first | ((with_reducible refine gate_dst (N := 4) rfl ?_); refine box_event ?hg (N := 4) ?hd (cs := #[.int .i64 0, .int .i64 0]) (t := 32) ?hr ?_; (case hd => rfl); (case hg => rfl); (case hr => first | (go_simp; done) | (go_simp; rfl)); intro gb139 hg w4 hbox hb; have n0_ := Aside0.mk (below_step (by repeat (first | (with_reducible first | exact HB.out | apply below_alloc | apply pw_below_drewN | apply below_drew1) | exact HB.out)) hb); have n1_ := Aside0.mk (hbox); have n2_ := Aside0.mk ((by rw [hg]; exact (below_size (by repeat (first | (with_reducible first | exact HB.out | apply below_alloc | apply pw_below_drewN | apply below_drew1) | exact HB.out))) : w.heap.size ≤ gb139)); have n3_ := Aside0.mk ((by rw [hg]; exact (below_size (by repeat (first | (with_reducible first | exact HB.out | apply below_alloc | apply pw_below_drewN | apply below_drew1) | exact HB.out))) : w.heap.size ≤ gb139)); clear HB; have HB := n0_; have BK139 := n1_; have GW139 := n2_; have GE139 := n3_; clear n0_ n1_ n2_ n3_; clear hb hbox hg) | ((with_reducible refine gate_callee (f := 16) rfl ?_); refine goesL_ (some 12) rfl rfl Tryd.func16 (by kernel_rfl) rfl #[] rfl (by (try simp only [List.map_toArray, List.map_cons, List.map_nil]); first | done | rfl | (simp only [List.length_drop, List.length_take]; rfl) | (refine congrArg (fun z_ => #[z_]) (congrArg (Value.int IntKind.u64) (Eq.symm (Go.Proofs.YtjfklfmfeghjnacDoorAid.wrap_len _ (by omega)))))) ?_; (with_reducible refine (lex_shapes.calls  t140 w _ ?side1 A2.out).mono ?_); (case side1 => repeat (first | (with_reducible first | exact HB.out | apply below_alloc | apply pw_below_drewN | apply below_drew1 | refine below_set ?_ GE139.out) | exact HB.out)); rintro e w5 ⟨g141, rfl, hi, hb, hb2⟩; refine ⟨_, rfl, ?_⟩; have n0_ := Aside0.mk (blk_below (g := gb139) (o := .cells #[.int .i64 0, .int .i64 0] 32 (0, 0)) (by (with_reducible repeat (first | refine blk_drewN ?_ _ | refine blk_drew ?_ | refine blk_alloc ?_ _)); exact BK139.out) hb2); have n1_ := Aside0.mk (hb); have n2_ := Aside0.mk (hi); have n3_ := Aside0.mk (IsS48.ne_blk hi (blk_below (g := gb139) (o := .cells #[.int .i64 0, .int .i64 0] 32 (0, 0)) (by (with_reducible repeat (first | refine blk_drewN ?_ _ | refine blk_drew ?_ | refine blk_alloc ?_ _)); exact BK139.out) hb2) (by decide)); have n4_ := Aside0.mk (id (IsS48.ne_blkS hi (blk_below (g := gb139) (o := .cells #[.int .i64 0, .int .i64 0] 32 (0, 0)) (by (with_reducible repeat (first | refine blk_drewN ?_ _ | refine blk_drew ?_ | refine blk_alloc ?_ _)); exact BK139.out) hb2) (by decide))); clear BK139; clear HB; have BK139 := n0_; have HB := n1_; have HI141 := n2_; have NB141_139 := n3_; have NB139_141 := n4_; clear n0_ n1_ n2_ n3_ n4_; (try clear hb); (try clear hb2); (try clear hk); (try clear hi)) | ((with_reducible refine gate_callee (f := 17) rfl ?_); refine goesL_ (some 13) rfl rfl Tryd.func17 (by kernel_rfl) rfl #[.string (⟨#[]⟩ : ByteArray)] rfl (by (try simp only [List.map_toArray, List.map_cons, List.map_nil]); first | done | rfl | (simp only [List.length_drop, List.length_take]; rfl) | (refine congrArg (fun z_ => #[z_]) (congrArg (Value.int IntKind.u64) (Eq.symm (Go.Proofs.YtjfklfmfeghjnacDoorAid.wrap_len _ (by omega)))))) ?_; (with_reducible refine (lex_End.calls (⟨#[]⟩ : ByteArray) t142 t143 _ A3.out).mono ?_); rintro e w6 ⟨rfl, hb⟩; refine ⟨_, rfl, ?_⟩; have n0_ := Aside0.mk (blk_below (g := gb139) (o := .cells #[.int .i64 0, .int .i64 0] 32 (0, 0)) (by (with_reducible repeat (first | refine blk_drewN ?_ _ | refine blk_drew ?_ | refine blk_alloc ?_ _)); exact BK139.out) hb); have n1_ := Aside0.mk (IsS48.below (by repeat (first | (with_reducible first | exact HI141.out | apply IsS48.alloc | apply IsS48.drewN | apply IsS48.drew | apply IsS48.set_0 | refine IsS48.far ?_ NB141_139.out _) | exact HI141.out)) hb); have n2_ := Aside0.mk (below_step (by repeat (first | (with_reducible first | exact HB.out | apply below_alloc | apply pw_below_drewN | apply below_drew1 | refine below_set ?_ (IsS48.ge HI141.out) | refine below_set ?_ GE139.out) | exact HB.out)) hb); clear BK139; clear HI141; clear HB; have BK139 := n0_; have HI141 := n1_; have HB := n2_; clear n0_ n1_ n2_; (try clear hb); (try clear hb2); (try clear hk); (try clear hi)) | ((with_reducible refine gate_dst (N := 6) rfl ?_); refine box_event ?hg (N := 6) ?hd (cs := #[.nilFunc, .nilFunc, .nilFunc, .nilFunc, .nilFunc, .nilFunc, .nilFunc]) (t := 49) ?hr ?_; (case hd => rfl); (case hg => rfl); (case hr => first | (go_simp; done) | (go_simp; rfl)); intro gb144 hg w7 hbox hb; have n0_ := Aside0.mk (blk_below (g := gb139) (o := .cells #[.int .i64 0, .int .i64 0] 32 (0, 0)) (by (with_reducible repeat (first | refine blk_drewN ?_ _ | refine blk_drew ?_ | refine blk_alloc ?_ _)); exact BK139.out) hb); have n1_ := Aside0.mk (IsS48.below (by repeat (first | (with_reducible first | exact HI141.out | apply IsS48.alloc | apply IsS48.drewN | apply IsS48.drew | apply IsS48.set_0 | refine IsS48.far ?_ NB141_139.out _) | exact HI141.out)) hb); have n2_ := Aside0.mk (below_step (by repeat (first | (with_reducible first | exact HB.out | apply below_alloc | apply pw_below_drewN | apply below_drew1 | refine below_set ?_ (IsS48.ge HI141.out) | refine below_set ?_ GE139.out) | exact HB.out)) hb); have n3_ := Aside0.mk (hbox); have n4_ := Aside0.mk ((by rw [hg]; exact (below_size (by repeat (first | (with_reducible first | exact HB.out | apply below_alloc | apply pw_below_drewN | apply below_drew1 | refine below_set ?_ (IsS48.ge HI141.out) | refine below_set ?_ GE139.out) | exact HB.out))) : w.heap.size ≤ gb144)); have n5_ := Aside0.mk ((by rw [hg]; exact (below_size (by repeat (first | (with_reducible first | exact HB.out | apply below_alloc | apply pw_below_drewN | apply below_drew1 | refine below_set ?_ (IsS48.ge HI141.out) | refine below_set ?_ GE139.out) | exact HB.out))) : w.heap.size ≤ gb144)); have n6_ := Aside0.mk ((by rw [hg]; exact Nat.ne_of_lt (blk_lt (g := gb139) (o := .cells #[.int .i64 0, .int .i64 0] 32 (0, 0)) (by (with_reducible repeat (first | refine blk_drewN ?_ _ | refine blk_drew ?_ | refine blk_alloc ?_ _)); exact BK139.out)) : gb139 ≠ gb144)); have n7_ := Aside0.mk ((by rw [hg]; exact Nat.ne_of_gt (blk_lt (g := gb139) (o := .cells #[.int .i64 0, .int .i64 0] 32 (0, 0)) (by (with_reducible repeat (first | refine blk_drewN ?_ _ | refine blk_drew ?_ | refine blk_alloc ?_ _)); exact BK139.out)) : gb144 ≠ gb139)); have n8_ := Aside0.mk ((by rw [hg]; exact Ne4.of_lt (IsS48.lt4 (show IsS48 w _ g141 t140 from by repeat (first | (with_reducible first | exact HI141.out | apply IsS48.alloc | apply IsS48.drewN | apply IsS48.drew | apply IsS48.set_0 | refine IsS48.far ?_ NB141_139.out _) | exact HI141.out))) : Ne4 g141 gb144)); have n9_ := Aside0.mk ((by rw [hg]; exact Nat.ne_of_gt (IsS48.lt (show IsS48 w _ g141 t140 from by repeat (first | (with_reducible first | exact HI141.out | apply IsS48.alloc | apply IsS48.drewN | apply IsS48.drew | apply IsS48.set_0 | refine IsS48.far ?_ NB141_139.out _) | exact HI141.out))) : gb144 ≠ g141)); clear BK139; clear HI141; clear HB; have BK139 := n0_; have HI141 := n1_; have HB := n2_; have BK144 := n3_; have GW144 := n4_; have GE144 := n5_; have NB139_144 := n6_; have NB144_139 := n7_; have NB141_144 := n8_; have NB144_141 := n9_; clear n0_ n1_ n2_ n3_ n4_ n5_ n6_ n7_ n8_ n9_; clear hb hbox hg) | ((with_reducible refine gate_dst (N := 7) rfl ?_); refine box_event ?hg (N := 7) ?hd (cs := #[.int .i64 0, .int .i64 0]) (t := 32) ?hr ?_; (case hd => rfl); (case hg => rfl); (case hr => first | (go_simp; done) | (go_simp; rfl)); intro gb145 hg w8 hbox hb; have n0_ := Aside0.mk (blk_below (g := gb139) (o := .cells #[.int .i64 0, .int .i64 0] 32 (0, 0)) (by (with_reducible repeat (first | refine blk_drewN ?_ _ | refine blk_drew ?_ | refine blk_alloc ?_ _)); exact BK139.out) hb); have n1_ := Aside0.mk (IsS48.below (by repeat (first | (with_reducible first | exact HI141.out | apply IsS48.alloc | apply IsS48.drewN | apply IsS48.drew | apply IsS48.set_0 | refine IsS48.far ?_ NB141_139.out _ | refine IsS48.far ?_ NB141_144.out _) | exact HI141.out)) hb); have n2_ := Aside0.mk (blk_below (g := gb144) (o := .cells #[.nilFunc, .nilFunc, .nilFunc, .nilFunc, .nilFunc, .nilFunc, .nilFunc] 49 (0, 0)) (by (with_reducible repeat (first | refine blk_drewN ?_ _ | refine blk_drew ?_ | refine blk_alloc ?_ _)); exact BK144.out) hb); have n3_ := Aside0.mk (below_step (by repeat (first | (with_reducible first | exact HB.out | apply below_alloc | apply pw_below_drewN | apply below_drew1 | refine below_set ?_ (IsS48.ge HI141.out) | refine below_set ?_ GE139.out | refine below_set ?_ GE144.out) | exact HB.out)) hb); have n4_ := Aside0.mk (hbox); have n5_ := Aside0.mk ((by rw [hg]; exact (below_size (by repeat (first | (with_reducible first | exact HB.out | apply below_alloc | apply pw_below_drewN | apply below_drew1 | refine below_set ?_ (IsS48.ge HI141.out) | refine below_set ?_ GE139.out | refine below_set ?_ GE144.out) | exact HB.out))) : w.heap.size ≤ gb145)); have n6_ := Aside0.mk ((by rw [hg]; exact (below_size (by repeat (first | (with_reducible first | exact HB.out | apply below_alloc | apply pw_below_drewN | apply below_drew1 | refine below_set ?_ (IsS48.ge HI141.out) | refine below_set ?_ GE139.out | refine below_set ?_ GE144.out) | exact HB.out))) : w.heap.size ≤ gb145)); have n7_ := Aside0.mk ((by rw [hg]; exact Nat.ne_of_lt (blk_lt (g := gb139) (o := .cells #[.int .i64 0, .int .i64 0] 32 (0, 0)) (by (with_reducible repeat (first | refine blk_drewN ?_ _ | refine blk_drew ?_ | refine blk_alloc ?_ _)); exact BK139.out)) : gb139 ≠ gb145)); have n8_ := Aside0.mk ((by rw [hg]; exact Nat.ne_of_gt (blk_lt (g := gb139) (o := .cells #[.int .i64 0, .int .i64 0] 32 (0, 0)) (by (with_reducible repeat (first | refine blk_drewN ?_ _ | refine blk_drew ?_ | refine blk_alloc ?_ _)); exact BK139.out)) : gb145 ≠ gb139)); have n9_ := Aside0.mk ((by rw [hg]; exact Nat.ne_of_lt (blk_lt (g := gb144) (o := .cells #[.nilFunc, .nilFunc, .nilFunc, .nilFunc, .nilFunc, .nilFunc, .nilFunc] 49 (0, 0)) (by (with_reducible repeat (first | refine blk_drewN ?_ _ | refine blk_drew ?_ | refine blk_alloc ?_ _)); exact BK144.out)) : gb144 ≠ gb145)); have n10_ := Aside0.mk ((by rw [hg]; exact Nat.ne_of_gt (blk_lt (g := gb144) (o := .cells #[.nilFunc, .nilFunc, .nilFunc, .nilFunc, .nilFunc, .nilFunc, .nilFunc] 49 (0, 0)) (by (with_reducible repeat (first | refine blk_drewN ?_ _ | refine blk_drew ?_ | refine blk_alloc ?_ _)); exact BK144.out)) : gb145 ≠ gb144)); have n11_ := Aside0.mk ((by rw [hg]; exact Ne4.of_lt (IsS48.lt4 (show IsS48 w _ g141 t140 from by repeat (first | (with_reducible first | exact HI141.out | apply IsS48.alloc | apply IsS48.drewN | apply IsS48.drew | apply IsS48.set_0 | refine IsS48.far ?_ NB141_139.out _ | refine IsS48.far ?_ NB141_144.out _) | exact HI141.out))) : Ne4 g141 gb145)); have n12_ := Aside0.mk ((by rw [hg]; exact Nat.ne_of_gt (IsS48.lt (show IsS48 w _ g141 t140 from by repeat (first | (with_reducible first | exact HI141.out | apply IsS48.alloc | apply IsS48.drewN | apply IsS48.drew | apply IsS48.set_0 | refine IsS48.far ?_ NB141_139.out _ | refine IsS48.far ?_ NB141_144.out _) | exact HI141.out))) : gb145 ≠ g141)); clear BK139; clear HI141; clear BK144; clear HB; have BK139 := n0_; have HI141 := n1_; have BK144 := n2_; have HB := n3_; have BK145 := n4_; have GW145 := n5_; have GE145 := n6_; have NB139_145 := n7_; have NB145_139 := n8_; have NB144_145 := n9_; have NB145_144 := n10_; have NB141_145 := n11_; have NB145_141 := n12_; clear n0_ n1_ n2_ n3_ n4_ n5_ n6_ n7_ n8_ n9_ n10_ n11_ n12_; clear hb hbox hg; have hnb9 := NB144_139.out; have hnc9 := NB139_144.out; have hnb10 := NB144_145.out; have hnc10 := NB145_144.out; have hnb11 := NB144_141.out; have hnc11 := NB141_144.out; have hcz12_0 : w8.cell? ⟨gb144, 0, none⟩ = some (.nilFunc) := (blk_cell BK144.out 0).trans rfl; have hcz12_1 : w8.cell? ⟨gb144, 1, none⟩ = some (.nilFunc) := (blk_cell BK144.out 1).trans rfl; have hcz12_2 : w8.cell? ⟨gb144, 2, none⟩ = some (.nilFunc) := (blk_cell BK144.out 2).trans rfl; have hcz12_3 : w8.cell? ⟨gb144, 3, none⟩ = some (.nilFunc) := (blk_cell BK144.out 3).trans rfl; have hcz12_4 : w8.cell? ⟨gb144, 4, none⟩ = some (.nilFunc) := (blk_cell BK144.out 4).trans rfl; have hcz12_5 : w8.cell? ⟨gb144, 5, none⟩ = some (.nilFunc) := (blk_cell BK144.out 5).trans rfl; have hcz12_6 : w8.cell? ⟨gb144, 6, none⟩ = some (.nilFunc) := (blk_cell BK144.out 6).trans rfl; have hfz12_0 := blk_frozen BK144.out 0; have hfz12_1 := blk_frozen BK144.out 1; have hfz12_2 := blk_frozen BK144.out 2; have hfz12_3 := blk_frozen BK144.out 3; have hfz12_4 := blk_frozen BK144.out 4; have hfz12_5 := blk_frozen BK144.out 5; have hfz12_6 := blk_frozen BK144.out 6; have hnb13 := NB145_139.out; have hnc13 := NB139_145.out; have hnb14 := NB145_141.out; have hnc14 := NB141_145.out; have hcz15_0 : w8.cell? ⟨gb145, 0, none⟩ = some (.int .i64 0) := (blk_cell BK145.out 0).trans rfl; have hcz15_1 : w8.cell? ⟨gb145, 1, none⟩ = some (.int .i64 0) := (blk_cell BK145.out 1).trans rfl; have hfz15_0 := blk_frozen BK145.out 0; have hfz15_1 := blk_frozen BK145.out 1))
  go_loopg [0, 5] k (fun kq v0 v5 w' => ∃ (x0_1 : ByteArray) (x5_1 : List (S36)) (x140000_1 : Int) (x140001_1 : Int) (x142000_1 : Int) (x146000_1 : Int) (x146001_1 : Int), v0 = .string x0_1 ∧ Aside0 (lex_Lex.l0 kq x0_1 x5_1 x142000_1 x146000_1 x146001_1 = some (r1, r2, r3, r4)) ∧ Aside0 (kq ≤ k) ∧ Aside0 (Kd.R k36 36 w' w.heap.size (fun _ => True) v5 x5_1) ∧ Aside0 (w'.heap[gb139]? = some (.cells #[.int .i64 x140000_1, .int .i64 x140001_1] 32 (0, 0))) ∧ Aside0 (w'.heap[gb144]? = some (.cells #[Value.func (Fn.func 26) #[] #[], Value.func (Fn.func 41) #[] #[Value.pointer (some ⟨g141, 0, none⟩)], Value.func (Fn.func 41) #[] #[Value.pointer (some ⟨g141 + 1, 0, none⟩)], Value.func (Fn.func 41) #[] #[Value.pointer (some ⟨g141 + 2, 0, none⟩)], Value.func (Fn.func 41) #[] #[Value.pointer (some ⟨g141 + 3, 0, none⟩)], Value.func (Fn.func 28) #[] #[], Value.func (Fn.func 10) #[] #[]] 49 (0, 0))) ∧ Aside0 (w'.heap[gb145]? = some (.cells #[.int .i64 x146000_1, .int .i64 x146001_1] 32 (0, 0))) ∧ Aside0 (IsS48 w w' g141 x142000_1) ∧ Aside0 (Below w.heap.size w w'))
  case atStart => exact ⟨(a0), (([] : List (S36))), (0), (0), (t140), (t142), (t143), (by first | rfl | (simp; done) | (simp [*]; done)), H', ⟨Nat.le_refl _⟩, ⟨by first | exact Kd.R_nil _ _ _ _ _ | exact Kd.N_nil _ _ _ _ _ | exact Kd.V_nil _ _ _ _ _ | exact Kd.Q_nil _ _ _ _ _ | exact Kd.S_nil _ _ _ _ _⟩, ⟨by (with_reducible repeat (first | refine blk_drewN ?_ _ | refine blk_drew ?_ | refine blk_alloc ?_ _)); refine blk_far ?_ NB139_145.out _; (with_reducible repeat (first | refine blk_drewN ?_ _ | refine blk_drew ?_ | refine blk_alloc ?_ _)); refine blk_far ?_ NB139_145.out _; (with_reducible repeat (first | refine blk_drewN ?_ _ | refine blk_drew ?_ | refine blk_alloc ?_ _)); refine blk_far ?_ NB139_144.out _; (with_reducible repeat (first | refine blk_drewN ?_ _ | refine blk_drew ?_ | refine blk_alloc ?_ _)); refine blk_far ?_ NB139_144.out _; (with_reducible repeat (first | refine blk_drewN ?_ _ | refine blk_drew ?_ | refine blk_alloc ?_ _)); refine blk_far ?_ NB139_144.out _; (with_reducible repeat (first | refine blk_drewN ?_ _ | refine blk_drew ?_ | refine blk_alloc ?_ _)); refine blk_far ?_ NB139_144.out _; (with_reducible repeat (first | refine blk_drewN ?_ _ | refine blk_drew ?_ | refine blk_alloc ?_ _)); refine blk_far ?_ NB139_144.out _; (with_reducible repeat (first | refine blk_drewN ?_ _ | refine blk_drew ?_ | refine blk_alloc ?_ _)); refine blk_far ?_ NB139_144.out _; (with_reducible repeat (first | refine blk_drewN ?_ _ | refine blk_drew ?_ | refine blk_alloc ?_ _)); refine blk_far ?_ NB139_144.out _; (with_reducible repeat (first | refine blk_drewN ?_ _ | refine blk_drew ?_ | refine blk_alloc ?_ _)); exact BK139.out⟩, ⟨by (with_reducible repeat (first | refine blk_drewN ?_ _ | refine blk_drew ?_ | refine blk_alloc ?_ _)); refine blk_far ?_ NB144_145.out _; (with_reducible repeat (first | refine blk_drewN ?_ _ | refine blk_drew ?_ | refine blk_alloc ?_ _)); refine blk_far ?_ NB144_145.out _; (with_reducible repeat (first | refine blk_drewN ?_ _ | refine blk_drew ?_ | refine blk_alloc ?_ _)); refine blk_put (cs := #[Value.func (Fn.func 26) #[] #[], Value.func (Fn.func 41) #[] #[Value.pointer (some ⟨g141, 0, none⟩)], Value.func (Fn.func 41) #[] #[Value.pointer (some ⟨g141 + 1, 0, none⟩)], Value.func (Fn.func 41) #[] #[Value.pointer (some ⟨g141 + 2, 0, none⟩)], Value.func (Fn.func 41) #[] #[Value.pointer (some ⟨g141 + 3, 0, none⟩)], Value.func (Fn.func 28) #[] #[], .nilFunc]) ?_ 6 _ rfl; (with_reducible repeat (first | refine blk_drewN ?_ _ | refine blk_drew ?_ | refine blk_alloc ?_ _)); refine blk_put (cs := #[Value.func (Fn.func 26) #[] #[], Value.func (Fn.func 41) #[] #[Value.pointer (some ⟨g141, 0, none⟩)], Value.func (Fn.func 41) #[] #[Value.pointer (some ⟨g141 + 1, 0, none⟩)], Value.func (Fn.func 41) #[] #[Value.pointer (some ⟨g141 + 2, 0, none⟩)], Value.func (Fn.func 41) #[] #[Value.pointer (some ⟨g141 + 3, 0, none⟩)], .nilFunc, .nilFunc]) ?_ 5 _ rfl; (with_reducible repeat (first | refine blk_drewN ?_ _ | refine blk_drew ?_ | refine blk_alloc ?_ _)); refine blk_put (cs := #[Value.func (Fn.func 26) #[] #[], Value.func (Fn.func 41) #[] #[Value.pointer (some ⟨g141, 0, none⟩)], Value.func (Fn.func 41) #[] #[Value.pointer (some ⟨g141 + 1, 0, none⟩)], Value.func (Fn.func 41) #[] #[Value.pointer (some ⟨g141 + 2, 0, none⟩)], .nilFunc, .nilFunc, .nilFunc]) ?_ 4 _ rfl; (with_reducible repeat (first | refine blk_drewN ?_ _ | refine blk_drew ?_ | refine blk_alloc ?_ _)); refine blk_put (cs := #[Value.func (Fn.func 26) #[] #[], Value.func (Fn.func 41) #[] #[Value.pointer (some ⟨g141, 0, none⟩)], Value.func (Fn.func 41) #[] #[Value.pointer (some ⟨g141 + 1, 0, none⟩)], .nilFunc, .nilFunc, .nilFunc, .nilFunc]) ?_ 3 _ rfl; (with_reducible repeat (first | refine blk_drewN ?_ _ | refine blk_drew ?_ | refine blk_alloc ?_ _)); refine blk_put (cs := #[Value.func (Fn.func 26) #[] #[], Value.func (Fn.func 41) #[] #[Value.pointer (some ⟨g141, 0, none⟩)], .nilFunc, .nilFunc, .nilFunc, .nilFunc, .nilFunc]) ?_ 2 _ rfl; (with_reducible repeat (first | refine blk_drewN ?_ _ | refine blk_drew ?_ | refine blk_alloc ?_ _)); refine blk_put (cs := #[Value.func (Fn.func 26) #[] #[], .nilFunc, .nilFunc, .nilFunc, .nilFunc, .nilFunc, .nilFunc]) ?_ 1 _ rfl; (with_reducible repeat (first | refine blk_drewN ?_ _ | refine blk_drew ?_ | refine blk_alloc ?_ _)); refine blk_put (cs := #[.nilFunc, .nilFunc, .nilFunc, .nilFunc, .nilFunc, .nilFunc, .nilFunc]) ?_ 0 _ rfl; (with_reducible repeat (first | refine blk_drewN ?_ _ | refine blk_drew ?_ | refine blk_alloc ?_ _)); exact BK144.out⟩, ⟨by (with_reducible repeat (first | refine blk_drewN ?_ _ | refine blk_drew ?_ | refine blk_alloc ?_ _)); refine blk_put (cs := #[.int .i64 t142, .int .i64 0]) ?_ 1 _ rfl; (with_reducible repeat (first | refine blk_drewN ?_ _ | refine blk_drew ?_ | refine blk_alloc ?_ _)); refine blk_put (cs := #[.int .i64 0, .int .i64 0]) ?_ 0 _ rfl; (with_reducible repeat (first | refine blk_drewN ?_ _ | refine blk_drew ?_ | refine blk_alloc ?_ _)); refine blk_far ?_ NB145_144.out _; (with_reducible repeat (first | refine blk_drewN ?_ _ | refine blk_drew ?_ | refine blk_alloc ?_ _)); refine blk_far ?_ NB145_144.out _; (with_reducible repeat (first | refine blk_drewN ?_ _ | refine blk_drew ?_ | refine blk_alloc ?_ _)); refine blk_far ?_ NB145_144.out _; (with_reducible repeat (first | refine blk_drewN ?_ _ | refine blk_drew ?_ | refine blk_alloc ?_ _)); refine blk_far ?_ NB145_144.out _; (with_reducible repeat (first | refine blk_drewN ?_ _ | refine blk_drew ?_ | refine blk_alloc ?_ _)); refine blk_far ?_ NB145_144.out _; (with_reducible repeat (first | refine blk_drewN ?_ _ | refine blk_drew ?_ | refine blk_alloc ?_ _)); refine blk_far ?_ NB145_144.out _; (with_reducible repeat (first | refine blk_drewN ?_ _ | refine blk_drew ?_ | refine blk_alloc ?_ _)); refine blk_far ?_ NB145_144.out _; (with_reducible repeat (first | refine blk_drewN ?_ _ | refine blk_drew ?_ | refine blk_alloc ?_ _)); exact BK145.out⟩, ⟨by repeat (first | (with_reducible first | exact HI141.out | apply IsS48.alloc | apply IsS48.drewN | apply IsS48.drew | apply IsS48.set_0 | refine IsS48.far ?_ NB141_139.out _ | refine IsS48.far ?_ NB141_144.out _ | refine IsS48.far ?_ NB141_145.out _) | exact HI141.out)⟩, ⟨by repeat (first | (with_reducible first | exact HB.out | apply below_alloc | apply pw_below_drewN | apply below_drew1 | refine below_set ?_ (IsS48.ge HI141.out) | refine below_set ?_ GE139.out | refine below_set ?_ GE144.out | refine below_set ?_ GE145.out) | exact HB.out)⟩⟩
  case round =>
    clear H'
    try clear c1
    try clear p2
    try clear c9
    try clear c10
    try clear c11
    try clear c13
    try clear c14
    try clear hcz12_0
    try clear hcz15_0
    try clear hcz15_1
    try clear hfz12_0
    try clear hfz15_0
    try clear hfz15_1
    obtain ⟨x0_1, x5_1, x140000_1, x140001_1, x142000_1, x146000_1, x146001_1, rfl, HA, HK1, HO_5, BK139, BK144, BK145, HI141, HB⟩ := hrel
    cases gk with
    | zero => exact absurd HA.out (by simp [lex_Lex.l0])
    | succ k1 =>
      have H := HA.out
      clear HA
      simp only [lex_Lex.l0] at H
      by_cases c16 : x0_1.toList = ([] : List UInt8)
      · rw [if_pos c16] at H
        have c16b0 : (x0_1.toList == ([] : List UInt8)) = true := beq_iff_eq.mpr c16
        have c16b1 : (x0_1.toList != ([] : List UInt8)) = false := bne_eq_false_iff_eq.mpr c16
        clear c16
        simp only [Option.some.injEq, Prod.mk.injEq] at H
        obtain ⟨rfl, rfl, rfl, rfl⟩ := H
        have hnb17 := NB139_144.out
        have hnc17 := NB144_139.out
        have hnb18 := NB139_145.out
        have hnc18 := NB145_139.out
        have hnb19 := NB139_141.out
        have hnc19 := NB141_139.out
        have hcz20_0 : wr.cell? ⟨gb139, 0, none⟩ = some (.int .i64 x140000_1) := (blk_cell BK139.out 0).trans rfl
        have hcz20_1 : wr.cell? ⟨gb139, 1, none⟩ = some (.int .i64 x140001_1) := (blk_cell BK139.out 1).trans rfl
        have hfz20_0 := blk_frozen BK139.out 0
        have hfz20_1 := blk_frozen BK139.out 1
        go_wp2
        refine bodyPost_ret (results_list (rs := [.tmp 2, .tmp 3, .cell 4 32]) rfl (by simp) (.tmp (.tmp (.cell gb139 32 #[.int .i64 0, .int .i64 0] (0, 0) _ rfl (by (with_reducible repeat (first | refine blk_drewN ?_ _ | refine blk_drew ?_ | refine blk_alloc ?_ _)); refine blk_put (cs := #[.int .i64 0, .int .i64 x140001_1]) ?_ 1 _ rfl; (with_reducible repeat (first | refine blk_drewN ?_ _ | refine blk_drew ?_ | refine blk_alloc ?_ _)); refine blk_put (cs := #[.int .i64 x140000_1, .int .i64 x140001_1]) ?_ 0 _ rfl; (with_reducible repeat (first | refine blk_drewN ?_ _ | refine blk_drew ?_ | refine blk_alloc ?_ _)); exact BK139.out) Tryd.underlying32 rfl (by kernel_rfl) .nil)))) rfl ?_
        exact ⟨_, by first | rfl | (simp [errW_none, errW_some] <;> rfl) | (simp [*, errW_none, errW_some] <;> rfl), by (with_reducible repeat (first | apply Kd.R_alloc | apply Kd.R_drewN | apply Kd.R_drew)); exact Kd.R_mono (Kd.R_far (p := ⟨gb139, 1, none⟩) (Kd.R_far (p := ⟨gb139, 0, none⟩) (Kd.R_types HO_5.out BK139.out (by decide)) (fun _ hk => hk.2) (.int .i64 0)) (fun _ hk => hk.2) (.int .i64 0)) (fun _ hk => trivial), by repeat (first | (with_reducible first | exact HB.out | apply below_alloc | apply pw_below_drewN | apply below_drew1 | refine below_set ?_ (IsS48.ge HI141.out) | refine below_set ?_ GE139.out | refine below_set ?_ GE144.out | refine below_set ?_ GE145.out) | exact HB.out)⟩
      · rw [if_neg c16] at H
        have c16b0 : (x0_1.toList == ([] : List UInt8)) = false := beq_eq_false_iff_ne.mpr c16
        have c16b1 : (x0_1.toList != ([] : List UInt8)) = true := bne_iff_ne.mpr c16
        by_cases c21 : 0 < (x0_1.size : Int)
        · rw [if_pos c21] at H
          have c21b0 : decide (0 < (x0_1.size : Int)) = true := decide_eq_true c21
          have c21b1 : decide (0 < x0_1.size) = true := decide_eq_true (by omega)
          clear c21
          replace H := Option.bind_eq_some_iff.mp H
          obtain ⟨t146, A230, H⟩ := H
          replace H : (if t146 ≥ 0 then (if 0 ≤ 1 then (if 1 ≤ (x0_1.size : Int) then ((lex_on.f x146000_1 x146001_1 (x0_1.extract 0 1)).bind fun bt147 => (lex_Lex.l0 k1 (x0_1.extract 1 x0_1.size) x5_1 x142000_1 bt147.1 bt147.2)) else (none)) else (none)) else ((lex_first.f k1 x142000_1 x0_1).bind fun bt149 => (if bt149.2.2.2.2.2.1 = 0 then (if x5_1.length < 3518437208883 then (if 0 ≤ bt149.2.2.2.2.1 then (if bt149.2.2.2.2.1 ≤ (x0_1.size : Int) then ((lex_on.f x146000_1 x146001_1 (x0_1.extract 0 (bt149.2.2.2.2.1 : Int).toNat)).bind fun bt160 => (lex_Lex.l0 k1 (x0_1.extract (bt149.2.2.2.2.1 : Int).toNat x0_1.size) (x5_1 ++ [(⟨bt149.1, bt149.2.1, (⟨x146000_1, x146001_1⟩ : S32)⟩ : S36)]) bt149.2.2.2.2.2.2 bt160.1 bt160.2)) else (none)) else (none)) else (none)) else (some (([] : List (S36)), bt149.2.2.2.2.2.1, x146000_1, x146001_1))))) = some (r1, r2, r3, r4) := H
          have A23 := Aside0.mk A230
          clear A230
          by_cases c24 : t146 ≥ 0
          · rw [if_pos c24] at H
            have c24b0 : decide (0 ≤ t146) = true := decide_eq_true c24
            clear c24
            by_cases c25 : 0 ≤ 1
            · rw [if_pos c25] at H
              have c25b0 := eq_true c25
              have c25b1 : decide (0 ≤ 1) = true := decide_eq_true c25
              clear c25
              by_cases c26 : 1 ≤ (x0_1.size : Int)
              · rw [if_pos c26] at H
                have c26b0 := eq_true c26
                have c26b1 : decide (1 ≤ (x0_1.size : Int)) = true := decide_eq_true c26
                clear c26
                replace H := Option.bind_eq_some_iff.mp H
                obtain ⟨⟨t147, t148⟩, A270, H⟩ := H
                replace H : (lex_Lex.l0 k1 (x0_1.extract 1 x0_1.size) x5_1 x142000_1 t147 t148) = some (r1, r2, r3, r4) := H
                have A27 := Aside0.mk A270
                clear A270
                have c28b0 := eq_true (of_decide_eq_true (by first | (with_reducible assumption) | assumption) : 1 ≤ (x0_1.size : Int))
                have H' := Aside0.mk H
                clear H
                have p22 : 0 ≤ (0 : Int) := (by omega)
                have q22 : 0 < x0_1.size := (by have : (0 : Int) < (x0_1.size : Int) := of_decide_eq_true (by first | (with_reducible assumption) | assumption); omega)
                have hx22 : ∀ h : 0 < x0_1.size, ((x0_1[0]'h).toNat : Int) = bt x0_1 0 := bt_at x0_1 0
                clear p22
                have qi22 : (0 < (x0_1.size : Int)) = True := eq_true (of_decide_eq_true (by first | (with_reducible assumption) | assumption))
                replace q22 := eq_true q22
                try go_wp2_with (first | ((with_reducible refine gate_callee (f := 18) rfl ?_); refine goesL_ (some 19) rfl rfl Tryd.func18 (by kernel_rfl) rfl #[.string (⟨#[32, 9, 10, 13]⟩ : ByteArray), .int .u8 (bt x0_1 0)] rfl (by (try simp only [List.map_toArray, List.map_cons, List.map_nil]); first | done | rfl | (simp only [List.length_drop, List.length_take]; rfl) | (refine congrArg (fun z_ => #[z_]) (congrArg (Value.int IntKind.u64) (Eq.symm (Go.Proofs.YtjfklfmfeghjnacDoorAid.wrap_len _ (by omega)))))) ?_; (with_reducible refine (strings_IndexByte.calls (⟨#[32, 9, 10, 13]⟩ : ByteArray) (bt x0_1 0) t146 _ A23.out).mono ?_); rintro e w' ⟨rfl, ⟨nd, rfl⟩⟩; refine ⟨_, rfl, ?_⟩; (try (rw [drewN_self wr]; generalize hq_ : World.drewN wr _ = wr; have n0_ : Aside0 (Kd.R k36 36 wr w.heap.size (fun _ => True) u5 x5_1) := ⟨by rw [← hq_]; exact (by (with_reducible repeat (first | apply Kd.R_alloc | apply Kd.R_drewN | apply Kd.R_drew)); exact HO_5.out)⟩; have n1_ : Aside0 (wr.heap[gb139]? = some (.cells #[.int .i64 x140000_1, .int .i64 x140001_1] 32 (0, 0))) := ⟨by rw [← hq_]; exact (by (with_reducible repeat (first | refine blk_drewN ?_ _ | refine blk_drew ?_ | refine blk_alloc ?_ _)); exact BK139.out)⟩; have n2_ : Aside0 (wr.heap[gb144]? = some (.cells #[Value.func (Fn.func 26) #[] #[], Value.func (Fn.func 41) #[] #[Value.pointer (some ⟨g141, 0, none⟩)], Value.func (Fn.func 41) #[] #[Value.pointer (some ⟨g141 + 1, 0, none⟩)], Value.func (Fn.func 41) #[] #[Value.pointer (some ⟨g141 + 2, 0, none⟩)], Value.func (Fn.func 41) #[] #[Value.pointer (some ⟨g141 + 3, 0, none⟩)], Value.func (Fn.func 28) #[] #[], Value.func (Fn.func 10) #[] #[]] 49 (0, 0))) := ⟨by rw [← hq_]; exact (by (with_reducible repeat (first | refine blk_drewN ?_ _ | refine blk_drew ?_ | refine blk_alloc ?_ _)); exact BK144.out)⟩; have n3_ : Aside0 (wr.heap[gb145]? = some (.cells #[.int .i64 x146000_1, .int .i64 x146001_1] 32 (0, 0))) := ⟨by rw [← hq_]; exact (by (with_reducible repeat (first | refine blk_drewN ?_ _ | refine blk_drew ?_ | refine blk_alloc ?_ _)); exact BK145.out)⟩; have n4_ : Aside0 (IsS48 w wr g141 x142000_1) := ⟨by rw [← hq_]; exact (by repeat (first | (with_reducible first | exact HI141.out | apply IsS48.alloc | apply IsS48.drewN | apply IsS48.drew | apply IsS48.set_0 | refine IsS48.far ?_ NB141_139.out _ | refine IsS48.far ?_ NB141_144.out _ | refine IsS48.far ?_ NB141_145.out _) | exact HI141.out))⟩; have n5_ : Aside0 (Below w.heap.size w wr) := ⟨by rw [← hq_]; exact (by repeat (first | (with_reducible first | exact HB.out | apply below_alloc | apply pw_below_drewN | apply below_drew1 | refine below_set ?_ (IsS48.ge HI141.out) | refine below_set ?_ GE139.out | refine below_set ?_ GE144.out | refine below_set ?_ GE145.out) | exact HB.out))⟩; clear HO_5 BK139 BK144 BK145 HI141 HB hq_; have HO_5 := n0_; have BK139 := n1_; have BK144 := n2_; have BK145 := n3_; have HI141 := n4_; have HB := n5_; clear n0_ n1_ n2_ n3_ n4_ n5_)); (try (have hczU139_0 : wr.cell? ⟨gb139, 0, none⟩ = some (.int .i64 x140000_1) := (blk_cell BK139.out 0).trans rfl)); (try (have hczU139_1 : wr.cell? ⟨gb139, 1, none⟩ = some (.int .i64 x140001_1) := (blk_cell BK139.out 1).trans rfl)); (try (have hczU144_0 : wr.cell? ⟨gb144, 0, none⟩ = some (.int .i64 0) := (blk_cell BK144.out 0).trans rfl)); (try (have hczU145_0 : wr.cell? ⟨gb145, 0, none⟩ = some (.int .i64 x146000_1) := (blk_cell BK145.out 0).trans rfl)); (try (have hczU145_1 : wr.cell? ⟨gb145, 1, none⟩ = some (.int .i64 x146001_1) := (blk_cell BK145.out 1).trans rfl))))
                have n0_ := Aside0.mk (Kd.R_drew HO_5.out)
                have n1_ := Aside0.mk (blk_drew BK139.out)
                have n2_ := Aside0.mk (blk_drew BK144.out)
                have n3_ := Aside0.mk (blk_drew BK145.out)
                have n4_ := Aside0.mk (IsS48.drew HI141.out)
                have n5_ := Aside0.mk (below_drew1 HB.out)
                clear HO_5
                clear BK139
                clear BK144
                clear BK145
                clear HI141
                clear HB
                have HO_5 := n0_
                have BK139 := n1_
                have BK144 := n2_
                have BK145 := n3_
                have HI141 := n4_
                have HB := n5_
                clear n0_ n1_ n2_ n3_ n4_ n5_
                refine start_ (n := 8) (S := fun w' => w'.cell? ⟨gb145, 0, none⟩ = some (.int .i64 x146000_1) ∧ w'.cell? ⟨gb145, 1, none⟩ = some (.int .i64 x146001_1)) (ds := [6]) #[false, false, false, false, false, false, false, false] (by kernel_rfl) rfl rfl ⟨(blk_cell BK145.out 0).trans rfl, (blk_cell BK145.out 1).trans rfl⟩ (fun hHeld => ?_); refine with_tabW lex_Lex.tab6 lex_Lex.bits6 (fun HT_ HW_ => ?_)
                generalize wr.drew = w29 at HO_5 BK139 BK144 BK145 HI141 HB hHeld ⊢
                refine pure_ (i := 1) (N := some 22) (v := ?_) (a' := ?_) #[false, true, false, false, false, false, false, false] rfl rfl (any_of HT_.out (by kernel_rfl)) (fun _ _ _ h => h) (Or.inl ⟨by rfl, ?_⟩) ?_ ?_
                rotate_left
                · intro w'
                  go_simp
                  with_reducible rfl
                rotate_left
                · simp only [Act.put, List.setIfInBounds_toArray, List.set_cons_zero, List.set_cons_succ, i64_w, i32_w]
                  rfl
                refine pure_ (i := 2) (N := some 23) (v := ?_) (a' := ?_) #[false, true, true, false, false, false, false, false] rfl rfl (any_of HT_.out (by kernel_rfl)) (fun _ _ _ h => h) (Or.inl ⟨by rfl, ?_⟩) ?_ ?_
                rotate_left
                · intro w'
                  go_simp
                  with_reducible rfl
                rotate_left
                · simp only [Act.put, List.setIfInBounds_toArray, List.set_cons_zero, List.set_cons_succ, i64_w, i32_w]
                  rfl
                refine pure_ (i := 4) (N := some 25) (v := ?_) (a' := ?_) #[false, true, true, false, true, false, false, false] rfl rfl (any_of HT_.out (by kernel_rfl)) (fun _ _ _ h => h) (Or.inl ⟨by rfl, ?_⟩) ?_ ?_
                rotate_left
                · intro w'
                  go_simp
                  with_reducible rfl
                rotate_left
                · simp only [Act.put, List.setIfInBounds_toArray, List.set_cons_zero, List.set_cons_succ, i64_w, i32_w]
                  rfl
                refine pure_ (i := 5) (N := some 26) (v := ?_) (a' := ?_) #[false, true, true, false, true, true, false, false] rfl rfl (any_of HT_.out (by kernel_rfl)) (fun _ _ _ h => h) (Or.inl ⟨by rfl, ?_⟩) ?_ ?_
                rotate_left
                · intro w'
                  go_simp
                  with_reducible rfl
                rotate_left
                · simp only [Act.put, List.setIfInBounds_toArray, List.set_cons_zero, List.set_cons_succ, i64_w, i32_w]
                  rfl
                refine take_ (i := 0) (N := some 21) (v := ?_) (a' := ?_) #[true, true, true, false, true, true, false, false] rfl rfl (take_ofW HT_.out HW_.out (by kernel_rfl)) (fun _ _ _ h => h) (Or.inl ⟨by rfl, ?_⟩) hHeld ?_ ?_
                rotate_left
                · rintro w' ⟨s0, s1⟩
                  go_simp
                  with_reducible rfl
                rotate_left
                · simp only [Act.put, List.setIfInBounds_toArray, List.set_cons_zero, List.set_cons_succ, i64_w, i32_w]
                  rfl
                refine one_ (i := 3) (N := some 24) #[true, true, true, true, true, true, false, false] rfl rfl (one_of HT_.out (by kernel_rfl)) (by decide) (fun K hK => ?_)
                refine goes_ Tryd.func19 (by kernel_rfl) rfl #[.agg #[.int .i64 x146000_1, .int .i64 x146001_1], .string (x0_1.extract 0 1)] (by rfl) rfl rfl (by (try simp only [List.map_toArray, List.map_cons, List.map_nil]); first | done | rfl | (simp only [List.length_drop, List.length_take]; rfl) | (refine congrArg (fun z_ => #[z_]) (congrArg (Value.int IntKind.u64) (Eq.symm (Go.Proofs.YtjfklfmfeghjnacDoorAid.wrap_len _ (by omega)))))) ?_
                with_reducible refine (lex_on.calls x146000_1 x146001_1 (x0_1.extract 0 1) t147 t148 _ A27.out).mono ?_
                rintro e w30 ⟨rfl, hb⟩
                refine ⟨_, rfl, ?_⟩
                have n0_ := Aside0.mk (Kd.R_below (by (with_reducible repeat (first | apply Kd.R_alloc | apply Kd.R_drewN | apply Kd.R_drew)); exact HO_5.out) hb)
                have n1_ := Aside0.mk (blk_below (g := gb139) (o := .cells #[.int .i64 x140000_1, .int .i64 x140001_1] 32 (0, 0)) (by (with_reducible repeat (first | refine blk_drewN ?_ _ | refine blk_drew ?_ | refine blk_alloc ?_ _)); exact BK139.out) hb)
                have n2_ := Aside0.mk (blk_below (g := gb144) (o := .cells #[Value.func (Fn.func 26) #[] #[], Value.func (Fn.func 41) #[] #[Value.pointer (some ⟨g141, 0, none⟩)], Value.func (Fn.func 41) #[] #[Value.pointer (some ⟨g141 + 1, 0, none⟩)], Value.func (Fn.func 41) #[] #[Value.pointer (some ⟨g141 + 2, 0, none⟩)], Value.func (Fn.func 41) #[] #[Value.pointer (some ⟨g141 + 3, 0, none⟩)], Value.func (Fn.func 28) #[] #[], Value.func (Fn.func 10) #[] #[]] 49 (0, 0)) (by (with_reducible repeat (first | refine blk_drewN ?_ _ | refine blk_drew ?_ | refine blk_alloc ?_ _)); exact BK144.out) hb)
                have n3_ := Aside0.mk (blk_below (g := gb145) (o := .cells #[.int .i64 x146000_1, .int .i64 x146001_1] 32 (0, 0)) (by (with_reducible repeat (first | refine blk_drewN ?_ _ | refine blk_drew ?_ | refine blk_alloc ?_ _)); exact BK145.out) hb)
                have n4_ := Aside0.mk (IsS48.below (by repeat (first | (with_reducible first | exact HI141.out | apply IsS48.alloc | apply IsS48.drewN | apply IsS48.drew | apply IsS48.set_0 | refine IsS48.far ?_ NB141_139.out _ | refine IsS48.far ?_ NB141_144.out _ | refine IsS48.far ?_ NB141_145.out _) | exact HI141.out)) hb)
                have n5_ := Aside0.mk (below_step (by repeat (first | (with_reducible first | exact HB.out | apply below_alloc | apply pw_below_drewN | apply below_drew1 | refine below_set ?_ (IsS48.ge HI141.out) | refine below_set ?_ GE139.out | refine below_set ?_ GE144.out | refine below_set ?_ GE145.out) | exact HB.out)) hb)
                clear HO_5
                clear BK139
                clear BK144
                clear BK145
                clear HI141
                clear HB
                have HO_5 := n0_
                have BK139 := n1_
                have BK144 := n2_
                have BK145 := n3_
                have HI141 := n4_
                have HB := n5_
                clear n0_ n1_ n2_ n3_ n4_ n5_
                (try clear hb)
                (try clear hb2)
                (try clear hk)
                (try clear hi)
                refine hK.out _ _ ⟨(blk_cell BK145.out 0).trans rfl, (blk_cell BK145.out 1).trans rfl⟩ (fun hHeld => ?_)
                clear hK K
                refine norm_ (a' := ?_) ?_ ?_
                rotate_left
                · show Act.put _ (some 24) _ = _
                  simp only [Act.put, List.setIfInBounds_toArray, List.set_cons_zero, List.set_cons_succ, i64_w, i32_w]
                  rfl
                refine last_ (i := 6) (N := none) #[true, true, true, true, true, true, true, false] rfl rfl (one_of HT_.out (by kernel_rfl)) (by decide) (fun K hK => ?_)
                have hs31 : w30.cell? ⟨gb145, 0, none⟩ = some (.int .i64 x146000_1) := (blk_cell BK145.out 0).trans rfl
                have hfs31 := blk_frozen BK145.out 0
                have hns31_0 := NB139_145.out
                have hns31_1 := NB144_145.out
                have hms31_0 := NB145_139.out
                have hms31_1 := NB145_144.out
                have hs32 : w30.cell? ⟨gb145, 1, none⟩ = some (.int .i64 x146001_1) := (blk_cell BK145.out 1).trans rfl
                have hfs32 := blk_frozen BK145.out 1
                have hns32_0 := NB139_145.out
                have hns32_1 := NB144_145.out
                have hms32_0 := NB145_139.out
                have hms32_1 := NB145_144.out
                refine skip_ (w1 := ?_) (by rfl) rfl ?_ ?_
                rotate_left
                · go_simp
                  rfl
                refine hK.out _ _ ?_
                clear hK K
                refine pure_ (i := 7) (N := some 0) (v := ?_) (a' := ?_) #[true, true, true, true, true, true, true, true] rfl rfl (any_of HT_.out (by kernel_rfl)) (fun _ _ _ h => h) (Or.inl ⟨by rfl, ?_⟩) ?_ ?_
                rotate_left
                · intro w'
                  go_simp
                  with_reducible rfl
                rotate_left
                · simp only [Act.put, List.setIfInBounds_toArray, List.set_cons_zero, List.set_cons_succ, i64_w, i32_w]
                  rfl
                refine done_ (done_of HT_.out (by kernel_rfl)) ?_
                try go_wp2
                go_roundg k1
                case measure => have := HK1.out; omega
                case rel => exact ⟨(x0_1.extract 1 x0_1.size), (x5_1), (x140000_1), (x140001_1), (x142000_1), (t147), (t148), (by first | rfl | (simp; done) | (simp [*]; done)), H', ⟨by have := HK1.out; omega⟩, ⟨by (with_reducible repeat (first | apply Kd.R_alloc | apply Kd.R_drewN | apply Kd.R_drew)); exact Kd.R_mono (Kd.R_far (p := ⟨gb145, 1, none⟩) (Kd.R_far (p := ⟨gb145, 0, none⟩) (Kd.R_types HO_5.out BK145.out (by decide)) (fun _ hk => hk.2) (.int .i64 t147)) (fun _ hk => hk.2) (.int .i64 t148)) (fun _ hk => trivial)⟩, ⟨by (with_reducible repeat (first | refine blk_drewN ?_ _ | refine blk_drew ?_ | refine blk_alloc ?_ _)); refine blk_far ?_ NB139_145.out _; (with_reducible repeat (first | refine blk_drewN ?_ _ | refine blk_drew ?_ | refine blk_alloc ?_ _)); refine blk_far ?_ NB139_145.out _; (with_reducible repeat (first | refine blk_drewN ?_ _ | refine blk_drew ?_ | refine blk_alloc ?_ _)); exact BK139.out⟩, ⟨by (with_reducible repeat (first | refine blk_drewN ?_ _ | refine blk_drew ?_ | refine blk_alloc ?_ _)); refine blk_far ?_ NB144_145.out _; (with_reducible repeat (first | refine blk_drewN ?_ _ | refine blk_drew ?_ | refine blk_alloc ?_ _)); refine blk_far ?_ NB144_145.out _; (with_reducible repeat (first | refine blk_drewN ?_ _ | refine blk_drew ?_ | refine blk_alloc ?_ _)); exact BK144.out⟩, ⟨by (with_reducible repeat (first | refine blk_drewN ?_ _ | refine blk_drew ?_ | refine blk_alloc ?_ _)); refine blk_put (cs := #[.int .i64 t147, .int .i64 x146001_1]) ?_ 1 _ rfl; (with_reducible repeat (first | refine blk_drewN ?_ _ | refine blk_drew ?_ | refine blk_alloc ?_ _)); refine blk_put (cs := #[.int .i64 x146000_1, .int .i64 x146001_1]) ?_ 0 _ rfl; (with_reducible repeat (first | refine blk_drewN ?_ _ | refine blk_drew ?_ | refine blk_alloc ?_ _)); exact BK145.out⟩, ⟨by repeat (first | (with_reducible first | exact HI141.out | apply IsS48.alloc | apply IsS48.drewN | apply IsS48.drew | apply IsS48.set_0 | refine IsS48.far ?_ NB141_139.out _ | refine IsS48.far ?_ NB141_144.out _ | refine IsS48.far ?_ NB141_145.out _) | exact HI141.out)⟩, ⟨by repeat (first | (with_reducible first | exact HB.out | apply below_alloc | apply pw_below_drewN | apply below_drew1 | refine below_set ?_ (IsS48.ge HI141.out) | refine below_set ?_ GE139.out | refine below_set ?_ GE144.out | refine below_set ?_ GE145.out) | exact HB.out)⟩⟩
              · rw [if_neg c26] at H
                exact absurd H (by simp)
            · rw [if_neg c25] at H
              exact absurd H (by simp)
          · rw [if_neg c24] at H
            have c24b0 : decide (0 ≤ t146) = false := decide_eq_false c24
            clear c24
            replace H := Option.bind_eq_some_iff.mp H
            obtain ⟨⟨t149, t150, t151, t152, t153, t154, t155⟩, A330, H⟩ := H
            replace H : (if t154 = 0 then (if x5_1.length < 3518437208883 then (if 0 ≤ t153 then (if t153 ≤ (x0_1.size : Int) then ((lex_on.f x146000_1 x146001_1 (x0_1.extract 0 (t153 : Int).toNat)).bind fun bt160 => (lex_Lex.l0 k1 (x0_1.extract (t153 : Int).toNat x0_1.size) (x5_1 ++ [(⟨t149, t150, (⟨x146000_1, x146001_1⟩ : S32)⟩ : S36)]) t155 bt160.1 bt160.2)) else (none)) else (none)) else (none)) else (some (([] : List (S36)), t154, x146000_1, x146001_1))) = some (r1, r2, r3, r4) := H
            have A33 := Aside0.mk A330
            clear A330
            by_cases c34 : t154 = 0
            · rw [if_pos c34] at H
              have c34b0 : (t154 == 0) = true := beq_iff_eq.mpr c34
              have c34b1 : (t154 != 0) = false := bne_eq_false_iff_eq.mpr c34
              clear c34
              by_cases c35 : x5_1.length < 3518437208883
              · rw [if_pos c35] at H
                have LMc35 := Aside0.mk c35
                clear c35
                obtain ⟨y157, hy157⟩ : ∃ y_ : List (S36), y_ = (x5_1 ++ [(⟨t149, t150, (⟨x146000_1, x146001_1⟩ : S32)⟩ : S36)]) := ⟨_, rfl⟩
                replace H : (if 0 ≤ t153 then (if t153 ≤ (x0_1.size : Int) then ((lex_on.f x146000_1 x146001_1 (x0_1.extract 0 (t153 : Int).toNat)).bind fun bt160 => (lex_Lex.l0 k1 (x0_1.extract (t153 : Int).toNat x0_1.size) y157 t155 bt160.1 bt160.2)) else (none)) else (none)) = some (r1, r2, r3, r4) := by first | (rw [hy157]; with_reducible exact H) | (have H2_ := (Option.bind_some _ _).symm.trans H; rw [hy157]; with_reducible exact H2_) | (have H2_ := (Option.bind_some _ _).symm.trans H; with_reducible exact H2_) | with_reducible exact H | (rw [hy157]; exact H) | exact H
                have Ny157 := Aside0.mk hy157
                clear hy157
                by_cases c36 : 0 ≤ t153
                · rw [if_pos c36] at H
                  have c36b0 := eq_true c36
                  have c36b1 : decide (0 ≤ t153) = true := decide_eq_true c36
                  clear c36
                  by_cases c37 : t153 ≤ (x0_1.size : Int)
                  · rw [if_pos c37] at H
                    have c37b0 := eq_true c37
                    have c37b1 : decide (t153 ≤ (x0_1.size : Int)) = true := decide_eq_true c37
                    clear c37
                    replace H := Option.bind_eq_some_iff.mp H
                    obtain ⟨⟨t160, t161⟩, A380, H⟩ := H
                    replace H : (lex_Lex.l0 k1 (x0_1.extract (t153 : Int).toNat x0_1.size) y157 t155 t160 t161) = some (r1, r2, r3, r4) := H
                    have A38 := Aside0.mk A380
                    clear A380
                    have c39b0 := eq_true (of_decide_eq_true (by first | (with_reducible assumption) | assumption) : 0 ≤ t153)
                    have c40b0 := eq_true (of_decide_eq_true (by first | (with_reducible assumption) | assumption) : t153 ≤ (x0_1.size : Int))
                    have H' := Aside0.mk H
                    clear H
                    have p22 : 0 ≤ (0 : Int) := (by omega)
                    have q22 : 0 < x0_1.size := (by have : (0 : Int) < (x0_1.size : Int) := of_decide_eq_true (by first | (with_reducible assumption) | assumption); omega)
                    have hx22 : ∀ h : 0 < x0_1.size, ((x0_1[0]'h).toNat : Int) = bt x0_1 0 := bt_at x0_1 0
                    clear p22
                    have qi22 : (0 < (x0_1.size : Int)) = True := eq_true (of_decide_eq_true (by first | (with_reducible assumption) | assumption))
                    replace q22 := eq_true q22
                    try go_wp2_with (first | ((with_reducible refine gate_callee (f := 18) rfl ?_); refine goesL_ (some 19) rfl rfl Tryd.func18 (by kernel_rfl) rfl #[.string (⟨#[32, 9, 10, 13]⟩ : ByteArray), .int .u8 (bt x0_1 0)] rfl (by (try simp only [List.map_toArray, List.map_cons, List.map_nil]); first | done | rfl | (simp only [List.length_drop, List.length_take]; rfl) | (refine congrArg (fun z_ => #[z_]) (congrArg (Value.int IntKind.u64) (Eq.symm (Go.Proofs.YtjfklfmfeghjnacDoorAid.wrap_len _ (by omega)))))) ?_; (with_reducible refine (strings_IndexByte.calls (⟨#[32, 9, 10, 13]⟩ : ByteArray) (bt x0_1 0) t146 _ A23.out).mono ?_); rintro e w' ⟨rfl, ⟨nd, rfl⟩⟩; refine ⟨_, rfl, ?_⟩; (try (rw [drewN_self wr]; generalize hq_ : World.drewN wr _ = wr; have n0_ : Aside0 (Kd.R k36 36 wr w.heap.size (fun _ => True) u5 x5_1) := ⟨by rw [← hq_]; exact (by (with_reducible repeat (first | apply Kd.R_alloc | apply Kd.R_drewN | apply Kd.R_drew)); exact HO_5.out)⟩; have n1_ : Aside0 (wr.heap[gb139]? = some (.cells #[.int .i64 x140000_1, .int .i64 x140001_1] 32 (0, 0))) := ⟨by rw [← hq_]; exact (by (with_reducible repeat (first | refine blk_drewN ?_ _ | refine blk_drew ?_ | refine blk_alloc ?_ _)); exact BK139.out)⟩; have n2_ : Aside0 (wr.heap[gb144]? = some (.cells #[Value.func (Fn.func 26) #[] #[], Value.func (Fn.func 41) #[] #[Value.pointer (some ⟨g141, 0, none⟩)], Value.func (Fn.func 41) #[] #[Value.pointer (some ⟨g141 + 1, 0, none⟩)], Value.func (Fn.func 41) #[] #[Value.pointer (some ⟨g141 + 2, 0, none⟩)], Value.func (Fn.func 41) #[] #[Value.pointer (some ⟨g141 + 3, 0, none⟩)], Value.func (Fn.func 28) #[] #[], Value.func (Fn.func 10) #[] #[]] 49 (0, 0))) := ⟨by rw [← hq_]; exact (by (with_reducible repeat (first | refine blk_drewN ?_ _ | refine blk_drew ?_ | refine blk_alloc ?_ _)); exact BK144.out)⟩; have n3_ : Aside0 (wr.heap[gb145]? = some (.cells #[.int .i64 x146000_1, .int .i64 x146001_1] 32 (0, 0))) := ⟨by rw [← hq_]; exact (by (with_reducible repeat (first | refine blk_drewN ?_ _ | refine blk_drew ?_ | refine blk_alloc ?_ _)); exact BK145.out)⟩; have n4_ : Aside0 (IsS48 w wr g141 x142000_1) := ⟨by rw [← hq_]; exact (by repeat (first | (with_reducible first | exact HI141.out | apply IsS48.alloc | apply IsS48.drewN | apply IsS48.drew | apply IsS48.set_0 | refine IsS48.far ?_ NB141_139.out _ | refine IsS48.far ?_ NB141_144.out _ | refine IsS48.far ?_ NB141_145.out _) | exact HI141.out))⟩; have n5_ : Aside0 (Below w.heap.size w wr) := ⟨by rw [← hq_]; exact (by repeat (first | (with_reducible first | exact HB.out | apply below_alloc | apply pw_below_drewN | apply below_drew1 | refine below_set ?_ (IsS48.ge HI141.out) | refine below_set ?_ GE139.out | refine below_set ?_ GE144.out | refine below_set ?_ GE145.out) | exact HB.out))⟩; clear HO_5 BK139 BK144 BK145 HI141 HB hq_; have HO_5 := n0_; have BK139 := n1_; have BK144 := n2_; have BK145 := n3_; have HI141 := n4_; have HB := n5_; clear n0_ n1_ n2_ n3_ n4_ n5_)); (try (have hczU139_0 : wr.cell? ⟨gb139, 0, none⟩ = some (.int .i64 x140000_1) := (blk_cell BK139.out 0).trans rfl)); (try (have hczU139_1 : wr.cell? ⟨gb139, 1, none⟩ = some (.int .i64 x140001_1) := (blk_cell BK139.out 1).trans rfl)); (try (have hczU144_0 : wr.cell? ⟨gb144, 0, none⟩ = some (.int .i64 0) := (blk_cell BK144.out 0).trans rfl)); (try (have hczU145_0 : wr.cell? ⟨gb145, 0, none⟩ = some (.int .i64 x146000_1) := (blk_cell BK145.out 0).trans rfl)); (try (have hczU145_1 : wr.cell? ⟨gb145, 1, none⟩ = some (.int .i64 x146001_1) := (blk_cell BK145.out 1).trans rfl)); have hnb41 := NB144_139.out; have hnc41 := NB139_144.out; have hnb42 := NB144_145.out; have hnc42 := NB145_144.out; have hnb43 := NB144_141.out; have hnc43 := NB141_144.out; have hcz44_0 : wr.cell? ⟨gb144, 0, none⟩ = some (Value.func (Fn.func 26) #[] #[]) := (blk_cell BK144.out 0).trans rfl; have hcz44_1 : wr.cell? ⟨gb144, 1, none⟩ = some (Value.func (Fn.func 41) #[] #[Value.pointer (some ⟨g141, 0, none⟩)]) := (blk_cell BK144.out 1).trans rfl; have hcz44_2 : wr.cell? ⟨gb144, 2, none⟩ = some (Value.func (Fn.func 41) #[] #[Value.pointer (some ⟨g141 + 1, 0, none⟩)]) := (blk_cell BK144.out 2).trans rfl; have hcz44_3 : wr.cell? ⟨gb144, 3, none⟩ = some (Value.func (Fn.func 41) #[] #[Value.pointer (some ⟨g141 + 2, 0, none⟩)]) := (blk_cell BK144.out 3).trans rfl; have hcz44_4 : wr.cell? ⟨gb144, 4, none⟩ = some (Value.func (Fn.func 41) #[] #[Value.pointer (some ⟨g141 + 3, 0, none⟩)]) := (blk_cell BK144.out 4).trans rfl; have hcz44_5 : wr.cell? ⟨gb144, 5, none⟩ = some (Value.func (Fn.func 28) #[] #[]) := (blk_cell BK144.out 5).trans rfl; have hcz44_6 : wr.cell? ⟨gb144, 6, none⟩ = some (Value.func (Fn.func 10) #[] #[]) := (blk_cell BK144.out 6).trans rfl; have hfz44_0 := blk_frozen BK144.out 0; have hfz44_1 := blk_frozen BK144.out 1; have hfz44_2 := blk_frozen BK144.out 2; have hfz44_3 := blk_frozen BK144.out 3; have hfz44_4 := blk_frozen BK144.out 4; have hfz44_5 := blk_frozen BK144.out 5; have hfz44_6 := blk_frozen BK144.out 6) | ((with_reducible refine gate_callee (f := 20) rfl ?_); refine goesL_ (some 30) rfl rfl Tryd.func20 (by kernel_rfl) rfl #[.agg #[Value.func (Fn.func 26) #[] #[], Value.func (Fn.func 41) #[] #[Value.pointer (some ⟨g141, 0, none⟩)], Value.func (Fn.func 41) #[] #[Value.pointer (some ⟨g141 + 1, 0, none⟩)], Value.func (Fn.func 41) #[] #[Value.pointer (some ⟨g141 + 2, 0, none⟩)], Value.func (Fn.func 41) #[] #[Value.pointer (some ⟨g141 + 3, 0, none⟩)], Value.func (Fn.func 28) #[] #[], Value.func (Fn.func 10) #[] #[]], .string x0_1] rfl (by (try simp only [List.map_toArray, List.map_cons, List.map_nil]); first | done | rfl | (simp only [List.length_drop, List.length_take]; rfl) | (refine congrArg (fun z_ => #[z_]) (congrArg (Value.int IntKind.u64) (Eq.symm (Go.Proofs.YtjfklfmfeghjnacDoorAid.wrap_len _ (by omega)))))) ?_; (with_reducible refine (lex_first.calls k1 g141 x142000_1 x0_1 t149 t150 t151 t152 t153 t154 t155 w _ ?side1 ?side2 A33.out).mono ?_); (case side1 => repeat (first | (with_reducible first | exact HI141.out | apply IsS48.alloc | apply IsS48.drewN | apply IsS48.drew | apply IsS48.set_0 | refine IsS48.far ?_ NB141_139.out _ | refine IsS48.far ?_ NB141_144.out _ | refine IsS48.far ?_ NB141_145.out _) | exact HI141.out)); (case side2 => repeat (first | (with_reducible first | exact HB.out | apply below_alloc | apply pw_below_drewN | apply below_drew1 | refine below_set ?_ (IsS48.ge HI141.out) | refine below_set ?_ GE139.out | refine below_set ?_ GE144.out | refine below_set ?_ GE145.out) | exact HB.out)); rintro e w45 ⟨rfl, hi, hb, hk⟩; refine ⟨_, rfl, ?_⟩; have n0_ := Aside0.mk (Kd.R_mono (Kd.R_keep (IsS48.apart (show IsS48 w _ g141 x142000_1 from by repeat (first | (with_reducible first | exact HI141.out | apply IsS48.alloc | apply IsS48.drewN | apply IsS48.drew | apply IsS48.set_0 | refine IsS48.far ?_ NB141_139.out _ | refine IsS48.far ?_ NB141_144.out _ | refine IsS48.far ?_ NB141_145.out _) | exact HI141.out)) (by (with_reducible repeat (first | apply Kd.R_alloc | apply Kd.R_drewN | apply Kd.R_drew)); exact HO_5.out) (by decide)) hk (fun _ h => h.2)) (fun _ h => h.1)); have n1_ := Aside0.mk (KeepBut.blk hk (g' := gb139) (o := .cells #[.int .i64 x140000_1, .int .i64 x140001_1] 32 (0, 0)) (by (with_reducible repeat (first | refine blk_drewN ?_ _ | refine blk_drew ?_ | refine blk_alloc ?_ _)); exact BK139.out) NB139_141.out (by simp)); have n2_ := Aside0.mk (KeepBut.blk hk (g' := gb144) (o := .cells #[Value.func (Fn.func 26) #[] #[], Value.func (Fn.func 41) #[] #[Value.pointer (some ⟨g141, 0, none⟩)], Value.func (Fn.func 41) #[] #[Value.pointer (some ⟨g141 + 1, 0, none⟩)], Value.func (Fn.func 41) #[] #[Value.pointer (some ⟨g141 + 2, 0, none⟩)], Value.func (Fn.func 41) #[] #[Value.pointer (some ⟨g141 + 3, 0, none⟩)], Value.func (Fn.func 28) #[] #[], Value.func (Fn.func 10) #[] #[]] 49 (0, 0)) (by (with_reducible repeat (first | refine blk_drewN ?_ _ | refine blk_drew ?_ | refine blk_alloc ?_ _)); exact BK144.out) NB144_141.out (by simp)); have n3_ := Aside0.mk (KeepBut.blk hk (g' := gb145) (o := .cells #[.int .i64 x146000_1, .int .i64 x146001_1] 32 (0, 0)) (by (with_reducible repeat (first | refine blk_drewN ?_ _ | refine blk_drew ?_ | refine blk_alloc ?_ _)); exact BK145.out) NB145_141.out (by simp)); have n4_ := Aside0.mk (hb); have n5_ := Aside0.mk (hi); clear HO_5; clear BK139; clear BK144; clear BK145; clear HB; clear HI141; have HO_5 := n0_; have BK139 := n1_; have BK144 := n2_; have BK145 := n3_; have HB := n4_; have HI141 := n5_; clear n0_ n1_ n2_ n3_ n4_ n5_; (try clear hb); (try clear hb2); (try clear hk); (try clear hi)) | ((with_reducible refine gate_dst (N := 9) rfl ?_); refine box_event ?hg (N := 9) ?hd (cs := #[.int .i64 0, .string (⟨#[]⟩ : ByteArray), .int .i64 0, .int .i64 0]) (t := 36) ?hr ?_; (case hd => rfl); (case hg => rfl); (case hr => first | (go_simp; done) | (go_simp; rfl)); intro gb156 hg w46 hbox hb; have n0_ := Aside0.mk (Kd.R_below (Kd.R_elderB (by (with_reducible repeat (first | apply Kd.R_alloc | apply Kd.R_drewN | apply Kd.R_drew)); exact HO_5.out) gb156 (Nat.le_of_eq hg.symm)) hb); have n1_ := Aside0.mk (blk_below (g := gb139) (o := .cells #[.int .i64 x140000_1, .int .i64 x140001_1] 32 (0, 0)) (by (with_reducible repeat (first | refine blk_drewN ?_ _ | refine blk_drew ?_ | refine blk_alloc ?_ _)); exact BK139.out) hb); have n2_ := Aside0.mk (blk_below (g := gb144) (o := .cells #[Value.func (Fn.func 26) #[] #[], Value.func (Fn.func 41) #[] #[Value.pointer (some ⟨g141, 0, none⟩)], Value.func (Fn.func 41) #[] #[Value.pointer (some ⟨g141 + 1, 0, none⟩)], Value.func (Fn.func 41) #[] #[Value.pointer (some ⟨g141 + 2, 0, none⟩)], Value.func (Fn.func 41) #[] #[Value.pointer (some ⟨g141 + 3, 0, none⟩)], Value.func (Fn.func 28) #[] #[], Value.func (Fn.func 10) #[] #[]] 49 (0, 0)) (by (with_reducible repeat (first | refine blk_drewN ?_ _ | refine blk_drew ?_ | refine blk_alloc ?_ _)); exact BK144.out) hb); have n3_ := Aside0.mk (blk_below (g := gb145) (o := .cells #[.int .i64 x146000_1, .int .i64 x146001_1] 32 (0, 0)) (by (with_reducible repeat (first | refine blk_drewN ?_ _ | refine blk_drew ?_ | refine blk_alloc ?_ _)); exact BK145.out) hb); have n4_ := Aside0.mk (IsS48.below (by repeat (first | (with_reducible first | exact HI141.out | apply IsS48.alloc | apply IsS48.drewN | apply IsS48.drew | apply IsS48.set_0 | refine IsS48.far ?_ NB141_139.out _ | refine IsS48.far ?_ NB141_144.out _ | refine IsS48.far ?_ NB141_145.out _) | exact HI141.out)) hb); have n5_ := Aside0.mk (below_step (by repeat (first | (with_reducible first | exact HB.out | apply below_alloc | apply pw_below_drewN | apply below_drew1 | refine below_set ?_ (IsS48.ge HI141.out) | refine below_set ?_ GE139.out | refine below_set ?_ GE144.out | refine below_set ?_ GE145.out) | exact HB.out)) hb); have n6_ := Aside0.mk (hbox); have n7_ := Aside0.mk ((by rw [hg]; exact (below_size (by repeat (first | (with_reducible first | exact HB.out | apply below_alloc | apply pw_below_drewN | apply below_drew1 | refine below_set ?_ (IsS48.ge HI141.out) | refine below_set ?_ GE139.out | refine below_set ?_ GE144.out | refine below_set ?_ GE145.out) | exact HB.out))) : w.heap.size ≤ gb156)); have n8_ := Aside0.mk ((by rw [hg]; exact (below_size (by repeat (first | (with_reducible first | exact HB.out | apply below_alloc | apply pw_below_drewN | apply below_drew1 | refine below_set ?_ (IsS48.ge HI141.out) | refine below_set ?_ GE139.out | refine below_set ?_ GE144.out | refine below_set ?_ GE145.out) | exact HB.out))) : w.heap.size ≤ gb156)); have n9_ := Aside0.mk ((by rw [hg]; exact Nat.ne_of_lt (blk_lt (g := gb139) (o := .cells #[.int .i64 x140000_1, .int .i64 x140001_1] 32 (0, 0)) (by (with_reducible repeat (first | refine blk_drewN ?_ _ | refine blk_drew ?_ | refine blk_alloc ?_ _)); exact BK139.out)) : gb139 ≠ gb156)); have n10_ := Aside0.mk ((by rw [hg]; exact Nat.ne_of_gt (blk_lt (g := gb139) (o := .cells #[.int .i64 x140000_1, .int .i64 x140001_1] 32 (0, 0)) (by (with_reducible repeat (first | refine blk_drewN ?_ _ | refine blk_drew ?_ | refine blk_alloc ?_ _)); exact BK139.out)) : gb156 ≠ gb139)); have n11_ := Aside0.mk ((by rw [hg]; exact Nat.ne_of_lt (blk_lt (g := gb144) (o := .cells #[Value.func (Fn.func 26) #[] #[], Value.func (Fn.func 41) #[] #[Value.pointer (some ⟨g141, 0, none⟩)], Value.func (Fn.func 41) #[] #[Value.pointer (some ⟨g141 + 1, 0, none⟩)], Value.func (Fn.func 41) #[] #[Value.pointer (some ⟨g141 + 2, 0, none⟩)], Value.func (Fn.func 41) #[] #[Value.pointer (some ⟨g141 + 3, 0, none⟩)], Value.func (Fn.func 28) #[] #[], Value.func (Fn.func 10) #[] #[]] 49 (0, 0)) (by (with_reducible repeat (first | refine blk_drewN ?_ _ | refine blk_drew ?_ | refine blk_alloc ?_ _)); exact BK144.out)) : gb144 ≠ gb156)); have n12_ := Aside0.mk ((by rw [hg]; exact Nat.ne_of_gt (blk_lt (g := gb144) (o := .cells #[Value.func (Fn.func 26) #[] #[], Value.func (Fn.func 41) #[] #[Value.pointer (some ⟨g141, 0, none⟩)], Value.func (Fn.func 41) #[] #[Value.pointer (some ⟨g141 + 1, 0, none⟩)], Value.func (Fn.func 41) #[] #[Value.pointer (some ⟨g141 + 2, 0, none⟩)], Value.func (Fn.func 41) #[] #[Value.pointer (some ⟨g141 + 3, 0, none⟩)], Value.func (Fn.func 28) #[] #[], Value.func (Fn.func 10) #[] #[]] 49 (0, 0)) (by (with_reducible repeat (first | refine blk_drewN ?_ _ | refine blk_drew ?_ | refine blk_alloc ?_ _)); exact BK144.out)) : gb156 ≠ gb144)); have n13_ := Aside0.mk ((by rw [hg]; exact Nat.ne_of_lt (blk_lt (g := gb145) (o := .cells #[.int .i64 x146000_1, .int .i64 x146001_1] 32 (0, 0)) (by (with_reducible repeat (first | refine blk_drewN ?_ _ | refine blk_drew ?_ | refine blk_alloc ?_ _)); exact BK145.out)) : gb145 ≠ gb156)); have n14_ := Aside0.mk ((by rw [hg]; exact Nat.ne_of_gt (blk_lt (g := gb145) (o := .cells #[.int .i64 x146000_1, .int .i64 x146001_1] 32 (0, 0)) (by (with_reducible repeat (first | refine blk_drewN ?_ _ | refine blk_drew ?_ | refine blk_alloc ?_ _)); exact BK145.out)) : gb156 ≠ gb145)); have n15_ := Aside0.mk ((by rw [hg]; exact Ne4.of_lt (IsS48.lt4 (show IsS48 w _ g141 t155 from by repeat (first | (with_reducible first | exact HI141.out | apply IsS48.alloc | apply IsS48.drewN | apply IsS48.drew | apply IsS48.set_0 | refine IsS48.far ?_ NB141_139.out _ | refine IsS48.far ?_ NB141_144.out _ | refine IsS48.far ?_ NB141_145.out _) | exact HI141.out))) : Ne4 g141 gb156)); have n16_ := Aside0.mk ((by rw [hg]; exact Nat.ne_of_gt (IsS48.lt (show IsS48 w _ g141 t155 from by repeat (first | (with_reducible first | exact HI141.out | apply IsS48.alloc | apply IsS48.drewN | apply IsS48.drew | apply IsS48.set_0 | refine IsS48.far ?_ NB141_139.out _ | refine IsS48.far ?_ NB141_144.out _ | refine IsS48.far ?_ NB141_145.out _) | exact HI141.out))) : gb156 ≠ g141)); clear HO_5; clear BK139; clear BK144; clear BK145; clear HI141; clear HB; have HO_5 := n0_; have BK139 := n1_; have BK144 := n2_; have BK145 := n3_; have HI141 := n4_; have HB := n5_; have BK156 := n6_; have GW156 := n7_; have GE156 := n8_; have NB139_156 := n9_; have NB156_139 := n10_; have NB144_156 := n11_; have NB156_144 := n12_; have NB145_156 := n13_; have NB156_145 := n14_; have NB141_156 := n15_; have NB156_141 := n16_; clear n0_ n1_ n2_ n3_ n4_ n5_ n6_ n7_ n8_ n9_ n10_ n11_ n12_ n13_ n14_ n15_ n16_; clear hb hbox hg; have hnb47 := NB156_139.out; have hnc47 := NB139_156.out; have hnb48 := NB156_144.out; have hnc48 := NB144_156.out; have hnb49 := NB156_145.out; have hnc49 := NB145_156.out; have hnb50 := NB156_141.out; have hnc50 := NB141_156.out; have hcz51_0 : w46.cell? ⟨gb156, 0, none⟩ = some (.int .i64 0) := (blk_cell BK156.out 0).trans rfl; have hcz51_1 : w46.cell? ⟨gb156, 1, none⟩ = some (.string (⟨#[]⟩ : ByteArray)) := (blk_cell BK156.out 1).trans rfl; have hcz51_2 : w46.cell? ⟨gb156, 2, none⟩ = some (.int .i64 0) := (blk_cell BK156.out 2).trans rfl; have hcz51_3 : w46.cell? ⟨gb156, 3, none⟩ = some (.int .i64 0) := (blk_cell BK156.out 3).trans rfl; have hfz51_0 := blk_frozen BK156.out 0; have hfz51_1 := blk_frozen BK156.out 1; have hfz51_2 := blk_frozen BK156.out 2; have hfz51_3 := blk_frozen BK156.out 3; have hnb52 := NB145_139.out; have hnc52 := NB139_145.out; have hnb53 := NB145_141.out; have hnc53 := NB141_145.out; have hcz54_0 : w46.cell? ⟨gb145, 0, none⟩ = some (.int .i64 x146000_1) := (blk_cell BK145.out 0).trans rfl; have hcz54_1 : w46.cell? ⟨gb145, 1, none⟩ = some (.int .i64 x146001_1) := (blk_cell BK145.out 1).trans rfl; have hfz54_0 := blk_frozen BK145.out 0; have hfz54_1 := blk_frozen BK145.out 1))
                    have n0_ : Aside0 (Kd.R k36 36 ((((((w46.setCell ⟨gb156, 0, none⟩ (.int .i64 t149)).setCell ⟨gb156, 1, none⟩ (.string t150)).setCell ⟨gb156, 2, none⟩ (.int .i64 t151)).setCell ⟨gb156, 3, none⟩ (.int .i64 t152)).setCell ⟨gb156, 2, none⟩ (.int .i64 x146000_1)).setCell ⟨gb156, 3, none⟩ (.int .i64 x146001_1)) w.heap.size (fun k_ => k_ ≠ gb156) u5 x5_1) := ⟨by (with_reducible repeat (first | apply Kd.R_alloc | apply Kd.R_drewN | apply Kd.R_drew)); exact Kd.R_mono (Kd.R_far (p := ⟨gb156, 3, none⟩) (Kd.R_far (p := ⟨gb156, 2, none⟩) (Kd.R_far (p := ⟨gb156, 3, none⟩) (Kd.R_far (p := ⟨gb156, 2, none⟩) (Kd.R_far (p := ⟨gb156, 1, none⟩) (Kd.R_far (p := ⟨gb156, 0, none⟩) (Kd.R_mono HO_5.out (fun k_ hk => (⟨hk, hk.2⟩ : _ ∧ k_ ≠ gb156))) (fun _ hk => hk.2) (.int .i64 t149)) (fun _ hk => hk.2) (.string t150)) (fun _ hk => hk.2) (.int .i64 t151)) (fun _ hk => hk.2) (.int .i64 t152)) (fun _ hk => hk.2) (.int .i64 x146000_1)) (fun _ hk => hk.2) (.int .i64 x146001_1)) (fun _ hk => hk.1.2)⟩
                    have n1_ : Aside0 (((((((w46.setCell ⟨gb156, 0, none⟩ (.int .i64 t149)).setCell ⟨gb156, 1, none⟩ (.string t150)).setCell ⟨gb156, 2, none⟩ (.int .i64 t151)).setCell ⟨gb156, 3, none⟩ (.int .i64 t152)).setCell ⟨gb156, 2, none⟩ (.int .i64 x146000_1)).setCell ⟨gb156, 3, none⟩ (.int .i64 x146001_1)).heap[gb139]? = some (.cells #[.int .i64 x140000_1, .int .i64 x140001_1] 32 (0, 0))) := ⟨by (with_reducible repeat (first | refine blk_drewN ?_ _ | refine blk_drew ?_ | refine blk_alloc ?_ _)); refine blk_far ?_ NB139_156.out _; (with_reducible repeat (first | refine blk_drewN ?_ _ | refine blk_drew ?_ | refine blk_alloc ?_ _)); refine blk_far ?_ NB139_156.out _; (with_reducible repeat (first | refine blk_drewN ?_ _ | refine blk_drew ?_ | refine blk_alloc ?_ _)); refine blk_far ?_ NB139_156.out _; (with_reducible repeat (first | refine blk_drewN ?_ _ | refine blk_drew ?_ | refine blk_alloc ?_ _)); refine blk_far ?_ NB139_156.out _; (with_reducible repeat (first | refine blk_drewN ?_ _ | refine blk_drew ?_ | refine blk_alloc ?_ _)); refine blk_far ?_ NB139_156.out _; (with_reducible repeat (first | refine blk_drewN ?_ _ | refine blk_drew ?_ | refine blk_alloc ?_ _)); refine blk_far ?_ NB139_156.out _; (with_reducible repeat (first | refine blk_drewN ?_ _ | refine blk_drew ?_ | refine blk_alloc ?_ _)); exact BK139.out⟩
                    have n2_ : Aside0 (((((((w46.setCell ⟨gb156, 0, none⟩ (.int .i64 t149)).setCell ⟨gb156, 1, none⟩ (.string t150)).setCell ⟨gb156, 2, none⟩ (.int .i64 t151)).setCell ⟨gb156, 3, none⟩ (.int .i64 t152)).setCell ⟨gb156, 2, none⟩ (.int .i64 x146000_1)).setCell ⟨gb156, 3, none⟩ (.int .i64 x146001_1)).heap[gb144]? = some (.cells #[Value.func (Fn.func 26) #[] #[], Value.func (Fn.func 41) #[] #[Value.pointer (some ⟨g141, 0, none⟩)], Value.func (Fn.func 41) #[] #[Value.pointer (some ⟨g141 + 1, 0, none⟩)], Value.func (Fn.func 41) #[] #[Value.pointer (some ⟨g141 + 2, 0, none⟩)], Value.func (Fn.func 41) #[] #[Value.pointer (some ⟨g141 + 3, 0, none⟩)], Value.func (Fn.func 28) #[] #[], Value.func (Fn.func 10) #[] #[]] 49 (0, 0))) := ⟨by (with_reducible repeat (first | refine blk_drewN ?_ _ | refine blk_drew ?_ | refine blk_alloc ?_ _)); refine blk_far ?_ NB144_156.out _; (with_reducible repeat (first | refine blk_drewN ?_ _ | refine blk_drew ?_ | refine blk_alloc ?_ _)); refine blk_far ?_ NB144_156.out _; (with_reducible repeat (first | refine blk_drewN ?_ _ | refine blk_drew ?_ | refine blk_alloc ?_ _)); refine blk_far ?_ NB144_156.out _; (with_reducible repeat (first | refine blk_drewN ?_ _ | refine blk_drew ?_ | refine blk_alloc ?_ _)); refine blk_far ?_ NB144_156.out _; (with_reducible repeat (first | refine blk_drewN ?_ _ | refine blk_drew ?_ | refine blk_alloc ?_ _)); refine blk_far ?_ NB144_156.out _; (with_reducible repeat (first | refine blk_drewN ?_ _ | refine blk_drew ?_ | refine blk_alloc ?_ _)); refine blk_far ?_ NB144_156.out _; (with_reducible repeat (first | refine blk_drewN ?_ _ | refine blk_drew ?_ | refine blk_alloc ?_ _)); exact BK144.out⟩
                    have n3_ : Aside0 (((((((w46.setCell ⟨gb156, 0, none⟩ (.int .i64 t149)).setCell ⟨gb156, 1, none⟩ (.string t150)).setCell ⟨gb156, 2, none⟩ (.int .i64 t151)).setCell ⟨gb156, 3, none⟩ (.int .i64 t152)).setCell ⟨gb156, 2, none⟩ (.int .i64 x146000_1)).setCell ⟨gb156, 3, none⟩ (.int .i64 x146001_1)).heap[gb145]? = some (.cells #[.int .i64 x146000_1, .int .i64 x146001_1] 32 (0, 0))) := ⟨by (with_reducible repeat (first | refine blk_drewN ?_ _ | refine blk_drew ?_ | refine blk_alloc ?_ _)); refine blk_far ?_ NB145_156.out _; (with_reducible repeat (first | refine blk_drewN ?_ _ | refine blk_drew ?_ | refine blk_alloc ?_ _)); refine blk_far ?_ NB145_156.out _; (with_reducible repeat (first | refine blk_drewN ?_ _ | refine blk_drew ?_ | refine blk_alloc ?_ _)); refine blk_far ?_ NB145_156.out _; (with_reducible repeat (first | refine blk_drewN ?_ _ | refine blk_drew ?_ | refine blk_alloc ?_ _)); refine blk_far ?_ NB145_156.out _; (with_reducible repeat (first | refine blk_drewN ?_ _ | refine blk_drew ?_ | refine blk_alloc ?_ _)); refine blk_far ?_ NB145_156.out _; (with_reducible repeat (first | refine blk_drewN ?_ _ | refine blk_drew ?_ | refine blk_alloc ?_ _)); refine blk_far ?_ NB145_156.out _; (with_reducible repeat (first | refine blk_drewN ?_ _ | refine blk_drew ?_ | refine blk_alloc ?_ _)); exact BK145.out⟩
                    have n4_ : Aside0 (((((((w46.setCell ⟨gb156, 0, none⟩ (.int .i64 t149)).setCell ⟨gb156, 1, none⟩ (.string t150)).setCell ⟨gb156, 2, none⟩ (.int .i64 t151)).setCell ⟨gb156, 3, none⟩ (.int .i64 t152)).setCell ⟨gb156, 2, none⟩ (.int .i64 x146000_1)).setCell ⟨gb156, 3, none⟩ (.int .i64 x146001_1)).heap[gb156]? = some (.cells #[.int .i64 t149, .string t150, .int .i64 x146000_1, .int .i64 x146001_1] 36 (0, 0))) := ⟨by (with_reducible repeat (first | refine blk_drewN ?_ _ | refine blk_drew ?_ | refine blk_alloc ?_ _)); refine blk_put (cs := #[.int .i64 t149, .string t150, .int .i64 x146000_1, .int .i64 t152]) ?_ 3 _ rfl; (with_reducible repeat (first | refine blk_drewN ?_ _ | refine blk_drew ?_ | refine blk_alloc ?_ _)); refine blk_put (cs := #[.int .i64 t149, .string t150, .int .i64 t151, .int .i64 t152]) ?_ 2 _ rfl; (with_reducible repeat (first | refine blk_drewN ?_ _ | refine blk_drew ?_ | refine blk_alloc ?_ _)); refine blk_put (cs := #[.int .i64 t149, .string t150, .int .i64 t151, .int .i64 0]) ?_ 3 _ rfl; (with_reducible repeat (first | refine blk_drewN ?_ _ | refine blk_drew ?_ | refine blk_alloc ?_ _)); refine blk_put (cs := #[.int .i64 t149, .string t150, .int .i64 0, .int .i64 0]) ?_ 2 _ rfl; (with_reducible repeat (first | refine blk_drewN ?_ _ | refine blk_drew ?_ | refine blk_alloc ?_ _)); refine blk_put (cs := #[.int .i64 t149, .string (⟨#[]⟩ : ByteArray), .int .i64 0, .int .i64 0]) ?_ 1 _ rfl; (with_reducible repeat (first | refine blk_drewN ?_ _ | refine blk_drew ?_ | refine blk_alloc ?_ _)); refine blk_put (cs := #[.int .i64 0, .string (⟨#[]⟩ : ByteArray), .int .i64 0, .int .i64 0]) ?_ 0 _ rfl; (with_reducible repeat (first | refine blk_drewN ?_ _ | refine blk_drew ?_ | refine blk_alloc ?_ _)); exact BK156.out⟩
                    have n5_ : Aside0 (IsS48 w ((((((w46.setCell ⟨gb156, 0, none⟩ (.int .i64 t149)).setCell ⟨gb156, 1, none⟩ (.string t150)).setCell ⟨gb156, 2, none⟩ (.int .i64 t151)).setCell ⟨gb156, 3, none⟩ (.int .i64 t152)).setCell ⟨gb156, 2, none⟩ (.int .i64 x146000_1)).setCell ⟨gb156, 3, none⟩ (.int .i64 x146001_1)) g141 t155) := ⟨by repeat (first | (with_reducible first | exact HI141.out | apply IsS48.alloc | apply IsS48.drewN | apply IsS48.drew | apply IsS48.set_0 | refine IsS48.far ?_ NB141_139.out _ | refine IsS48.far ?_ NB141_144.out _ | refine IsS48.far ?_ NB141_145.out _ | refine IsS48.far ?_ NB141_156.out _) | exact HI141.out)⟩
                    have n6_ : Aside0 (Below w.heap.size w ((((((w46.setCell ⟨gb156, 0, none⟩ (.int .i64 t149)).setCell ⟨gb156, 1, none⟩ (.string t150)).setCell ⟨gb156, 2, none⟩ (.int .i64 t151)).setCell ⟨gb156, 3, none⟩ (.int .i64 t152)).setCell ⟨gb156, 2, none⟩ (.int .i64 x146000_1)).setCell ⟨gb156, 3, none⟩ (.int .i64 x146001_1))) := ⟨by repeat (first | (with_reducible first | exact HB.out | apply below_alloc | apply pw_below_drewN | apply below_drew1 | refine below_set ?_ (IsS48.ge HI141.out) | refine below_set ?_ GE139.out | refine below_set ?_ GE144.out | refine below_set ?_ GE145.out | refine below_set ?_ GE156.out) | exact HB.out)⟩
                    (try clear HO_5)
                    (try clear BK139)
                    (try clear BK144)
                    (try clear BK145)
                    (try clear BK156)
                    (try clear HI141)
                    (try clear HB)
                    generalize ((((((w46.setCell ⟨gb156, 0, none⟩ (.int .i64 t149)).setCell ⟨gb156, 1, none⟩ (.string t150)).setCell ⟨gb156, 2, none⟩ (.int .i64 t151)).setCell ⟨gb156, 3, none⟩ (.int .i64 t152)).setCell ⟨gb156, 2, none⟩ (.int .i64 x146000_1)).setCell ⟨gb156, 3, none⟩ (.int .i64 x146001_1)) = w55 at n0_ n1_ n2_ n3_ n4_ n5_ n6_ ⊢
                    have HO_5 := n0_
                    have BK139 := n1_
                    have BK144 := n2_
                    have BK145 := n3_
                    have BK156 := n4_
                    have HI141 := n5_
                    have HB := n6_
                    clear n0_ n1_ n2_ n3_ n4_ n5_ n6_
                    have n0_ := Aside0.mk (Kd.R_drew HO_5.out)
                    have n1_ := Aside0.mk (blk_drew BK139.out)
                    have n2_ := Aside0.mk (blk_drew BK144.out)
                    have n3_ := Aside0.mk (blk_drew BK145.out)
                    have n4_ := Aside0.mk (blk_drew BK156.out)
                    have n5_ := Aside0.mk (IsS48.drew HI141.out)
                    have n6_ := Aside0.mk (below_drew1 HB.out)
                    clear HO_5
                    clear BK139
                    clear BK144
                    clear BK145
                    clear BK156
                    clear HI141
                    clear HB
                    have HO_5 := n0_
                    have BK139 := n1_
                    have BK144 := n2_
                    have BK145 := n3_
                    have BK156 := n4_
                    have HI141 := n5_
                    have HB := n6_
                    clear n0_ n1_ n2_ n3_ n4_ n5_ n6_
                    refine start_ (n := 15) (S := fun w' => w'.cell? ⟨gb156, 0, none⟩ = some (.int .i64 t149) ∧ w'.cell? ⟨gb156, 1, none⟩ = some (.string t150) ∧ w'.cell? ⟨gb156, 2, none⟩ = some (.int .i64 x146000_1) ∧ w'.cell? ⟨gb156, 3, none⟩ = some (.int .i64 x146001_1) ∧ w'.cell? ⟨gb145, 0, none⟩ = some (.int .i64 x146000_1) ∧ w'.cell? ⟨gb145, 1, none⟩ = some (.int .i64 x146001_1)) (ds := [13]) #[false, false, false, false, false, false, false, false, false, false, false, false, false, false, false] (by kernel_rfl) rfl rfl ⟨(blk_cell BK156.out 0).trans rfl, (blk_cell BK156.out 1).trans rfl, (blk_cell BK156.out 2).trans rfl, (blk_cell BK156.out 3).trans rfl, (blk_cell BK145.out 0).trans rfl, (blk_cell BK145.out 1).trans rfl⟩ (fun hHeld => ?_); refine with_tabW lex_Lex.tab11 lex_Lex.bits11 (fun HT_ HW_ => ?_)
                    generalize w55.drew = w56 at HO_5 BK139 BK144 BK145 BK156 HI141 HB hHeld ⊢
                    refine pure_ (i := 0) (N := some 40) (v := ?_) (a' := ?_) #[true, false, false, false, false, false, false, false, false, false, false, false, false, false, false] rfl rfl (any_of HT_.out (by kernel_rfl)) (fun _ _ _ h => h) (Or.inl ⟨by rfl, ?_⟩) ?_ ?_
                    rotate_left
                    · intro w'
                      go_simp
                      with_reducible rfl
                    rotate_left
                    · simp only [Act.put, List.setIfInBounds_toArray, List.set_cons_zero, List.set_cons_succ, i64_w, i32_w]
                      rfl
                    refine pure_ (i := 5) (N := some 45) (v := ?_) (a' := ?_) #[true, false, false, false, false, true, false, false, false, false, false, false, false, false, false] rfl rfl (any_of HT_.out (by kernel_rfl)) (fun _ _ _ h => h) (Or.inl ⟨by rfl, ?_⟩) ?_ ?_
                    rotate_left
                    · intro w'
                      go_simp
                      with_reducible rfl
                    rotate_left
                    · simp only [Act.put, List.setIfInBounds_toArray, List.set_cons_zero, List.set_cons_succ, i64_w, i32_w]
                      rfl
                    refine pure_ (i := 6) (N := some 46) (v := ?_) (a' := ?_) #[true, false, false, false, false, true, true, false, false, false, false, false, false, false, false] rfl rfl (any_of HT_.out (by kernel_rfl)) (fun _ _ _ h => h) (Or.inl ⟨by rfl, ?_⟩) ?_ ?_
                    rotate_left
                    · intro w'
                      go_simp
                      with_reducible rfl
                    rotate_left
                    · simp only [Act.put, List.setIfInBounds_toArray, List.set_cons_zero, List.set_cons_succ, i64_w, i32_w]
                      rfl
                    refine pure_ (i := 7) (N := some 47) (v := ?_) (a' := ?_) #[true, false, false, false, false, true, true, true, false, false, false, false, false, false, false] rfl rfl (any_of HT_.out (by kernel_rfl)) (fun _ _ _ h => h) (Or.inl ⟨by rfl, ?_⟩) ?_ ?_
                    rotate_left
                    · intro w'
                      go_simp
                      with_reducible rfl
                    rotate_left
                    · simp only [Act.put, List.setIfInBounds_toArray, List.set_cons_zero, List.set_cons_succ, i64_w, i32_w]
                      rfl
                    refine pure_ (i := 9) (N := some 49) (v := ?_) (a' := ?_) #[true, false, false, false, false, true, true, true, false, true, false, false, false, false, false] rfl rfl (any_of HT_.out (by kernel_rfl)) (fun _ _ _ h => h) (Or.inl ⟨by rfl, ?_⟩) ?_ ?_
                    rotate_left
                    · intro w'
                      go_simp
                      with_reducible rfl
                    rotate_left
                    · simp only [Act.put, List.setIfInBounds_toArray, List.set_cons_zero, List.set_cons_succ, i64_w, i32_w]
                      rfl
                    refine pure_ (i := 10) (N := some 50) (v := ?_) (a' := ?_) #[true, false, false, false, false, true, true, true, false, true, true, false, false, false, false] rfl rfl (any_of HT_.out (by kernel_rfl)) (fun _ _ _ h => h) (Or.inl ⟨by rfl, ?_⟩) ?_ ?_
                    rotate_left
                    · intro w'
                      go_simp
                      with_reducible rfl
                    rotate_left
                    · simp only [Act.put, List.setIfInBounds_toArray, List.set_cons_zero, List.set_cons_succ, i64_w, i32_w]
                      rfl
                    refine pure_ (i := 11) (N := some 51) (v := ?_) (a' := ?_) #[true, false, false, false, false, true, true, true, false, true, true, true, false, false, false] rfl rfl (any_of HT_.out (by kernel_rfl)) (fun _ _ _ h => h) (Or.inl ⟨by rfl, ?_⟩) ?_ ?_
                    rotate_left
                    · intro w'
                      go_simp
                      with_reducible rfl
                    rotate_left
                    · simp only [Act.put, List.setIfInBounds_toArray, List.set_cons_zero, List.set_cons_succ, i64_w, i32_w]
                      rfl
                    refine take_ (i := 1) (N := some 41) (v := ?_) (a' := ?_) #[true, true, false, false, false, true, true, true, false, true, true, true, false, false, false] rfl rfl (take_ofW HT_.out HW_.out (by kernel_rfl)) (fun _ _ _ h => h) (Or.inl ⟨by rfl, ?_⟩) hHeld ?_ ?_
                    rotate_left
                    · rintro w' ⟨s0, s1, s2, s3, s4, s5⟩
                      go_simp
                      with_reducible rfl
                    rotate_left
                    · simp only [Act.put, List.setIfInBounds_toArray, List.set_cons_zero, List.set_cons_succ, i64_w, i32_w]
                      rfl
                    refine take_ (i := 4) (N := some 44) (v := ?_) (a' := ?_) #[true, true, false, false, true, true, true, true, false, true, true, true, false, false, false] rfl rfl (take_ofW HT_.out HW_.out (by kernel_rfl)) (fun _ _ _ h => h) (Or.inl ⟨by rfl, ?_⟩) hHeld ?_ ?_
                    rotate_left
                    · rintro w' ⟨s0, s1, s2, s3, s4, s5⟩
                      go_simp
                      with_reducible rfl
                    rotate_left
                    · simp only [Act.put, List.setIfInBounds_toArray, List.set_cons_zero, List.set_cons_succ, i64_w, i32_w]
                      rfl
                    refine one_ (i := 2) (N := some 42) #[true, true, true, false, true, true, true, true, false, true, true, true, false, false, false] rfl rfl (one_of HT_.out (by kernel_rfl)) (by decide) (fun K hK => ?_)
                    refine value_ (w1 := ?_) (v := ?_) (by rfl) rfl ?_ ?_
                    rotate_left 2
                    · go_simp
                      constructor
                      · rfl
                      · rfl
                    refine hK.out _ _ ⟨(blk_cell (blk_alloc BK156.out _) 0).trans rfl, (blk_cell (blk_alloc BK156.out _) 1).trans rfl, (blk_cell (blk_alloc BK156.out _) 2).trans rfl, (blk_cell (blk_alloc BK156.out _) 3).trans rfl, (blk_cell (blk_alloc BK145.out _) 0).trans rfl, (blk_cell (blk_alloc BK145.out _) 1).trans rfl⟩ (fun hHeld => ?_)
                    clear hK K
                    refine norm_ (a' := ?_) ?_ ?_
                    rotate_left
                    · show Act.put _ (some 42) _ = _
                      simp only [Act.put, List.setIfInBounds_toArray, List.set_cons_zero, List.set_cons_succ, i64_w, i32_w]
                      rfl
                    refine one_ (i := 3) (N := some 43) #[true, true, true, true, true, true, true, true, false, true, true, true, false, false, false] rfl rfl (one_of HT_.out (by kernel_rfl)) (by decide) (fun K hK => ?_)
                    refine Kd.R_append_step k36 (w0 := w) w.heap.size (by rfl) (.tmp 40) (.tmp 42) 29 36 (.agg #[(.int .i64 0), (.string ⟨#[]⟩), (.int .i64 0), (.int .i64 0)]) 40 rfl Tryd.underlying29 info36 rfl (by decide) (by omega) u5 x5_1 (⟨t149, t150, (⟨x146000_1, x146001_1⟩ : S32)⟩ : S36) [.int .i64 t149, .string t150, .int .i64 x146000_1, .int .i64 x146001_1] (fun k_ => k_ ≠ gb156) (fun _ => False) rfl rfl ?aP (fun _ hk => hk.elim) ?aF ?aO ?aB ?aS ?aL ?_
                    (case aP => exact k36_mkM _ _ _ (⟨t149, t150, (⟨x146000_1, x146001_1⟩ : S32)⟩ : S36))
                    (case aB => exact (by repeat (first | (with_reducible first | exact HB.out | apply below_alloc | apply pw_below_drewN | apply below_drew1 | refine below_set ?_ (IsS48.ge HI141.out) | refine below_set ?_ GE139.out | refine below_set ?_ GE144.out | refine below_set ?_ GE145.out | refine below_set ?_ GE156.out) | exact HB.out)))
                    (case aF => exact (fun k_ hk => Kd.freshB (g := gb156) (o := .cells #[.int .i64 t149, .string t150, .int .i64 x146000_1, .int .i64 x146001_1] 36 (0, 0)) (by (with_reducible repeat (first | refine blk_drewN ?_ _ | refine blk_drew ?_ | refine blk_alloc ?_ _)); exact BK156.out) k_ hk))
                    (case aO => exact (by (with_reducible repeat (first | apply Kd.R_alloc | apply Kd.R_drewN | apply Kd.R_drew)); exact HO_5.out))
                    (case aS => exact (below_size (by repeat (first | (with_reducible first | exact HB.out | apply below_alloc | apply pw_below_drewN | apply below_drew1 | refine below_set ?_ (IsS48.ge HI141.out) | refine below_set ?_ GE139.out | refine below_set ?_ GE144.out | refine below_set ?_ GE145.out | refine below_set ?_ GE156.out) | exact HB.out))))
                    (case aL => have := LMc35.out; omega)
                    intro v158 w57 ho hb hg hat
                    rw [← Ny157.out] at ho
                    have n0_ := Aside0.mk (blk_grown (g := gb139) (o := .cells #[.int .i64 x140000_1, .int .i64 x140001_1] 32 (0, 0)) (by (with_reducible repeat (first | refine blk_drewN ?_ _ | refine blk_drew ?_ | refine blk_alloc ?_ _)); exact BK139.out) hg (Kd.R_ne HO_5.out BK139.out (by decide)))
                    have n1_ := Aside0.mk (blk_grown (g := gb144) (o := .cells #[Value.func (Fn.func 26) #[] #[], Value.func (Fn.func 41) #[] #[Value.pointer (some ⟨g141, 0, none⟩)], Value.func (Fn.func 41) #[] #[Value.pointer (some ⟨g141 + 1, 0, none⟩)], Value.func (Fn.func 41) #[] #[Value.pointer (some ⟨g141 + 2, 0, none⟩)], Value.func (Fn.func 41) #[] #[Value.pointer (some ⟨g141 + 3, 0, none⟩)], Value.func (Fn.func 28) #[] #[], Value.func (Fn.func 10) #[] #[]] 49 (0, 0)) (by (with_reducible repeat (first | refine blk_drewN ?_ _ | refine blk_drew ?_ | refine blk_alloc ?_ _)); exact BK144.out) hg (Kd.R_ne HO_5.out BK144.out (by decide)))
                    have n2_ := Aside0.mk (blk_grown (g := gb145) (o := .cells #[.int .i64 x146000_1, .int .i64 x146001_1] 32 (0, 0)) (by (with_reducible repeat (first | refine blk_drewN ?_ _ | refine blk_drew ?_ | refine blk_alloc ?_ _)); exact BK145.out) hg (Kd.R_ne HO_5.out BK145.out (by decide)))
                    have n3_ := Aside0.mk (IsS48.grown (by repeat (first | (with_reducible first | exact HI141.out | apply IsS48.alloc | apply IsS48.drewN | apply IsS48.drew | apply IsS48.set_0 | refine IsS48.far ?_ NB141_139.out _ | refine IsS48.far ?_ NB141_144.out _ | refine IsS48.far ?_ NB141_145.out _ | refine IsS48.far ?_ NB141_156.out _) | exact HI141.out)) hg (IsS48.own_ne HI141.out HO_5.out (by decide)))
                    have n4_ := Aside0.mk (blk_grown (g := gb156) (o := .cells #[.int .i64 t149, .string t150, .int .i64 x146000_1, .int .i64 x146001_1] 36 (0, 0)) (by (with_reducible repeat (first | refine blk_drewN ?_ _ | refine blk_drew ?_ | refine blk_alloc ?_ _)); exact BK156.out) hg (Kd.R_away HO_5.out (fun _ hk => hk)))
                    have n5_ := Aside0.mk (hb)
                    have n6_ := Aside0.mk (ho)
                    clear BK139
                    clear BK144
                    clear BK145
                    clear HI141
                    clear BK156
                    clear HB
                    clear HO_5
                    have BK139 := n0_
                    have BK144 := n1_
                    have BK145 := n2_
                    have HI141 := n3_
                    have BK156 := n4_
                    have HB := n5_
                    have HO159 := n6_
                    clear n0_ n1_ n2_ n3_ n4_ n5_ n6_
                    clear ho hb hg hat
                    refine hK.out _ _ ⟨(blk_cell BK156.out 0).trans rfl, (blk_cell BK156.out 1).trans rfl, (blk_cell BK156.out 2).trans rfl, (blk_cell BK156.out 3).trans rfl, (blk_cell BK145.out 0).trans rfl, (blk_cell BK145.out 1).trans rfl⟩ (fun hHeld => ?_)
                    clear hK K
                    refine norm_ (a' := ?_) ?_ ?_
                    rotate_left
                    · show Act.put _ (some 43) _ = _
                      simp only [Act.put, List.setIfInBounds_toArray, List.set_cons_zero, List.set_cons_succ, i64_w, i32_w]
                      rfl
                    refine one_ (i := 8) (N := some 48) #[true, true, true, true, true, true, true, true, true, true, true, true, false, false, false] rfl rfl (one_of HT_.out (by kernel_rfl)) (by decide) (fun K hK => ?_)
                    refine goes_ Tryd.func19 (by kernel_rfl) rfl #[.agg #[.int .i64 x146000_1, .int .i64 x146001_1], .string (x0_1.extract 0 (t153 : Int).toNat)] (by rfl) rfl rfl (by (try simp only [List.map_toArray, List.map_cons, List.map_nil]); first | done | rfl | (simp only [List.length_drop, List.length_take]; rfl) | (refine congrArg (fun z_ => #[z_]) (congrArg (Value.int IntKind.u64) (Eq.symm (Go.Proofs.YtjfklfmfeghjnacDoorAid.wrap_len _ (by omega)))))) ?_
                    with_reducible refine (lex_on.calls x146000_1 x146001_1 (x0_1.extract 0 (t153 : Int).toNat) t160 t161 _ A38.out).mono ?_
                    rintro e w58 ⟨rfl, hb⟩
                    refine ⟨_, rfl, ?_⟩
                    have n0_ := Aside0.mk (Kd.R_below (by (with_reducible repeat (first | apply Kd.R_alloc | apply Kd.R_drewN | apply Kd.R_drew)); exact HO159.out) hb)
                    have n1_ := Aside0.mk (blk_below (g := gb139) (o := .cells #[.int .i64 x140000_1, .int .i64 x140001_1] 32 (0, 0)) (by (with_reducible repeat (first | refine blk_drewN ?_ _ | refine blk_drew ?_ | refine blk_alloc ?_ _)); exact BK139.out) hb)
                    have n2_ := Aside0.mk (blk_below (g := gb144) (o := .cells #[Value.func (Fn.func 26) #[] #[], Value.func (Fn.func 41) #[] #[Value.pointer (some ⟨g141, 0, none⟩)], Value.func (Fn.func 41) #[] #[Value.pointer (some ⟨g141 + 1, 0, none⟩)], Value.func (Fn.func 41) #[] #[Value.pointer (some ⟨g141 + 2, 0, none⟩)], Value.func (Fn.func 41) #[] #[Value.pointer (some ⟨g141 + 3, 0, none⟩)], Value.func (Fn.func 28) #[] #[], Value.func (Fn.func 10) #[] #[]] 49 (0, 0)) (by (with_reducible repeat (first | refine blk_drewN ?_ _ | refine blk_drew ?_ | refine blk_alloc ?_ _)); exact BK144.out) hb)
                    have n3_ := Aside0.mk (blk_below (g := gb145) (o := .cells #[.int .i64 x146000_1, .int .i64 x146001_1] 32 (0, 0)) (by (with_reducible repeat (first | refine blk_drewN ?_ _ | refine blk_drew ?_ | refine blk_alloc ?_ _)); exact BK145.out) hb)
                    have n4_ := Aside0.mk (IsS48.below (by repeat (first | (with_reducible first | exact HI141.out | apply IsS48.alloc | apply IsS48.drewN | apply IsS48.drew | apply IsS48.set_0 | refine IsS48.far ?_ NB141_139.out _ | refine IsS48.far ?_ NB141_144.out _ | refine IsS48.far ?_ NB141_145.out _ | refine IsS48.far ?_ NB141_156.out _) | exact HI141.out)) hb)
                    have n5_ := Aside0.mk (blk_below (g := gb156) (o := .cells #[.int .i64 t149, .string t150, .int .i64 x146000_1, .int .i64 x146001_1] 36 (0, 0)) (by (with_reducible repeat (first | refine blk_drewN ?_ _ | refine blk_drew ?_ | refine blk_alloc ?_ _)); exact BK156.out) hb)
                    have n6_ := Aside0.mk (below_step (by repeat (first | (with_reducible first | exact HB.out | apply below_alloc | apply pw_below_drewN | apply below_drew1 | refine below_set ?_ (IsS48.ge HI141.out) | refine below_set ?_ GE139.out | refine below_set ?_ GE144.out | refine below_set ?_ GE145.out | refine below_set ?_ GE156.out) | exact HB.out)) hb)
                    clear HO159
                    clear BK139
                    clear BK144
                    clear BK145
                    clear HI141
                    clear BK156
                    clear HB
                    have HO159 := n0_
                    have BK139 := n1_
                    have BK144 := n2_
                    have BK145 := n3_
                    have HI141 := n4_
                    have BK156 := n5_
                    have HB := n6_
                    clear n0_ n1_ n2_ n3_ n4_ n5_ n6_
                    (try clear hb)
                    (try clear hb2)
                    (try clear hk)
                    (try clear hi)
                    refine hK.out _ _ ⟨(blk_cell BK156.out 0).trans rfl, (blk_cell BK156.out 1).trans rfl, (blk_cell BK156.out 2).trans rfl, (blk_cell BK156.out 3).trans rfl, (blk_cell BK145.out 0).trans rfl, (blk_cell BK145.out 1).trans rfl⟩ (fun hHeld => ?_)
                    clear hK K
                    refine norm_ (a' := ?_) ?_ ?_
                    rotate_left
                    · show Act.put _ (some 48) _ = _
                      simp only [Act.put, List.setIfInBounds_toArray, List.set_cons_zero, List.set_cons_succ, i64_w, i32_w]
                      rfl
                    refine pure_ (i := 12) (N := some 5) (v := ?_) (a' := ?_) #[true, true, true, true, true, true, true, true, true, true, true, true, true, false, false] rfl rfl (any_of HT_.out (by kernel_rfl)) (fun _ _ _ h => h) (Or.inl ⟨by rfl, ?_⟩) ?_ ?_
                    rotate_left
                    · intro w'
                      go_simp
                      with_reducible rfl
                    rotate_left
                    · simp only [Act.put, List.setIfInBounds_toArray, List.set_cons_zero, List.set_cons_succ, i64_w, i32_w]
                      rfl
                    refine last_ (i := 13) (N := none) #[true, true, true, true, true, true, true, true, true, true, true, true, true, true, false] rfl rfl (one_of HT_.out (by kernel_rfl)) (by decide) (fun K hK => ?_)
                    have hs59 : w58.cell? ⟨gb145, 0, none⟩ = some (.int .i64 x146000_1) := (blk_cell BK145.out 0).trans rfl
                    have hfs59 := blk_frozen BK145.out 0
                    have hns59_0 := NB139_145.out
                    have hns59_1 := NB144_145.out
                    have hns59_3 := NB156_145.out
                    have hms59_0 := NB145_139.out
                    have hms59_1 := NB145_144.out
                    have hms59_3 := NB145_156.out
                    have hs60 : w58.cell? ⟨gb145, 1, none⟩ = some (.int .i64 x146001_1) := (blk_cell BK145.out 1).trans rfl
                    have hfs60 := blk_frozen BK145.out 1
                    have hns60_0 := NB139_145.out
                    have hns60_1 := NB144_145.out
                    have hns60_3 := NB156_145.out
                    have hms60_0 := NB145_139.out
                    have hms60_1 := NB145_144.out
                    have hms60_3 := NB145_156.out
                    refine skip_ (w1 := ?_) (by rfl) rfl ?_ ?_
                    rotate_left
                    · go_simp
                      rfl
                    refine hK.out _ _ ?_
                    clear hK K
                    refine pure_ (i := 14) (N := some 0) (v := ?_) (a' := ?_) #[true, true, true, true, true, true, true, true, true, true, true, true, true, true, true] rfl rfl (any_of HT_.out (by kernel_rfl)) (fun _ _ _ h => h) (Or.inl ⟨by rfl, ?_⟩) ?_ ?_
                    rotate_left
                    · intro w'
                      go_simp
                      with_reducible rfl
                    rotate_left
                    · simp only [Act.put, List.setIfInBounds_toArray, List.set_cons_zero, List.set_cons_succ, i64_w, i32_w]
                      rfl
                    refine done_ (done_of HT_.out (by kernel_rfl)) ?_
                    try go_wp2
                    go_roundg k1
                    case measure => have := HK1.out; omega
                    case rel => exact ⟨(x0_1.extract (t153 : Int).toNat x0_1.size), (y157), (x140000_1), (x140001_1), (t155), (t160), (t161), (by first | rfl | (simp; done) | (simp [*]; done)), H', ⟨by have := HK1.out; omega⟩, ⟨by (with_reducible repeat (first | apply Kd.R_alloc | apply Kd.R_drewN | apply Kd.R_drew)); exact Kd.R_mono (Kd.R_far (p := ⟨gb145, 1, none⟩) (Kd.R_far (p := ⟨gb145, 0, none⟩) (Kd.R_types HO159.out BK145.out (by decide)) (fun _ hk => hk.2) (.int .i64 t160)) (fun _ hk => hk.2) (.int .i64 t161)) (fun _ hk => trivial)⟩, ⟨by (with_reducible repeat (first | refine blk_drewN ?_ _ | refine blk_drew ?_ | refine blk_alloc ?_ _)); refine blk_far ?_ NB139_145.out _; (with_reducible repeat (first | refine blk_drewN ?_ _ | refine blk_drew ?_ | refine blk_alloc ?_ _)); refine blk_far ?_ NB139_145.out _; (with_reducible repeat (first | refine blk_drewN ?_ _ | refine blk_drew ?_ | refine blk_alloc ?_ _)); exact BK139.out⟩, ⟨by (with_reducible repeat (first | refine blk_drewN ?_ _ | refine blk_drew ?_ | refine blk_alloc ?_ _)); refine blk_far ?_ NB144_145.out _; (with_reducible repeat (first | refine blk_drewN ?_ _ | refine blk_drew ?_ | refine blk_alloc ?_ _)); refine blk_far ?_ NB144_145.out _; (with_reducible repeat (first | refine blk_drewN ?_ _ | refine blk_drew ?_ | refine blk_alloc ?_ _)); exact BK144.out⟩, ⟨by (with_reducible repeat (first | refine blk_drewN ?_ _ | refine blk_drew ?_ | refine blk_alloc ?_ _)); refine blk_put (cs := #[.int .i64 t160, .int .i64 x146001_1]) ?_ 1 _ rfl; (with_reducible repeat (first | refine blk_drewN ?_ _ | refine blk_drew ?_ | refine blk_alloc ?_ _)); refine blk_put (cs := #[.int .i64 x146000_1, .int .i64 x146001_1]) ?_ 0 _ rfl; (with_reducible repeat (first | refine blk_drewN ?_ _ | refine blk_drew ?_ | refine blk_alloc ?_ _)); exact BK145.out⟩, ⟨by repeat (first | (with_reducible first | exact HI141.out | apply IsS48.alloc | apply IsS48.drewN | apply IsS48.drew | apply IsS48.set_0 | refine IsS48.far ?_ NB141_139.out _ | refine IsS48.far ?_ NB141_144.out _ | refine IsS48.far ?_ NB141_145.out _ | refine IsS48.far ?_ NB141_156.out _) | exact HI141.out)⟩, ⟨by repeat (first | (with_reducible first | exact HB.out | apply below_alloc | apply pw_below_drewN | apply below_drew1 | refine below_set ?_ (IsS48.ge HI141.out) | refine below_set ?_ GE139.out | refine below_set ?_ GE144.out | refine below_set ?_ GE145.out | refine below_set ?_ GE156.out) | exact HB.out)⟩⟩
                  · rw [if_neg c37] at H
                    exact absurd H (by simp)
                · rw [if_neg c36] at H
                  exact absurd H (by simp)
              · rw [if_neg c35] at H
                exact absurd H (by simp)
            · rw [if_neg c34] at H
              have c34b0 : (t154 == 0) = false := beq_eq_false_iff_ne.mpr c34
              have c34b1 : (t154 != 0) = true := bne_iff_ne.mpr c34
              simp only [Option.some.injEq, Prod.mk.injEq] at H
              obtain ⟨rfl, rfl, rfl, rfl⟩ := H
              have p22 : 0 ≤ (0 : Int) := (by omega)
              have q22 : 0 < x0_1.size := (by have : (0 : Int) < (x0_1.size : Int) := of_decide_eq_true (by first | (with_reducible assumption) | assumption); omega)
              have hx22 : ∀ h : 0 < x0_1.size, ((x0_1[0]'h).toNat : Int) = bt x0_1 0 := bt_at x0_1 0
              clear p22
              have qi22 : (0 < (x0_1.size : Int)) = True := eq_true (of_decide_eq_true (by first | (with_reducible assumption) | assumption))
              replace q22 := eq_true q22
              try go_wp2_with (first | ((with_reducible refine gate_callee (f := 18) rfl ?_); refine goesL_ (some 19) rfl rfl Tryd.func18 (by kernel_rfl) rfl #[.string (⟨#[32, 9, 10, 13]⟩ : ByteArray), .int .u8 (bt x0_1 0)] rfl (by (try simp only [List.map_toArray, List.map_cons, List.map_nil]); first | done | rfl | (simp only [List.length_drop, List.length_take]; rfl) | (refine congrArg (fun z_ => #[z_]) (congrArg (Value.int IntKind.u64) (Eq.symm (Go.Proofs.YtjfklfmfeghjnacDoorAid.wrap_len _ (by omega)))))) ?_; (with_reducible refine (strings_IndexByte.calls (⟨#[32, 9, 10, 13]⟩ : ByteArray) (bt x0_1 0) t146 _ A23.out).mono ?_); rintro e w' ⟨rfl, ⟨nd, rfl⟩⟩; refine ⟨_, rfl, ?_⟩; (try (rw [drewN_self wr]; generalize hq_ : World.drewN wr _ = wr; have n0_ : Aside0 (Kd.R k36 36 wr w.heap.size (fun _ => True) u5 x5_1) := ⟨by rw [← hq_]; exact (by (with_reducible repeat (first | apply Kd.R_alloc | apply Kd.R_drewN | apply Kd.R_drew)); exact HO_5.out)⟩; have n1_ : Aside0 (wr.heap[gb139]? = some (.cells #[.int .i64 x140000_1, .int .i64 x140001_1] 32 (0, 0))) := ⟨by rw [← hq_]; exact (by (with_reducible repeat (first | refine blk_drewN ?_ _ | refine blk_drew ?_ | refine blk_alloc ?_ _)); exact BK139.out)⟩; have n2_ : Aside0 (wr.heap[gb144]? = some (.cells #[Value.func (Fn.func 26) #[] #[], Value.func (Fn.func 41) #[] #[Value.pointer (some ⟨g141, 0, none⟩)], Value.func (Fn.func 41) #[] #[Value.pointer (some ⟨g141 + 1, 0, none⟩)], Value.func (Fn.func 41) #[] #[Value.pointer (some ⟨g141 + 2, 0, none⟩)], Value.func (Fn.func 41) #[] #[Value.pointer (some ⟨g141 + 3, 0, none⟩)], Value.func (Fn.func 28) #[] #[], Value.func (Fn.func 10) #[] #[]] 49 (0, 0))) := ⟨by rw [← hq_]; exact (by (with_reducible repeat (first | refine blk_drewN ?_ _ | refine blk_drew ?_ | refine blk_alloc ?_ _)); exact BK144.out)⟩; have n3_ : Aside0 (wr.heap[gb145]? = some (.cells #[.int .i64 x146000_1, .int .i64 x146001_1] 32 (0, 0))) := ⟨by rw [← hq_]; exact (by (with_reducible repeat (first | refine blk_drewN ?_ _ | refine blk_drew ?_ | refine blk_alloc ?_ _)); exact BK145.out)⟩; have n4_ : Aside0 (IsS48 w wr g141 x142000_1) := ⟨by rw [← hq_]; exact (by repeat (first | (with_reducible first | exact HI141.out | apply IsS48.alloc | apply IsS48.drewN | apply IsS48.drew | apply IsS48.set_0 | refine IsS48.far ?_ NB141_139.out _ | refine IsS48.far ?_ NB141_144.out _ | refine IsS48.far ?_ NB141_145.out _) | exact HI141.out))⟩; have n5_ : Aside0 (Below w.heap.size w wr) := ⟨by rw [← hq_]; exact (by repeat (first | (with_reducible first | exact HB.out | apply below_alloc | apply pw_below_drewN | apply below_drew1 | refine below_set ?_ (IsS48.ge HI141.out) | refine below_set ?_ GE139.out | refine below_set ?_ GE144.out | refine below_set ?_ GE145.out) | exact HB.out))⟩; clear HO_5 BK139 BK144 BK145 HI141 HB hq_; have HO_5 := n0_; have BK139 := n1_; have BK144 := n2_; have BK145 := n3_; have HI141 := n4_; have HB := n5_; clear n0_ n1_ n2_ n3_ n4_ n5_)); (try (have hczU139_0 : wr.cell? ⟨gb139, 0, none⟩ = some (.int .i64 x140000_1) := (blk_cell BK139.out 0).trans rfl)); (try (have hczU139_1 : wr.cell? ⟨gb139, 1, none⟩ = some (.int .i64 x140001_1) := (blk_cell BK139.out 1).trans rfl)); (try (have hczU144_0 : wr.cell? ⟨gb144, 0, none⟩ = some (.int .i64 0) := (blk_cell BK144.out 0).trans rfl)); (try (have hczU145_0 : wr.cell? ⟨gb145, 0, none⟩ = some (.int .i64 x146000_1) := (blk_cell BK145.out 0).trans rfl)); (try (have hczU145_1 : wr.cell? ⟨gb145, 1, none⟩ = some (.int .i64 x146001_1) := (blk_cell BK145.out 1).trans rfl)); have hnb61 := NB144_139.out; have hnc61 := NB139_144.out; have hnb62 := NB144_145.out; have hnc62 := NB145_144.out; have hnb63 := NB144_141.out; have hnc63 := NB141_144.out; have hcz64_0 : wr.cell? ⟨gb144, 0, none⟩ = some (Value.func (Fn.func 26) #[] #[]) := (blk_cell BK144.out 0).trans rfl; have hcz64_1 : wr.cell? ⟨gb144, 1, none⟩ = some (Value.func (Fn.func 41) #[] #[Value.pointer (some ⟨g141, 0, none⟩)]) := (blk_cell BK144.out 1).trans rfl; have hcz64_2 : wr.cell? ⟨gb144, 2, none⟩ = some (Value.func (Fn.func 41) #[] #[Value.pointer (some ⟨g141 + 1, 0, none⟩)]) := (blk_cell BK144.out 2).trans rfl; have hcz64_3 : wr.cell? ⟨gb144, 3, none⟩ = some (Value.func (Fn.func 41) #[] #[Value.pointer (some ⟨g141 + 2, 0, none⟩)]) := (blk_cell BK144.out 3).trans rfl; have hcz64_4 : wr.cell? ⟨gb144, 4, none⟩ = some (Value.func (Fn.func 41) #[] #[Value.pointer (some ⟨g141 + 3, 0, none⟩)]) := (blk_cell BK144.out 4).trans rfl; have hcz64_5 : wr.cell? ⟨gb144, 5, none⟩ = some (Value.func (Fn.func 28) #[] #[]) := (blk_cell BK144.out 5).trans rfl; have hcz64_6 : wr.cell? ⟨gb144, 6, none⟩ = some (Value.func (Fn.func 10) #[] #[]) := (blk_cell BK144.out 6).trans rfl; have hfz64_0 := blk_frozen BK144.out 0; have hfz64_1 := blk_frozen BK144.out 1; have hfz64_2 := blk_frozen BK144.out 2; have hfz64_3 := blk_frozen BK144.out 3; have hfz64_4 := blk_frozen BK144.out 4; have hfz64_5 := blk_frozen BK144.out 5; have hfz64_6 := blk_frozen BK144.out 6) | ((with_reducible refine gate_callee (f := 20) rfl ?_); refine goesL_ (some 30) rfl rfl Tryd.func20 (by kernel_rfl) rfl #[.agg #[Value.func (Fn.func 26) #[] #[], Value.func (Fn.func 41) #[] #[Value.pointer (some ⟨g141, 0, none⟩)], Value.func (Fn.func 41) #[] #[Value.pointer (some ⟨g141 + 1, 0, none⟩)], Value.func (Fn.func 41) #[] #[Value.pointer (some ⟨g141 + 2, 0, none⟩)], Value.func (Fn.func 41) #[] #[Value.pointer (some ⟨g141 + 3, 0, none⟩)], Value.func (Fn.func 28) #[] #[], Value.func (Fn.func 10) #[] #[]], .string x0_1] rfl (by (try simp only [List.map_toArray, List.map_cons, List.map_nil]); first | done | rfl | (simp only [List.length_drop, List.length_take]; rfl) | (refine congrArg (fun z_ => #[z_]) (congrArg (Value.int IntKind.u64) (Eq.symm (Go.Proofs.YtjfklfmfeghjnacDoorAid.wrap_len _ (by omega)))))) ?_; (with_reducible refine (lex_first.calls k1 g141 x142000_1 x0_1 t149 t150 t151 t152 t153 t154 t155 w _ ?side1 ?side2 A33.out).mono ?_); (case side1 => repeat (first | (with_reducible first | exact HI141.out | apply IsS48.alloc | apply IsS48.drewN | apply IsS48.drew | apply IsS48.set_0 | refine IsS48.far ?_ NB141_139.out _ | refine IsS48.far ?_ NB141_144.out _ | refine IsS48.far ?_ NB141_145.out _) | exact HI141.out)); (case side2 => repeat (first | (with_reducible first | exact HB.out | apply below_alloc | apply pw_below_drewN | apply below_drew1 | refine below_set ?_ (IsS48.ge HI141.out) | refine below_set ?_ GE139.out | refine below_set ?_ GE144.out | refine below_set ?_ GE145.out) | exact HB.out)); rintro e w65 ⟨rfl, hi, hb, hk⟩; refine ⟨_, rfl, ?_⟩; have n0_ := Aside0.mk (Kd.R_mono (Kd.R_keep (IsS48.apart (show IsS48 w _ g141 x142000_1 from by repeat (first | (with_reducible first | exact HI141.out | apply IsS48.alloc | apply IsS48.drewN | apply IsS48.drew | apply IsS48.set_0 | refine IsS48.far ?_ NB141_139.out _ | refine IsS48.far ?_ NB141_144.out _ | refine IsS48.far ?_ NB141_145.out _) | exact HI141.out)) (by (with_reducible repeat (first | apply Kd.R_alloc | apply Kd.R_drewN | apply Kd.R_drew)); exact HO_5.out) (by decide)) hk (fun _ h => h.2)) (fun _ h => h.1)); have n1_ := Aside0.mk (KeepBut.blk hk (g' := gb139) (o := .cells #[.int .i64 x140000_1, .int .i64 x140001_1] 32 (0, 0)) (by (with_reducible repeat (first | refine blk_drewN ?_ _ | refine blk_drew ?_ | refine blk_alloc ?_ _)); exact BK139.out) NB139_141.out (by simp)); have n2_ := Aside0.mk (KeepBut.blk hk (g' := gb144) (o := .cells #[Value.func (Fn.func 26) #[] #[], Value.func (Fn.func 41) #[] #[Value.pointer (some ⟨g141, 0, none⟩)], Value.func (Fn.func 41) #[] #[Value.pointer (some ⟨g141 + 1, 0, none⟩)], Value.func (Fn.func 41) #[] #[Value.pointer (some ⟨g141 + 2, 0, none⟩)], Value.func (Fn.func 41) #[] #[Value.pointer (some ⟨g141 + 3, 0, none⟩)], Value.func (Fn.func 28) #[] #[], Value.func (Fn.func 10) #[] #[]] 49 (0, 0)) (by (with_reducible repeat (first | refine blk_drewN ?_ _ | refine blk_drew ?_ | refine blk_alloc ?_ _)); exact BK144.out) NB144_141.out (by simp)); have n3_ := Aside0.mk (KeepBut.blk hk (g' := gb145) (o := .cells #[.int .i64 x146000_1, .int .i64 x146001_1] 32 (0, 0)) (by (with_reducible repeat (first | refine blk_drewN ?_ _ | refine blk_drew ?_ | refine blk_alloc ?_ _)); exact BK145.out) NB145_141.out (by simp)); have n4_ := Aside0.mk (hb); have n5_ := Aside0.mk (hi); clear HO_5; clear BK139; clear BK144; clear BK145; clear HB; clear HI141; have HO_5 := n0_; have BK139 := n1_; have BK144 := n2_; have BK145 := n3_; have HB := n4_; have HI141 := n5_; clear n0_ n1_ n2_ n3_ n4_ n5_; (try clear hb); (try clear hb2); (try clear hk); (try clear hi)) | ((with_reducible refine gate_dst (N := 9) rfl ?_); refine box_event ?hg (N := 9) ?hd (cs := #[.int .i64 0, .string (⟨#[]⟩ : ByteArray), .int .i64 0, .int .i64 0]) (t := 36) ?hr ?_; (case hd => rfl); (case hg => rfl); (case hr => first | (go_simp; done) | (go_simp; rfl)); intro gb156 hg w66 hbox hb; have n0_ := Aside0.mk (Kd.R_below (Kd.R_elderB (by (with_reducible repeat (first | apply Kd.R_alloc | apply Kd.R_drewN | apply Kd.R_drew)); exact HO_5.out) gb156 (Nat.le_of_eq hg.symm)) hb); have n1_ := Aside0.mk (blk_below (g := gb139) (o := .cells #[.int .i64 x140000_1, .int .i64 x140001_1] 32 (0, 0)) (by (with_reducible repeat (first | refine blk_drewN ?_ _ | refine blk_drew ?_ | refine blk_alloc ?_ _)); exact BK139.out) hb); have n2_ := Aside0.mk (blk_below (g := gb144) (o := .cells #[Value.func (Fn.func 26) #[] #[], Value.func (Fn.func 41) #[] #[Value.pointer (some ⟨g141, 0, none⟩)], Value.func (Fn.func 41) #[] #[Value.pointer (some ⟨g141 + 1, 0, none⟩)], Value.func (Fn.func 41) #[] #[Value.pointer (some ⟨g141 + 2, 0, none⟩)], Value.func (Fn.func 41) #[] #[Value.pointer (some ⟨g141 + 3, 0, none⟩)], Value.func (Fn.func 28) #[] #[], Value.func (Fn.func 10) #[] #[]] 49 (0, 0)) (by (with_reducible repeat (first | refine blk_drewN ?_ _ | refine blk_drew ?_ | refine blk_alloc ?_ _)); exact BK144.out) hb); have n3_ := Aside0.mk (blk_below (g := gb145) (o := .cells #[.int .i64 x146000_1, .int .i64 x146001_1] 32 (0, 0)) (by (with_reducible repeat (first | refine blk_drewN ?_ _ | refine blk_drew ?_ | refine blk_alloc ?_ _)); exact BK145.out) hb); have n4_ := Aside0.mk (IsS48.below (by repeat (first | (with_reducible first | exact HI141.out | apply IsS48.alloc | apply IsS48.drewN | apply IsS48.drew | apply IsS48.set_0 | refine IsS48.far ?_ NB141_139.out _ | refine IsS48.far ?_ NB141_144.out _ | refine IsS48.far ?_ NB141_145.out _) | exact HI141.out)) hb); have n5_ := Aside0.mk (below_step (by repeat (first | (with_reducible first | exact HB.out | apply below_alloc | apply pw_below_drewN | apply below_drew1 | refine below_set ?_ (IsS48.ge HI141.out) | refine below_set ?_ GE139.out | refine below_set ?_ GE144.out | refine below_set ?_ GE145.out) | exact HB.out)) hb); have n6_ := Aside0.mk (hbox); have n7_ := Aside0.mk ((by rw [hg]; exact (below_size (by repeat (first | (with_reducible first | exact HB.out | apply below_alloc | apply pw_below_drewN | apply below_drew1 | refine below_set ?_ (IsS48.ge HI141.out) | refine below_set ?_ GE139.out | refine below_set ?_ GE144.out | refine below_set ?_ GE145.out) | exact HB.out))) : w.heap.size ≤ gb156)); have n8_ := Aside0.mk ((by rw [hg]; exact (below_size (by repeat (first | (with_reducible first | exact HB.out | apply below_alloc | apply pw_below_drewN | apply below_drew1 | refine below_set ?_ (IsS48.ge HI141.out) | refine below_set ?_ GE139.out | refine below_set ?_ GE144.out | refine below_set ?_ GE145.out) | exact HB.out))) : w.heap.size ≤ gb156)); have n9_ := Aside0.mk ((by rw [hg]; exact Nat.ne_of_lt (blk_lt (g := gb139) (o := .cells #[.int .i64 x140000_1, .int .i64 x140001_1] 32 (0, 0)) (by (with_reducible repeat (first | refine blk_drewN ?_ _ | refine blk_drew ?_ | refine blk_alloc ?_ _)); exact BK139.out)) : gb139 ≠ gb156)); have n10_ := Aside0.mk ((by rw [hg]; exact Nat.ne_of_gt (blk_lt (g := gb139) (o := .cells #[.int .i64 x140000_1, .int .i64 x140001_1] 32 (0, 0)) (by (with_reducible repeat (first | refine blk_drewN ?_ _ | refine blk_drew ?_ | refine blk_alloc ?_ _)); exact BK139.out)) : gb156 ≠ gb139)); have n11_ := Aside0.mk ((by rw [hg]; exact Nat.ne_of_lt (blk_lt (g := gb144) (o := .cells #[Value.func (Fn.func 26) #[] #[], Value.func (Fn.func 41) #[] #[Value.pointer (some ⟨g141, 0, none⟩)], Value.func (Fn.func 41) #[] #[Value.pointer (some ⟨g141 + 1, 0, none⟩)], Value.func (Fn.func 41) #[] #[Value.pointer (some ⟨g141 + 2, 0, none⟩)], Value.func (Fn.func 41) #[] #[Value.pointer (some ⟨g141 + 3, 0, none⟩)], Value.func (Fn.func 28) #[] #[], Value.func (Fn.func 10) #[] #[]] 49 (0, 0)) (by (with_reducible repeat (first | refine blk_drewN ?_ _ | refine blk_drew ?_ | refine blk_alloc ?_ _)); exact BK144.out)) : gb144 ≠ gb156)); have n12_ := Aside0.mk ((by rw [hg]; exact Nat.ne_of_gt (blk_lt (g := gb144) (o := .cells #[Value.func (Fn.func 26) #[] #[], Value.func (Fn.func 41) #[] #[Value.pointer (some ⟨g141, 0, none⟩)], Value.func (Fn.func 41) #[] #[Value.pointer (some ⟨g141 + 1, 0, none⟩)], Value.func (Fn.func 41) #[] #[Value.pointer (some ⟨g141 + 2, 0, none⟩)], Value.func (Fn.func 41) #[] #[Value.pointer (some ⟨g141 + 3, 0, none⟩)], Value.func (Fn.func 28) #[] #[], Value.func (Fn.func 10) #[] #[]] 49 (0, 0)) (by (with_reducible repeat (first | refine blk_drewN ?_ _ | refine blk_drew ?_ | refine blk_alloc ?_ _)); exact BK144.out)) : gb156 ≠ gb144)); have n13_ := Aside0.mk ((by rw [hg]; exact Nat.ne_of_lt (blk_lt (g := gb145) (o := .cells #[.int .i64 x146000_1, .int .i64 x146001_1] 32 (0, 0)) (by (with_reducible repeat (first | refine blk_drewN ?_ _ | refine blk_drew ?_ | refine blk_alloc ?_ _)); exact BK145.out)) : gb145 ≠ gb156)); have n14_ := Aside0.mk ((by rw [hg]; exact Nat.ne_of_gt (blk_lt (g := gb145) (o := .cells #[.int .i64 x146000_1, .int .i64 x146001_1] 32 (0, 0)) (by (with_reducible repeat (first | refine blk_drewN ?_ _ | refine blk_drew ?_ | refine blk_alloc ?_ _)); exact BK145.out)) : gb156 ≠ gb145)); have n15_ := Aside0.mk ((by rw [hg]; exact Ne4.of_lt (IsS48.lt4 (show IsS48 w _ g141 t155 from by repeat (first | (with_reducible first | exact HI141.out | apply IsS48.alloc | apply IsS48.drewN | apply IsS48.drew | apply IsS48.set_0 | refine IsS48.far ?_ NB141_139.out _ | refine IsS48.far ?_ NB141_144.out _ | refine IsS48.far ?_ NB141_145.out _) | exact HI141.out))) : Ne4 g141 gb156)); have n16_ := Aside0.mk ((by rw [hg]; exact Nat.ne_of_gt (IsS48.lt (show IsS48 w _ g141 t155 from by repeat (first | (with_reducible first | exact HI141.out | apply IsS48.alloc | apply IsS48.drewN | apply IsS48.drew | apply IsS48.set_0 | refine IsS48.far ?_ NB141_139.out _ | refine IsS48.far ?_ NB141_144.out _ | refine IsS48.far ?_ NB141_145.out _) | exact HI141.out))) : gb156 ≠ g141)); clear HO_5; clear BK139; clear BK144; clear BK145; clear HI141; clear HB; have HO_5 := n0_; have BK139 := n1_; have BK144 := n2_; have BK145 := n3_; have HI141 := n4_; have HB := n5_; have BK156 := n6_; have GW156 := n7_; have GE156 := n8_; have NB139_156 := n9_; have NB156_139 := n10_; have NB144_156 := n11_; have NB156_144 := n12_; have NB145_156 := n13_; have NB156_145 := n14_; have NB141_156 := n15_; have NB156_141 := n16_; clear n0_ n1_ n2_ n3_ n4_ n5_ n6_ n7_ n8_ n9_ n10_ n11_ n12_ n13_ n14_ n15_ n16_; clear hb hbox hg; have hnb67 := NB156_139.out; have hnc67 := NB139_156.out; have hnb68 := NB156_144.out; have hnc68 := NB144_156.out; have hnb69 := NB156_145.out; have hnc69 := NB145_156.out; have hnb70 := NB156_141.out; have hnc70 := NB141_156.out; have hcz71_0 : w66.cell? ⟨gb156, 0, none⟩ = some (.int .i64 0) := (blk_cell BK156.out 0).trans rfl; have hcz71_1 : w66.cell? ⟨gb156, 1, none⟩ = some (.string (⟨#[]⟩ : ByteArray)) := (blk_cell BK156.out 1).trans rfl; have hcz71_2 : w66.cell? ⟨gb156, 2, none⟩ = some (.int .i64 0) := (blk_cell BK156.out 2).trans rfl; have hcz71_3 : w66.cell? ⟨gb156, 3, none⟩ = some (.int .i64 0) := (blk_cell BK156.out 3).trans rfl; have hfz71_0 := blk_frozen BK156.out 0; have hfz71_1 := blk_frozen BK156.out 1; have hfz71_2 := blk_frozen BK156.out 2; have hfz71_3 := blk_frozen BK156.out 3))
              have n0_ : Aside0 (Kd.R k36 36 ((((w66.setCell ⟨gb156, 0, none⟩ (.int .i64 t149)).setCell ⟨gb156, 1, none⟩ (.string t150)).setCell ⟨gb156, 2, none⟩ (.int .i64 t151)).setCell ⟨gb156, 3, none⟩ (.int .i64 t152)) w.heap.size (fun k_ => k_ ≠ gb156) u5 x5_1) := ⟨by (with_reducible repeat (first | apply Kd.R_alloc | apply Kd.R_drewN | apply Kd.R_drew)); exact Kd.R_mono (Kd.R_far (p := ⟨gb156, 3, none⟩) (Kd.R_far (p := ⟨gb156, 2, none⟩) (Kd.R_far (p := ⟨gb156, 1, none⟩) (Kd.R_far (p := ⟨gb156, 0, none⟩) (Kd.R_mono HO_5.out (fun k_ hk => (⟨hk, hk.2⟩ : _ ∧ k_ ≠ gb156))) (fun _ hk => hk.2) (.int .i64 t149)) (fun _ hk => hk.2) (.string t150)) (fun _ hk => hk.2) (.int .i64 t151)) (fun _ hk => hk.2) (.int .i64 t152)) (fun _ hk => hk.1.2)⟩
              have n1_ : Aside0 (((((w66.setCell ⟨gb156, 0, none⟩ (.int .i64 t149)).setCell ⟨gb156, 1, none⟩ (.string t150)).setCell ⟨gb156, 2, none⟩ (.int .i64 t151)).setCell ⟨gb156, 3, none⟩ (.int .i64 t152)).heap[gb139]? = some (.cells #[.int .i64 x140000_1, .int .i64 x140001_1] 32 (0, 0))) := ⟨by (with_reducible repeat (first | refine blk_drewN ?_ _ | refine blk_drew ?_ | refine blk_alloc ?_ _)); refine blk_far ?_ NB139_156.out _; (with_reducible repeat (first | refine blk_drewN ?_ _ | refine blk_drew ?_ | refine blk_alloc ?_ _)); refine blk_far ?_ NB139_156.out _; (with_reducible repeat (first | refine blk_drewN ?_ _ | refine blk_drew ?_ | refine blk_alloc ?_ _)); refine blk_far ?_ NB139_156.out _; (with_reducible repeat (first | refine blk_drewN ?_ _ | refine blk_drew ?_ | refine blk_alloc ?_ _)); refine blk_far ?_ NB139_156.out _; (with_reducible repeat (first | refine blk_drewN ?_ _ | refine blk_drew ?_ | refine blk_alloc ?_ _)); exact BK139.out⟩
              have n2_ : Aside0 (((((w66.setCell ⟨gb156, 0, none⟩ (.int .i64 t149)).setCell ⟨gb156, 1, none⟩ (.string t150)).setCell ⟨gb156, 2, none⟩ (.int .i64 t151)).setCell ⟨gb156, 3, none⟩ (.int .i64 t152)).heap[gb144]? = some (.cells #[Value.func (Fn.func 26) #[] #[], Value.func (Fn.func 41) #[] #[Value.pointer (some ⟨g141, 0, none⟩)], Value.func (Fn.func 41) #[] #[Value.pointer (some ⟨g141 + 1, 0, none⟩)], Value.func (Fn.func 41) #[] #[Value.pointer (some ⟨g141 + 2, 0, none⟩)], Value.func (Fn.func 41) #[] #[Value.pointer (some ⟨g141 + 3, 0, none⟩)], Value.func (Fn.func 28) #[] #[], Value.func (Fn.func 10) #[] #[]] 49 (0, 0))) := ⟨by (with_reducible repeat (first | refine blk_drewN ?_ _ | refine blk_drew ?_ | refine blk_alloc ?_ _)); refine blk_far ?_ NB144_156.out _; (with_reducible repeat (first | refine blk_drewN ?_ _ | refine blk_drew ?_ | refine blk_alloc ?_ _)); refine blk_far ?_ NB144_156.out _; (with_reducible repeat (first | refine blk_drewN ?_ _ | refine blk_drew ?_ | refine blk_alloc ?_ _)); refine blk_far ?_ NB144_156.out _; (with_reducible repeat (first | refine blk_drewN ?_ _ | refine blk_drew ?_ | refine blk_alloc ?_ _)); refine blk_far ?_ NB144_156.out _; (with_reducible repeat (first | refine blk_drewN ?_ _ | refine blk_drew ?_ | refine blk_alloc ?_ _)); exact BK144.out⟩
              have n3_ : Aside0 (((((w66.setCell ⟨gb156, 0, none⟩ (.int .i64 t149)).setCell ⟨gb156, 1, none⟩ (.string t150)).setCell ⟨gb156, 2, none⟩ (.int .i64 t151)).setCell ⟨gb156, 3, none⟩ (.int .i64 t152)).heap[gb145]? = some (.cells #[.int .i64 x146000_1, .int .i64 x146001_1] 32 (0, 0))) := ⟨by (with_reducible repeat (first | refine blk_drewN ?_ _ | refine blk_drew ?_ | refine blk_alloc ?_ _)); refine blk_far ?_ NB145_156.out _; (with_reducible repeat (first | refine blk_drewN ?_ _ | refine blk_drew ?_ | refine blk_alloc ?_ _)); refine blk_far ?_ NB145_156.out _; (with_reducible repeat (first | refine blk_drewN ?_ _ | refine blk_drew ?_ | refine blk_alloc ?_ _)); refine blk_far ?_ NB145_156.out _; (with_reducible repeat (first | refine blk_drewN ?_ _ | refine blk_drew ?_ | refine blk_alloc ?_ _)); refine blk_far ?_ NB145_156.out _; (with_reducible repeat (first | refine blk_drewN ?_ _ | refine blk_drew ?_ | refine blk_alloc ?_ _)); exact BK145.out⟩
              have n4_ : Aside0 (((((w66.setCell ⟨gb156, 0, none⟩ (.int .i64 t149)).setCell ⟨gb156, 1, none⟩ (.string t150)).setCell ⟨gb156, 2, none⟩ (.int .i64 t151)).setCell ⟨gb156, 3, none⟩ (.int .i64 t152)).heap[gb156]? = some (.cells #[.int .i64 t149, .string t150, .int .i64 t151, .int .i64 t152] 36 (0, 0))) := ⟨by (with_reducible repeat (first | refine blk_drewN ?_ _ | refine blk_drew ?_ | refine blk_alloc ?_ _)); refine blk_put (cs := #[.int .i64 t149, .string t150, .int .i64 t151, .int .i64 0]) ?_ 3 _ rfl; (with_reducible repeat (first | refine blk_drewN ?_ _ | refine blk_drew ?_ | refine blk_alloc ?_ _)); refine blk_put (cs := #[.int .i64 t149, .string t150, .int .i64 0, .int .i64 0]) ?_ 2 _ rfl; (with_reducible repeat (first | refine blk_drewN ?_ _ | refine blk_drew ?_ | refine blk_alloc ?_ _)); refine blk_put (cs := #[.int .i64 t149, .string (⟨#[]⟩ : ByteArray), .int .i64 0, .int .i64 0]) ?_ 1 _ rfl; (with_reducible repeat (first | refine blk_drewN ?_ _ | refine blk_drew ?_ | refine blk_alloc ?_ _)); refine blk_put (cs := #[.int .i64 0, .string (⟨#[]⟩ : ByteArray), .int .i64 0, .int .i64 0]) ?_ 0 _ rfl; (with_reducible repeat (first | refine blk_drewN ?_ _ | refine blk_drew ?_ | refine blk_alloc ?_ _)); exact BK156.out⟩
              have n5_ : Aside0 (IsS48 w ((((w66.setCell ⟨gb156, 0, none⟩ (.int .i64 t149)).setCell ⟨gb156, 1, none⟩ (.string t150)).setCell ⟨gb156, 2, none⟩ (.int .i64 t151)).setCell ⟨gb156, 3, none⟩ (.int .i64 t152)) g141 t155) := ⟨by repeat (first | (with_reducible first | exact HI141.out | apply IsS48.alloc | apply IsS48.drewN | apply IsS48.drew | apply IsS48.set_0 | refine IsS48.far ?_ NB141_139.out _ | refine IsS48.far ?_ NB141_144.out _ | refine IsS48.far ?_ NB141_145.out _ | refine IsS48.far ?_ NB141_156.out _) | exact HI141.out)⟩
              have n6_ : Aside0 (Below w.heap.size w ((((w66.setCell ⟨gb156, 0, none⟩ (.int .i64 t149)).setCell ⟨gb156, 1, none⟩ (.string t150)).setCell ⟨gb156, 2, none⟩ (.int .i64 t151)).setCell ⟨gb156, 3, none⟩ (.int .i64 t152))) := ⟨by repeat (first | (with_reducible first | exact HB.out | apply below_alloc | apply pw_below_drewN | apply below_drew1 | refine below_set ?_ (IsS48.ge HI141.out) | refine below_set ?_ GE139.out | refine below_set ?_ GE144.out | refine below_set ?_ GE145.out | refine below_set ?_ GE156.out) | exact HB.out)⟩
              (try clear HO_5)
              (try clear BK139)
              (try clear BK144)
              (try clear BK145)
              (try clear BK156)
              (try clear HI141)
              (try clear HB)
              generalize ((((w66.setCell ⟨gb156, 0, none⟩ (.int .i64 t149)).setCell ⟨gb156, 1, none⟩ (.string t150)).setCell ⟨gb156, 2, none⟩ (.int .i64 t151)).setCell ⟨gb156, 3, none⟩ (.int .i64 t152)) = w72 at n0_ n1_ n2_ n3_ n4_ n5_ n6_ ⊢
              have HO_5 := n0_
              have BK139 := n1_
              have BK144 := n2_
              have BK145 := n3_
              have BK156 := n4_
              have HI141 := n5_
              have HB := n6_
              clear n0_ n1_ n2_ n3_ n4_ n5_ n6_
              have n0_ := Aside0.mk (Kd.R_drew HO_5.out)
              have n1_ := Aside0.mk (blk_drew BK139.out)
              have n2_ := Aside0.mk (blk_drew BK144.out)
              have n3_ := Aside0.mk (blk_drew BK145.out)
              have n4_ := Aside0.mk (blk_drew BK156.out)
              have n5_ := Aside0.mk (IsS48.drew HI141.out)
              have n6_ := Aside0.mk (below_drew1 HB.out)
              clear HO_5
              clear BK139
              clear BK144
              clear BK145
              clear BK156
              clear HI141
              clear HB
              have HO_5 := n0_
              have BK139 := n1_
              have BK144 := n2_
              have BK145 := n3_
              have BK156 := n4_
              have HI141 := n5_
              have HB := n6_
              clear n0_ n1_ n2_ n3_ n4_ n5_ n6_
              refine start_ (n := 5) (S := fun w' => w'.cell? ⟨gb145, 0, none⟩ = some (.int .i64 x146000_1) ∧ w'.cell? ⟨gb145, 1, none⟩ = some (.int .i64 x146001_1)) (ds := []) #[false, false, false, false, false] (by kernel_rfl) rfl rfl ⟨(blk_cell BK145.out 0).trans rfl, (blk_cell BK145.out 1).trans rfl⟩ (fun hHeld => ?_)
              generalize w72.drew = w73 at HO_5 BK139 BK144 BK145 BK156 HI141 HB hHeld ⊢
              refine pure_ (i := 0) (N := some 36) (v := ?_) (a' := ?_) #[true, false, false, false, false] rfl rfl (by kernel_rfl) (fun _ _ _ h => h) (Or.inl ⟨by rfl, ?_⟩) ?_ ?_
              rotate_left
              · intro w'
                go_simp
                with_reducible rfl
              rotate_left
              · simp only [Act.put, List.setIfInBounds_toArray, List.set_cons_zero, List.set_cons_succ, i64_w, i32_w]
                rfl
              refine pure_ (i := 2) (N := some 2) (v := ?_) (a' := ?_) #[true, false, true, false, false] rfl rfl (by kernel_rfl) (fun _ _ _ h => h) (Or.inl ⟨by rfl, ?_⟩) ?_ ?_
              rotate_left
              · intro w'
                go_simp
                with_reducible rfl
              rotate_left
              · simp only [Act.put, List.setIfInBounds_toArray, List.set_cons_zero, List.set_cons_succ, i64_w, i32_w]
                rfl
              refine pure_ (i := 3) (N := some 3) (v := ?_) (a' := ?_) #[true, false, true, true, false] rfl rfl (by kernel_rfl) (fun _ _ _ h => h) (Or.inl ⟨by rfl, ?_⟩) ?_ ?_
              rotate_left
              · intro w'
                go_simp
                with_reducible rfl
              rotate_left
              · simp only [Act.put, List.setIfInBounds_toArray, List.set_cons_zero, List.set_cons_succ, i64_w, i32_w]
                rfl
              refine take_ (i := 1) (N := some 37) (v := ?_) (a' := ?_) #[true, true, true, true, false] rfl rfl (by kernel_rfl) (fun _ _ _ h => h) (Or.inl ⟨by rfl, ?_⟩) hHeld ?_ ?_
              rotate_left
              · rintro w' ⟨s0, s1⟩
                go_simp
                with_reducible rfl
              rotate_left
              · simp only [Act.put, List.setIfInBounds_toArray, List.set_cons_zero, List.set_cons_succ, i64_w, i32_w]
                rfl
              refine one_ (i := 4) (N := none) #[true, true, true, true, true] rfl rfl (by kernel_rfl) (by decide) (fun K hK => ?_)
              have hs74 : w73.cell? ⟨gb139, 0, none⟩ = some (.int .i64 x140000_1) := (blk_cell BK139.out 0).trans rfl
              have hfs74 := blk_frozen BK139.out 0
              have hns74_1 := NB144_139.out
              have hns74_2 := NB145_139.out
              have hns74_3 := NB156_139.out
              have hms74_1 := NB139_144.out
              have hms74_2 := NB139_145.out
              have hms74_3 := NB139_156.out
              have hs75 : w73.cell? ⟨gb139, 1, none⟩ = some (.int .i64 x140001_1) := (blk_cell BK139.out 1).trans rfl
              have hfs75 := blk_frozen BK139.out 1
              have hns75_1 := NB144_139.out
              have hns75_2 := NB145_139.out
              have hns75_3 := NB156_139.out
              have hms75_1 := NB139_144.out
              have hms75_2 := NB139_145.out
              have hms75_3 := NB139_156.out
              refine skip_ (w1 := ?_) (by rfl) rfl ?_ ?_
              rotate_left
              · go_simp
                rfl
              refine hK.out _ _ ⟨((cell_far (p := ⟨gb139, _, none⟩) NB145_139.out _).trans (((cell_far (p := ⟨gb139, _, none⟩) NB145_139.out _).trans (hHeld.1)))), ((cell_far (p := ⟨gb139, _, none⟩) NB145_139.out _).trans (((cell_far (p := ⟨gb139, _, none⟩) NB145_139.out _).trans (hHeld.2))))⟩ (fun hHeld => ?_)
              clear hK K
              refine done_ (by kernel_rfl) ?_
              try go_wp2
              refine bodyPost_ret (results_list (rs := [.tmp 2, .tmp 3, .cell 4 32]) rfl (by simp) (.tmp (.tmp (.cell gb139 32 #[.int .i64 x146000_1, .int .i64 x146001_1] (0, 0) _ rfl (by (with_reducible repeat (first | refine blk_drewN ?_ _ | refine blk_drew ?_ | refine blk_alloc ?_ _)); refine blk_put (cs := #[.int .i64 x146000_1, .int .i64 x140001_1]) ?_ 1 _ rfl; (with_reducible repeat (first | refine blk_drewN ?_ _ | refine blk_drew ?_ | refine blk_alloc ?_ _)); refine blk_put (cs := #[.int .i64 x140000_1, .int .i64 x140001_1]) ?_ 0 _ rfl; (with_reducible repeat (first | refine blk_drewN ?_ _ | refine blk_drew ?_ | refine blk_alloc ?_ _)); exact BK139.out) Tryd.underlying32 rfl (by kernel_rfl) .nil)))) rfl ?_
              exact ⟨_, by first | rfl | (simp [errW_none, errW_some] <;> rfl) | (simp [*, errW_none, errW_some] <;> rfl), by first | exact Kd.R_nil _ _ _ _ _ | exact Kd.N_nil _ _ _ _ _ | exact Kd.V_nil _ _ _ _ _ | exact Kd.Q_nil _ _ _ _ _ | exact Kd.S_nil _ _ _ _ _, by repeat (first | (with_reducible first | exact HB.out | apply below_alloc | apply pw_below_drewN | apply below_drew1 | refine below_set ?_ (IsS48.ge HI141.out) | refine below_set ?_ GE139.out | refine below_set ?_ GE144.out | refine below_set ?_ GE145.out | refine below_set ?_ GE156.out) | exact HB.out)⟩
        · rw [if_neg c21] at H
          exact absurd H (by simp)

/-! ### tachographlaw21_fixed: function 4 -/
def tachographlaw21_fixed.f (k : Nat)  : Option (Bool) := (lex_Lex.f k (⟨#[64, 49, 50, 32, 112, 40, 34, 97, 34, 44, 45, 51, 41]⟩ : ByteArray)).bind fun bt162 => (if bt162.2.1 = 0 then (if (bt162.1.length : Int) = 8 then (if (bt162.2.2.1 == 0 && (bt162.2.2.2 == 0)) = true then (if 4 < (bt162.1.length : Int) then (if ((rd_T36 bt162.1 4).f0) = 7 then (some (((rd_T36 bt162.1 4).f1).toList == ([97] : List UInt8))) else (some false)) else (none)) else (some false)) else (some false)) else (some false))
theorem tachographlaw21_fixed.mono : ∀ k, LeO (tachographlaw21_fixed.f k ) (tachographlaw21_fixed.f (k + 1) ) := by
  intro  k
  unfold tachographlaw21_fixed.f
  repeat' first
      | (with_reducible exact lex_Lex.mono _ _)
      | (with_reducible exact LeO.refl _)
      | (with_reducible exact LeO.none _)
      | (with_reducible refine LeO.ite ?_ ?_)
      | (with_reducible refine LeO.bind ?_ (fun _ => ?_))
      | exact lex_Lex.mono _ _
      | exact LeO.none _
      | refine LeO.ite ?_ ?_
      | refine LeO.bind ?_ (fun _ => ?_)
set_option maxHeartbeats 8000000 in
set_option maxRecDepth 100000 in
theorem tachographlaw21_fixed.calls (k : Nat)  (r : Bool) (w : World) (h : tachographlaw21_fixed.f k  = some r) :
    Calls Tryd.prog 4 #[] w fun e w' => e = .returned (.bool r) ∧ Below w.heap.size w w' := by
  have hu32 := Tryd.underlying32
  have HB := Aside0.mk (Below.refl w.heap.size w)
  have H : ((lex_Lex.f k (⟨#[64, 49, 50, 32, 112, 40, 34, 97, 34, 44, 45, 51, 41]⟩ : ByteArray)).bind fun bt162 => (if bt162.2.1 = 0 then (if (bt162.1.length : Int) = 8 then (if (bt162.2.2.1 == 0 && (bt162.2.2.2 == 0)) = true then (if 4 < (bt162.1.length : Int) then (if ((rd_T36 bt162.1 4).f0) = 7 then (some (((rd_T36 bt162.1 4).f1).toList == ([97] : List UInt8))) else (some false)) else (none)) else (some false)) else (some false)) else (some false))) = some r := h
  clear h
  replace H := Option.bind_eq_some_iff.mp H
  obtain ⟨⟨t162, t165, t166, t167⟩, A10, H⟩ := H
  replace H : (if t165 = 0 then (if (t162.length : Int) = 8 then (if (t166 == 0 && (t167 == 0)) = true then (if 4 < (t162.length : Int) then (if ((rd_T36 t162 4).f0) = 7 then (some (((rd_T36 t162 4).f1).toList == ([97] : List UInt8))) else (some false)) else (none)) else (some false)) else (some false)) else (some false)) = some r := H
  have A1 := Aside0.mk A10
  clear A10
  by_cases c2 : t165 = 0
  · rw [if_pos c2] at H
    have c2b0 : (t165 == 0) = true := beq_iff_eq.mpr c2
    have c2b1 : (t165 != 0) = false := bne_eq_false_iff_eq.mpr c2
    clear c2
    by_cases c3 : (t162.length : Int) = 8
    · rw [if_pos c3] at H
      have c3b0 : ((t162.length : Int) == 8) = true := beq_iff_eq.mpr c3
      have c3b1 : ((t162.length : Int) != 8) = false := bne_eq_false_iff_eq.mpr c3
      clear c3
      by_cases c4 : (t166 == 0 && (t167 == 0)) = true
      · rw [if_pos c4] at H
        have c4b0 : (t166 == 0 && (t167 == 0)) = true := c4
        (try (have c4b1 : decide (t166 = 0 && (t167 == 0)) = true := by simpa using c4))
        (try (have c4b2 : (t166 == 0 && (t167 == 0)) = true := by simpa using c4))
        clear c4
        by_cases c5 : 4 < (t162.length : Int)
        · rw [if_pos c5] at H
          have c5b0 : decide (4 < (t162.length : Int)) = true := decide_eq_true c5
          have c5b1 : decide (4 < t162.length) = true := decide_eq_true (by omega)
          clear c5
          by_cases c6 : ((rd_T36 t162 4).f0) = 7
          · rw [if_pos c6] at H
            have c6b0 : (((rd_T36 t162 4).f0) == 7) = true := beq_iff_eq.mpr c6
            have c6b1 : (((rd_T36 t162 4).f0) != 7) = false := bne_eq_false_iff_eq.mpr c6
            clear c6
            obtain rfl := Option.some.inj H
            go_enter Tryd.func4, Tryd.ntmps4
            go_wp2_with (first | ((with_reducible refine gate_callee (f := 9) rfl ?_); refine goesL_ (some 5) rfl rfl Tryd.func9 (by kernel_rfl) rfl #[.string (⟨#[64, 49, 50, 32, 112, 40, 34, 97, 34, 44, 45, 51, 41]⟩ : ByteArray)] rfl (by (try simp only [List.map_toArray, List.map_cons, List.map_nil]); first | done | rfl | (simp only [List.length_drop, List.length_take]; rfl) | (refine congrArg (fun z_ => #[z_]) (congrArg (Value.int IntKind.u64) (Eq.symm (Go.Proofs.YtjfklfmfeghjnacDoorAid.wrap_len _ (by omega)))))) ?_; (with_reducible refine (lex_Lex.calls k (⟨#[64, 49, 50, 32, 112, 40, 34, 97, 34, 44, 45, 51, 41]⟩ : ByteArray) t162 t165 t166 t167 _ A1.out).mono ?_); rintro e w7 ⟨v163, rfl, ho0, hb⟩; refine ⟨_, rfl, ?_⟩; have n0_ := Aside0.mk (Kd.R_lower ho0 (below_size (by repeat (first | (with_reducible first | exact HB.out | apply below_alloc | apply pw_below_drewN | apply below_drew1) | exact HB.out)))); have n1_ := Aside0.mk (below_step (by repeat (first | (with_reducible first | exact HB.out | apply below_alloc | apply pw_below_drewN | apply below_drew1) | exact HB.out)) hb); clear HB; have HO164 := n0_; have HB := n1_; clear n0_ n1_; (try clear hb); (try clear hb2); (try clear hk); (try clear hi); (try clear ho0)) | ((with_reducible refine gate_dst (N := 3) rfl ?_); (try (refine gate_guard (by rfl) ?_; dsimp only)); refine box_event ?hg (N := 3) ?hd (cs := #[.int .i64 0, .int .i64 0]) (t := 32) ?hr ?_; (case hd => rfl); (case hg => rfl); (case hr => first | (go_simp; done) | (go_simp; rfl)); intro gb168 hg w8 hbox hb; have n0_ := Aside0.mk (Kd.R_below (by (with_reducible repeat (first | apply Kd.R_alloc | apply Kd.R_drewN | apply Kd.R_drew)); exact HO164.out) hb); have n1_ := Aside0.mk (below_step (by repeat (first | (with_reducible first | exact HB.out | apply below_alloc | apply pw_below_drewN | apply below_drew1) | exact HB.out)) hb); have n2_ := Aside0.mk (hbox); have n3_ := Aside0.mk ((by rw [hg]; exact (below_size (by repeat (first | (with_reducible first | exact HB.out | apply below_alloc | apply pw_below_drewN | apply below_drew1) | exact HB.out))) : w.heap.size ≤ gb168)); have n4_ := Aside0.mk ((by rw [hg]; exact (below_size (by repeat (first | (with_reducible first | exact HB.out | apply below_alloc | apply pw_below_drewN | apply below_drew1) | exact HB.out))) : w.heap.size ≤ gb168)); clear HO164; clear HB; have HO164 := n0_; have HB := n1_; have BK168 := n2_; have GW168 := n3_; have GE168 := n4_; clear n0_ n1_ n2_ n3_ n4_; clear hb hbox hg; have hcz9_0 : w8.cell? ⟨gb168, 0, none⟩ = some (.int .i64 0) := (blk_cell BK168.out 0).trans rfl; have hcz9_1 : w8.cell? ⟨gb168, 1, none⟩ = some (.int .i64 0) := (blk_cell BK168.out 1).trans rfl; have hfz9_0 := blk_frozen BK168.out 0; have hfz9_1 := blk_frozen BK168.out 1; obtain ⟨Ao10, co10, eo10⟩ := Kd.R_slice HO164.out; subst eo10; have p169 : 0 ≤ (4 : Int) := (by omega); have q169 : 4 < (t162.length : Int) := of_decide_eq_true (by first | (with_reducible assumption) | assumption); obtain ⟨ad169, e169, hx169_0, hx169_1, hx169_2, hx169_3⟩ := at_T36 (Kd.R_reads' HO164.out).2.2 4 p169 q169; cases e169; (try simp only [show (4 : Int).toNat = 4 from rfl, Nat.reduceMul, Nat.reduceEqDiff, Go.Addr.add, ↓reduceIte] at hx169_0); (try simp only [show (4 : Int).toNat = 4 from rfl, Nat.reduceMul, Nat.reduceEqDiff, Go.Addr.add, ↓reduceIte] at hx169_1); (try simp only [show (4 : Int).toNat = 4 from rfl, Nat.reduceMul, Nat.reduceEqDiff, Go.Addr.add, ↓reduceIte] at hx169_2); (try simp only [show (4 : Int).toNat = 4 from rfl, Nat.reduceMul, Nat.reduceEqDiff, Go.Addr.add, ↓reduceIte] at hx169_3); have qi169 : (4 < t162.length) = True := eq_true (by omega); (try rw [show ((4 : Int)).toNat = 4 from rfl] at hx169_0); (try rw [show 4 * 4 = 16 from rfl] at hx169_0); (try rw [show ((4 : Int)).toNat = 4 from rfl] at hx169_1); (try rw [show 4 * 4 = 16 from rfl] at hx169_1); (try rw [show ((4 : Int)).toNat = 4 from rfl] at hx169_2); (try rw [show 4 * 4 = 16 from rfl] at hx169_2); (try rw [show ((4 : Int)).toNat = 4 from rfl] at hx169_3); (try rw [show 4 * 4 = 16 from rfl] at hx169_3); have hn169_0 : ad169.block ≠ gb168 := Kd.own_blk (Kd.R_ne HO164.out BK168.out (by decide)); have hn169_1 : ad169.block ≠ gb168 := Kd.own_blk (Kd.R_ne HO164.out BK168.out (by decide)); replace hx169_0 := (cell_far (p := ⟨gb168, 0, none⟩) (by first | (rw [add_block]; exact hn169_0) | (show (Addr.add _ _).block ≠ _; rw [add_block]; exact hn169_0) | exact hn169_0) (.int .i64 t166)).trans hx169_0; replace hx169_1 := (cell_far (p := ⟨gb168, 0, none⟩) (by first | (rw [add_block]; exact hn169_0) | (show (Addr.add _ _).block ≠ _; rw [add_block]; exact hn169_0) | exact hn169_0) (.int .i64 t166)).trans hx169_1; replace hx169_2 := (cell_far (p := ⟨gb168, 0, none⟩) (by first | (rw [add_block]; exact hn169_0) | (show (Addr.add _ _).block ≠ _; rw [add_block]; exact hn169_0) | exact hn169_0) (.int .i64 t166)).trans hx169_2; replace hx169_3 := (cell_far (p := ⟨gb168, 0, none⟩) (by first | (rw [add_block]; exact hn169_0) | (show (Addr.add _ _).block ≠ _; rw [add_block]; exact hn169_0) | exact hn169_0) (.int .i64 t166)).trans hx169_3; replace hx169_0 := (cell_far (p := ⟨gb168, 1, none⟩) (by first | (rw [add_block]; exact hn169_1) | (show (Addr.add _ _).block ≠ _; rw [add_block]; exact hn169_1) | exact hn169_1) (.int .i64 t167)).trans hx169_0; replace hx169_1 := (cell_far (p := ⟨gb168, 1, none⟩) (by first | (rw [add_block]; exact hn169_1) | (show (Addr.add _ _).block ≠ _; rw [add_block]; exact hn169_1) | exact hn169_1) (.int .i64 t167)).trans hx169_1; replace hx169_2 := (cell_far (p := ⟨gb168, 1, none⟩) (by first | (rw [add_block]; exact hn169_1) | (show (Addr.add _ _).block ≠ _; rw [add_block]; exact hn169_1) | exact hn169_1) (.int .i64 t167)).trans hx169_2; replace hx169_3 := (cell_far (p := ⟨gb168, 1, none⟩) (by first | (rw [add_block]; exact hn169_1) | (show (Addr.add _ _).block ≠ _; rw [add_block]; exact hn169_1) | exact hn169_1) (.int .i64 t167)).trans hx169_3; clear hn169_0; clear hn169_1; replace p169 := eq_true p169; replace q169 := eq_true q169; have p170 : 0 ≤ (4 : Int) := (by omega); have q170 : 4 < (t162.length : Int) := of_decide_eq_true (by first | (with_reducible assumption) | assumption); obtain ⟨ad170, e170, hx170_0, hx170_1, hx170_2, hx170_3⟩ := at_T36 (Kd.R_reads' HO164.out).2.2 4 p170 q170; obtain rfl : ad169 = ad170 := (by injection e170); (try simp only [show (4 : Int).toNat = 4 from rfl, Nat.reduceMul, Nat.reduceEqDiff, Go.Addr.add, ↓reduceIte] at hx170_0); (try simp only [show (4 : Int).toNat = 4 from rfl, Nat.reduceMul, Nat.reduceEqDiff, Go.Addr.add, ↓reduceIte] at hx170_1); (try simp only [show (4 : Int).toNat = 4 from rfl, Nat.reduceMul, Nat.reduceEqDiff, Go.Addr.add, ↓reduceIte] at hx170_2); (try simp only [show (4 : Int).toNat = 4 from rfl, Nat.reduceMul, Nat.reduceEqDiff, Go.Addr.add, ↓reduceIte] at hx170_3); have qi170 : (4 < t162.length) = True := eq_true (by omega); (try rw [show ((4 : Int)).toNat = 4 from rfl] at hx170_0); (try rw [show 4 * 4 = 16 from rfl] at hx170_0); (try rw [show ((4 : Int)).toNat = 4 from rfl] at hx170_1); (try rw [show 4 * 4 = 16 from rfl] at hx170_1); (try rw [show ((4 : Int)).toNat = 4 from rfl] at hx170_2); (try rw [show 4 * 4 = 16 from rfl] at hx170_2); (try rw [show ((4 : Int)).toNat = 4 from rfl] at hx170_3); (try rw [show 4 * 4 = 16 from rfl] at hx170_3); have hn170_0 : ad169.block ≠ gb168 := Kd.own_blk (Kd.R_ne HO164.out BK168.out (by decide)); have hn170_1 : ad169.block ≠ gb168 := Kd.own_blk (Kd.R_ne HO164.out BK168.out (by decide)); replace hx170_0 := (cell_far (p := ⟨gb168, 0, none⟩) (by first | (rw [add_block]; exact hn170_0) | (show (Addr.add _ _).block ≠ _; rw [add_block]; exact hn170_0) | exact hn170_0) (.int .i64 t166)).trans hx170_0; replace hx170_1 := (cell_far (p := ⟨gb168, 0, none⟩) (by first | (rw [add_block]; exact hn170_0) | (show (Addr.add _ _).block ≠ _; rw [add_block]; exact hn170_0) | exact hn170_0) (.int .i64 t166)).trans hx170_1; replace hx170_2 := (cell_far (p := ⟨gb168, 0, none⟩) (by first | (rw [add_block]; exact hn170_0) | (show (Addr.add _ _).block ≠ _; rw [add_block]; exact hn170_0) | exact hn170_0) (.int .i64 t166)).trans hx170_2; replace hx170_3 := (cell_far (p := ⟨gb168, 0, none⟩) (by first | (rw [add_block]; exact hn170_0) | (show (Addr.add _ _).block ≠ _; rw [add_block]; exact hn170_0) | exact hn170_0) (.int .i64 t166)).trans hx170_3; replace hx170_0 := (cell_far (p := ⟨gb168, 1, none⟩) (by first | (rw [add_block]; exact hn170_1) | (show (Addr.add _ _).block ≠ _; rw [add_block]; exact hn170_1) | exact hn170_1) (.int .i64 t167)).trans hx170_0; replace hx170_1 := (cell_far (p := ⟨gb168, 1, none⟩) (by first | (rw [add_block]; exact hn170_1) | (show (Addr.add _ _).block ≠ _; rw [add_block]; exact hn170_1) | exact hn170_1) (.int .i64 t167)).trans hx170_1; replace hx170_2 := (cell_far (p := ⟨gb168, 1, none⟩) (by first | (rw [add_block]; exact hn170_1) | (show (Addr.add _ _).block ≠ _; rw [add_block]; exact hn170_1) | exact hn170_1) (.int .i64 t167)).trans hx170_2; replace hx170_3 := (cell_far (p := ⟨gb168, 1, none⟩) (by first | (rw [add_block]; exact hn170_1) | (show (Addr.add _ _).block ≠ _; rw [add_block]; exact hn170_1) | exact hn170_1) (.int .i64 t167)).trans hx170_3; clear hn170_0; clear hn170_1; replace p170 := eq_true p170; replace q170 := eq_true q170))
            go_ret
            exact ⟨by first | rfl | (simp [errW_none, errW_some] <;> rfl) | (simp [*, errW_none, errW_some] <;> rfl), by repeat (first | (with_reducible first | exact HB.out | apply below_alloc | apply pw_below_drewN | apply below_drew1 | refine below_set ?_ GE168.out) | exact HB.out)⟩
          · rw [if_neg c6] at H
            have c6b0 : (((rd_T36 t162 4).f0) == 7) = false := beq_eq_false_iff_ne.mpr c6
            have c6b1 : (((rd_T36 t162 4).f0) != 7) = true := bne_iff_ne.mpr c6
            obtain rfl := Option.some.inj H
            go_enter Tryd.func4, Tryd.ntmps4
            go_wp2_with (first | ((with_reducible refine gate_callee (f := 9) rfl ?_); refine goesL_ (some 5) rfl rfl Tryd.func9 (by kernel_rfl) rfl #[.string (⟨#[64, 49, 50, 32, 112, 40, 34, 97, 34, 44, 45, 51, 41]⟩ : ByteArray)] rfl (by (try simp only [List.map_toArray, List.map_cons, List.map_nil]); first | done | rfl | (simp only [List.length_drop, List.length_take]; rfl) | (refine congrArg (fun z_ => #[z_]) (congrArg (Value.int IntKind.u64) (Eq.symm (Go.Proofs.YtjfklfmfeghjnacDoorAid.wrap_len _ (by omega)))))) ?_; (with_reducible refine (lex_Lex.calls k (⟨#[64, 49, 50, 32, 112, 40, 34, 97, 34, 44, 45, 51, 41]⟩ : ByteArray) t162 t165 t166 t167 _ A1.out).mono ?_); rintro e w11 ⟨v163, rfl, ho0, hb⟩; refine ⟨_, rfl, ?_⟩; have n0_ := Aside0.mk (Kd.R_lower ho0 (below_size (by repeat (first | (with_reducible first | exact HB.out | apply below_alloc | apply pw_below_drewN | apply below_drew1) | exact HB.out)))); have n1_ := Aside0.mk (below_step (by repeat (first | (with_reducible first | exact HB.out | apply below_alloc | apply pw_below_drewN | apply below_drew1) | exact HB.out)) hb); clear HB; have HO164 := n0_; have HB := n1_; clear n0_ n1_; (try clear hb); (try clear hb2); (try clear hk); (try clear hi); (try clear ho0)) | ((with_reducible refine gate_dst (N := 3) rfl ?_); (try (refine gate_guard (by rfl) ?_; dsimp only)); refine box_event ?hg (N := 3) ?hd (cs := #[.int .i64 0, .int .i64 0]) (t := 32) ?hr ?_; (case hd => rfl); (case hg => rfl); (case hr => first | (go_simp; done) | (go_simp; rfl)); intro gb168 hg w12 hbox hb; have n0_ := Aside0.mk (Kd.R_below (by (with_reducible repeat (first | apply Kd.R_alloc | apply Kd.R_drewN | apply Kd.R_drew)); exact HO164.out) hb); have n1_ := Aside0.mk (below_step (by repeat (first | (with_reducible first | exact HB.out | apply below_alloc | apply pw_below_drewN | apply below_drew1) | exact HB.out)) hb); have n2_ := Aside0.mk (hbox); have n3_ := Aside0.mk ((by rw [hg]; exact (below_size (by repeat (first | (with_reducible first | exact HB.out | apply below_alloc | apply pw_below_drewN | apply below_drew1) | exact HB.out))) : w.heap.size ≤ gb168)); have n4_ := Aside0.mk ((by rw [hg]; exact (below_size (by repeat (first | (with_reducible first | exact HB.out | apply below_alloc | apply pw_below_drewN | apply below_drew1) | exact HB.out))) : w.heap.size ≤ gb168)); clear HO164; clear HB; have HO164 := n0_; have HB := n1_; have BK168 := n2_; have GW168 := n3_; have GE168 := n4_; clear n0_ n1_ n2_ n3_ n4_; clear hb hbox hg; have hcz13_0 : w12.cell? ⟨gb168, 0, none⟩ = some (.int .i64 0) := (blk_cell BK168.out 0).trans rfl; have hcz13_1 : w12.cell? ⟨gb168, 1, none⟩ = some (.int .i64 0) := (blk_cell BK168.out 1).trans rfl; have hfz13_0 := blk_frozen BK168.out 0; have hfz13_1 := blk_frozen BK168.out 1; obtain ⟨Ao14, co14, eo14⟩ := Kd.R_slice HO164.out; subst eo14; have p169 : 0 ≤ (4 : Int) := (by omega); have q169 : 4 < (t162.length : Int) := of_decide_eq_true (by first | (with_reducible assumption) | assumption); obtain ⟨ad169, e169, hx169_0, hx169_1, hx169_2, hx169_3⟩ := at_T36 (Kd.R_reads' HO164.out).2.2 4 p169 q169; cases e169; (try simp only [show (4 : Int).toNat = 4 from rfl, Nat.reduceMul, Nat.reduceEqDiff, Go.Addr.add, ↓reduceIte] at hx169_0); (try simp only [show (4 : Int).toNat = 4 from rfl, Nat.reduceMul, Nat.reduceEqDiff, Go.Addr.add, ↓reduceIte] at hx169_1); (try simp only [show (4 : Int).toNat = 4 from rfl, Nat.reduceMul, Nat.reduceEqDiff, Go.Addr.add, ↓reduceIte] at hx169_2); (try simp only [show (4 : Int).toNat = 4 from rfl, Nat.reduceMul, Nat.reduceEqDiff, Go.Addr.add, ↓reduceIte] at hx169_3); have qi169 : (4 < t162.length) = True := eq_true (by omega); (try rw [show ((4 : Int)).toNat = 4 from rfl] at hx169_0); (try rw [show 4 * 4 = 16 from rfl] at hx169_0); (try rw [show ((4 : Int)).toNat = 4 from rfl] at hx169_1); (try rw [show 4 * 4 = 16 from rfl] at hx169_1); (try rw [show ((4 : Int)).toNat = 4 from rfl] at hx169_2); (try rw [show 4 * 4 = 16 from rfl] at hx169_2); (try rw [show ((4 : Int)).toNat = 4 from rfl] at hx169_3); (try rw [show 4 * 4 = 16 from rfl] at hx169_3); have hn169_0 : ad169.block ≠ gb168 := Kd.own_blk (Kd.R_ne HO164.out BK168.out (by decide)); have hn169_1 : ad169.block ≠ gb168 := Kd.own_blk (Kd.R_ne HO164.out BK168.out (by decide)); replace hx169_0 := (cell_far (p := ⟨gb168, 0, none⟩) (by first | (rw [add_block]; exact hn169_0) | (show (Addr.add _ _).block ≠ _; rw [add_block]; exact hn169_0) | exact hn169_0) (.int .i64 t166)).trans hx169_0; replace hx169_1 := (cell_far (p := ⟨gb168, 0, none⟩) (by first | (rw [add_block]; exact hn169_0) | (show (Addr.add _ _).block ≠ _; rw [add_block]; exact hn169_0) | exact hn169_0) (.int .i64 t166)).trans hx169_1; replace hx169_2 := (cell_far (p := ⟨gb168, 0, none⟩) (by first | (rw [add_block]; exact hn169_0) | (show (Addr.add _ _).block ≠ _; rw [add_block]; exact hn169_0) | exact hn169_0) (.int .i64 t166)).trans hx169_2; replace hx169_3 := (cell_far (p := ⟨gb168, 0, none⟩) (by first | (rw [add_block]; exact hn169_0) | (show (Addr.add _ _).block ≠ _; rw [add_block]; exact hn169_0) | exact hn169_0) (.int .i64 t166)).trans hx169_3; replace hx169_0 := (cell_far (p := ⟨gb168, 1, none⟩) (by first | (rw [add_block]; exact hn169_1) | (show (Addr.add _ _).block ≠ _; rw [add_block]; exact hn169_1) | exact hn169_1) (.int .i64 t167)).trans hx169_0; replace hx169_1 := (cell_far (p := ⟨gb168, 1, none⟩) (by first | (rw [add_block]; exact hn169_1) | (show (Addr.add _ _).block ≠ _; rw [add_block]; exact hn169_1) | exact hn169_1) (.int .i64 t167)).trans hx169_1; replace hx169_2 := (cell_far (p := ⟨gb168, 1, none⟩) (by first | (rw [add_block]; exact hn169_1) | (show (Addr.add _ _).block ≠ _; rw [add_block]; exact hn169_1) | exact hn169_1) (.int .i64 t167)).trans hx169_2; replace hx169_3 := (cell_far (p := ⟨gb168, 1, none⟩) (by first | (rw [add_block]; exact hn169_1) | (show (Addr.add _ _).block ≠ _; rw [add_block]; exact hn169_1) | exact hn169_1) (.int .i64 t167)).trans hx169_3; clear hn169_0; clear hn169_1; replace p169 := eq_true p169; replace q169 := eq_true q169))
            go_ret
            exact ⟨by first | rfl | (simp [errW_none, errW_some] <;> rfl) | (simp [*, errW_none, errW_some] <;> rfl), by repeat (first | (with_reducible first | exact HB.out | apply below_alloc | apply pw_below_drewN | apply below_drew1 | refine below_set ?_ GE168.out) | exact HB.out)⟩
        · rw [if_neg c5] at H
          exact absurd H (by simp)
      · rw [if_neg c4] at H
        have c4b0 : (t166 == 0 && (t167 == 0)) = false := by simpa using c4
        (try (have c4b1 : decide (t166 = 0 && (t167 == 0)) = false := by simpa using c4))
        (try (have c4b2 : (t166 == 0 && (t167 == 0)) = false := by simpa using c4))
        (try (have c4b3 : ¬ (t166 = 0 && (t167 == 0)) := by simpa using c4))
        clear c4
        obtain rfl := Option.some.inj H
        go_enter Tryd.func4, Tryd.ntmps4
        go_wp2_with (first | ((with_reducible refine gate_callee (f := 9) rfl ?_); refine goesL_ (some 5) rfl rfl Tryd.func9 (by kernel_rfl) rfl #[.string (⟨#[64, 49, 50, 32, 112, 40, 34, 97, 34, 44, 45, 51, 41]⟩ : ByteArray)] rfl (by (try simp only [List.map_toArray, List.map_cons, List.map_nil]); first | done | rfl | (simp only [List.length_drop, List.length_take]; rfl) | (refine congrArg (fun z_ => #[z_]) (congrArg (Value.int IntKind.u64) (Eq.symm (Go.Proofs.YtjfklfmfeghjnacDoorAid.wrap_len _ (by omega)))))) ?_; (with_reducible refine (lex_Lex.calls k (⟨#[64, 49, 50, 32, 112, 40, 34, 97, 34, 44, 45, 51, 41]⟩ : ByteArray) t162 t165 t166 t167 _ A1.out).mono ?_); rintro e w15 ⟨v163, rfl, ho0, hb⟩; refine ⟨_, rfl, ?_⟩; have n0_ := Aside0.mk (Kd.R_lower ho0 (below_size (by repeat (first | (with_reducible first | exact HB.out | apply below_alloc | apply pw_below_drewN | apply below_drew1) | exact HB.out)))); have n1_ := Aside0.mk (below_step (by repeat (first | (with_reducible first | exact HB.out | apply below_alloc | apply pw_below_drewN | apply below_drew1) | exact HB.out)) hb); clear HB; have HO164 := n0_; have HB := n1_; clear n0_ n1_; (try clear hb); (try clear hb2); (try clear hk); (try clear hi); (try clear ho0)) | ((with_reducible refine gate_dst (N := 3) rfl ?_); (try (refine gate_guard (by rfl) ?_; dsimp only)); refine box_event ?hg (N := 3) ?hd (cs := #[.int .i64 0, .int .i64 0]) (t := 32) ?hr ?_; (case hd => rfl); (case hg => rfl); (case hr => first | (go_simp; done) | (go_simp; rfl)); intro gb168 hg w16 hbox hb; have n0_ := Aside0.mk (Kd.R_below (by (with_reducible repeat (first | apply Kd.R_alloc | apply Kd.R_drewN | apply Kd.R_drew)); exact HO164.out) hb); have n1_ := Aside0.mk (below_step (by repeat (first | (with_reducible first | exact HB.out | apply below_alloc | apply pw_below_drewN | apply below_drew1) | exact HB.out)) hb); have n2_ := Aside0.mk (hbox); have n3_ := Aside0.mk ((by rw [hg]; exact (below_size (by repeat (first | (with_reducible first | exact HB.out | apply below_alloc | apply pw_below_drewN | apply below_drew1) | exact HB.out))) : w.heap.size ≤ gb168)); have n4_ := Aside0.mk ((by rw [hg]; exact (below_size (by repeat (first | (with_reducible first | exact HB.out | apply below_alloc | apply pw_below_drewN | apply below_drew1) | exact HB.out))) : w.heap.size ≤ gb168)); clear HO164; clear HB; have HO164 := n0_; have HB := n1_; have BK168 := n2_; have GW168 := n3_; have GE168 := n4_; clear n0_ n1_ n2_ n3_ n4_; clear hb hbox hg; have hcz17_0 : w16.cell? ⟨gb168, 0, none⟩ = some (.int .i64 0) := (blk_cell BK168.out 0).trans rfl; have hcz17_1 : w16.cell? ⟨gb168, 1, none⟩ = some (.int .i64 0) := (blk_cell BK168.out 1).trans rfl; have hfz17_0 := blk_frozen BK168.out 0; have hfz17_1 := blk_frozen BK168.out 1; obtain ⟨Ao18, co18, eo18⟩ := Kd.R_slice HO164.out; subst eo18))
        go_ret
        exact ⟨by first | rfl | (simp [errW_none, errW_some] <;> rfl) | (simp [*, errW_none, errW_some] <;> rfl), by repeat (first | (with_reducible first | exact HB.out | apply below_alloc | apply pw_below_drewN | apply below_drew1 | refine below_set ?_ GE168.out) | exact HB.out)⟩
    · rw [if_neg c3] at H
      have c3b0 : ((t162.length : Int) == 8) = false := beq_eq_false_iff_ne.mpr c3
      have c3b1 : ((t162.length : Int) != 8) = true := bne_iff_ne.mpr c3
      obtain rfl := Option.some.inj H
      go_enter Tryd.func4, Tryd.ntmps4
      go_wp2_with (first | ((with_reducible refine gate_callee (f := 9) rfl ?_); refine goesL_ (some 5) rfl rfl Tryd.func9 (by kernel_rfl) rfl #[.string (⟨#[64, 49, 50, 32, 112, 40, 34, 97, 34, 44, 45, 51, 41]⟩ : ByteArray)] rfl (by (try simp only [List.map_toArray, List.map_cons, List.map_nil]); first | done | rfl | (simp only [List.length_drop, List.length_take]; rfl) | (refine congrArg (fun z_ => #[z_]) (congrArg (Value.int IntKind.u64) (Eq.symm (Go.Proofs.YtjfklfmfeghjnacDoorAid.wrap_len _ (by omega)))))) ?_; (with_reducible refine (lex_Lex.calls k (⟨#[64, 49, 50, 32, 112, 40, 34, 97, 34, 44, 45, 51, 41]⟩ : ByteArray) t162 t165 t166 t167 _ A1.out).mono ?_); rintro e w19 ⟨v163, rfl, ho0, hb⟩; refine ⟨_, rfl, ?_⟩; have n0_ := Aside0.mk (Kd.R_lower ho0 (below_size (by repeat (first | (with_reducible first | exact HB.out | apply below_alloc | apply pw_below_drewN | apply below_drew1) | exact HB.out)))); have n1_ := Aside0.mk (below_step (by repeat (first | (with_reducible first | exact HB.out | apply below_alloc | apply pw_below_drewN | apply below_drew1) | exact HB.out)) hb); clear HB; have HO164 := n0_; have HB := n1_; clear n0_ n1_; (try clear hb); (try clear hb2); (try clear hk); (try clear hi); (try clear ho0)) | ((with_reducible refine gate_dst (N := 3) rfl ?_); (try (refine gate_guard (by rfl) ?_; dsimp only)); refine box_event ?hg (N := 3) ?hd (cs := #[.int .i64 0, .int .i64 0]) (t := 32) ?hr ?_; (case hd => rfl); (case hg => rfl); (case hr => first | (go_simp; done) | (go_simp; rfl)); intro gb168 hg w20 hbox hb; have n0_ := Aside0.mk (Kd.R_below (by (with_reducible repeat (first | apply Kd.R_alloc | apply Kd.R_drewN | apply Kd.R_drew)); exact HO164.out) hb); have n1_ := Aside0.mk (below_step (by repeat (first | (with_reducible first | exact HB.out | apply below_alloc | apply pw_below_drewN | apply below_drew1) | exact HB.out)) hb); have n2_ := Aside0.mk (hbox); have n3_ := Aside0.mk ((by rw [hg]; exact (below_size (by repeat (first | (with_reducible first | exact HB.out | apply below_alloc | apply pw_below_drewN | apply below_drew1) | exact HB.out))) : w.heap.size ≤ gb168)); have n4_ := Aside0.mk ((by rw [hg]; exact (below_size (by repeat (first | (with_reducible first | exact HB.out | apply below_alloc | apply pw_below_drewN | apply below_drew1) | exact HB.out))) : w.heap.size ≤ gb168)); clear HO164; clear HB; have HO164 := n0_; have HB := n1_; have BK168 := n2_; have GW168 := n3_; have GE168 := n4_; clear n0_ n1_ n2_ n3_ n4_; clear hb hbox hg; have hcz21_0 : w20.cell? ⟨gb168, 0, none⟩ = some (.int .i64 0) := (blk_cell BK168.out 0).trans rfl; have hcz21_1 : w20.cell? ⟨gb168, 1, none⟩ = some (.int .i64 0) := (blk_cell BK168.out 1).trans rfl; have hfz21_0 := blk_frozen BK168.out 0; have hfz21_1 := blk_frozen BK168.out 1; obtain ⟨Ao22, co22, eo22⟩ := Kd.R_slice HO164.out; subst eo22))
      go_ret
      exact ⟨by first | rfl | (simp [errW_none, errW_some] <;> rfl) | (simp [*, errW_none, errW_some] <;> rfl), by repeat (first | (with_reducible first | exact HB.out | apply below_alloc | apply pw_below_drewN | apply below_drew1 | refine below_set ?_ GE168.out) | exact HB.out)⟩
  · rw [if_neg c2] at H
    have c2b0 : (t165 == 0) = false := beq_eq_false_iff_ne.mpr c2
    have c2b1 : (t165 != 0) = true := bne_iff_ne.mpr c2
    obtain rfl := Option.some.inj H
    go_enter Tryd.func4, Tryd.ntmps4
    go_wp2_with (first | ((with_reducible refine gate_callee (f := 9) rfl ?_); refine goesL_ (some 5) rfl rfl Tryd.func9 (by kernel_rfl) rfl #[.string (⟨#[64, 49, 50, 32, 112, 40, 34, 97, 34, 44, 45, 51, 41]⟩ : ByteArray)] rfl (by (try simp only [List.map_toArray, List.map_cons, List.map_nil]); first | done | rfl | (simp only [List.length_drop, List.length_take]; rfl) | (refine congrArg (fun z_ => #[z_]) (congrArg (Value.int IntKind.u64) (Eq.symm (Go.Proofs.YtjfklfmfeghjnacDoorAid.wrap_len _ (by omega)))))) ?_; (with_reducible refine (lex_Lex.calls k (⟨#[64, 49, 50, 32, 112, 40, 34, 97, 34, 44, 45, 51, 41]⟩ : ByteArray) t162 t165 t166 t167 _ A1.out).mono ?_); rintro e w23 ⟨v163, rfl, ho0, hb⟩; refine ⟨_, rfl, ?_⟩; have n0_ := Aside0.mk (Kd.R_lower ho0 (below_size (by repeat (first | (with_reducible first | exact HB.out | apply below_alloc | apply pw_below_drewN | apply below_drew1) | exact HB.out)))); have n1_ := Aside0.mk (below_step (by repeat (first | (with_reducible first | exact HB.out | apply below_alloc | apply pw_below_drewN | apply below_drew1) | exact HB.out)) hb); clear HB; have HO164 := n0_; have HB := n1_; clear n0_ n1_; (try clear hb); (try clear hb2); (try clear hk); (try clear hi); (try clear ho0)) | ((with_reducible refine gate_dst (N := 3) rfl ?_); (try (refine gate_guard (by rfl) ?_; dsimp only)); refine box_event ?hg (N := 3) ?hd (cs := #[.int .i64 0, .int .i64 0]) (t := 32) ?hr ?_; (case hd => rfl); (case hg => rfl); (case hr => first | (go_simp; done) | (go_simp; rfl)); intro gb168 hg w24 hbox hb; have n0_ := Aside0.mk (Kd.R_below (by (with_reducible repeat (first | apply Kd.R_alloc | apply Kd.R_drewN | apply Kd.R_drew)); exact HO164.out) hb); have n1_ := Aside0.mk (below_step (by repeat (first | (with_reducible first | exact HB.out | apply below_alloc | apply pw_below_drewN | apply below_drew1) | exact HB.out)) hb); have n2_ := Aside0.mk (hbox); have n3_ := Aside0.mk ((by rw [hg]; exact (below_size (by repeat (first | (with_reducible first | exact HB.out | apply below_alloc | apply pw_below_drewN | apply below_drew1) | exact HB.out))) : w.heap.size ≤ gb168)); have n4_ := Aside0.mk ((by rw [hg]; exact (below_size (by repeat (first | (with_reducible first | exact HB.out | apply below_alloc | apply pw_below_drewN | apply below_drew1) | exact HB.out))) : w.heap.size ≤ gb168)); clear HO164; clear HB; have HO164 := n0_; have HB := n1_; have BK168 := n2_; have GW168 := n3_; have GE168 := n4_; clear n0_ n1_ n2_ n3_ n4_; clear hb hbox hg; have hcz25_0 : w24.cell? ⟨gb168, 0, none⟩ = some (.int .i64 0) := (blk_cell BK168.out 0).trans rfl; have hcz25_1 : w24.cell? ⟨gb168, 1, none⟩ = some (.int .i64 0) := (blk_cell BK168.out 1).trans rfl; have hfz25_0 := blk_frozen BK168.out 0; have hfz25_1 := blk_frozen BK168.out 1))
    go_ret
    exact ⟨by first | rfl | (simp [errW_none, errW_some] <;> rfl) | (simp [*, errW_none, errW_some] <;> rfl), by repeat (first | (with_reducible first | exact HB.out | apply below_alloc | apply pw_below_drewN | apply below_drew1 | refine below_set ?_ GE168.out) | exact HB.out)⟩

-- NOT PRINTED: function 38 (strconv_lower)

-- NOT PRINTED: function 39 (strconv_underscoreOK)

-- NOT PRINTED: function 24 (strconv_ParseUint_24)

-- NOT PRINTED: function 22 (strconv_ParseInt_22)

-- NOT PRINTED: function 51 (stringslite_Clone)

-- NOT PRINTED: function 34 (strconv_syntaxError)

-- NOT PRINTED: function 35 (strconv_rangeError)

-- NOT PRINTED: function 52 (errors_New)

-- NOT PRINTED: function 63 (strconv_small)

-- NOT PRINTED: function 67 (strconv_log10Pow2)

-- NOT PRINTED: function 68 (bits_Len64)

-- NOT PRINTED: function 69 (strconv_bool2_int)

-- NOT PRINTED: function 64 (strconv_numDigits)

-- NOT PRINTED: function 65 (strconv_formatBase10)

-- NOT PRINTED: function 70 (strconv_isPowerOfTwo)

-- NOT PRINTED: function 72 (bits_TrailingZeros32)

-- NOT PRINTED: function 73 (bits_TrailingZeros64)

-- NOT PRINTED: function 71 (bits_TrailingZeros)

-- NOT PRINTED: function 66 (strconv_formatBits)

-- NOT PRINTED: function 61 (strconv_FormatInt)

-- NOT PRINTED: function 57 (strconv_Itoa_57)

-- NOT PRINTED: function 53 (strconv_Itoa_53)

-- NOT PRINTED: function 36 (strconv_baseError)

-- NOT PRINTED: function 37 (strconv_bitSizeError)

-- NOT PRINTED: function 23 (strconv_toError)

-- NOT PRINTED: function 11 (strconv_ParseInt_11)

end Go.Proofs.YtjfklfmfeghjnacDoor.PN
