-- Contracts of Go functions, each with its plain Lean function: written by wip/tools/myprint.py of this work (the kit's print, with contracts proved by hand spliced in).
import Derived.Test.YtjfklfmfeghjnabPDx0
import Derived.Test.YtjfklfmfeghjnabPDx1
namespace Go.Proofs.Ytjfklfmfeghjnab.PD
open Go.RowKit Go.Proofs.YtjfklfmfeghjnabW.PrintWords Go.Proofs.YtjfklfmfeghjnabW.PrintLast Go.Proofs.YtjfklfmfeghjnabW.PrintMore
attribute [local go_sem] max2_int min2_int max_two min_two max_three min_three max_four min_four   -- for this text's walks alone
set_option linter.unusedVariables false
set_option linter.unusedSimpArgs false

/-! ### tachographlaw13_DictPlays: function 3 -/
mutual
def tachographlaw13_DictPlays.j0 : Nat → List ByteArray → ByteArray → Int → Bool → Option (Bool)
  | 0, _, _, _, _ => none
  | k + 1, x0, x1, x2, x27 => if x27 = true then ((tachographlaw13_fixed.f).bind fun t122 => (some t122)) else ((dict_New.f).bind fun t123 => (tachographlaw13_DictPlays.l0 k x1 x2 (([] : List ByteArray)) x0 (x0.length : Int) 0 t123))
def tachographlaw13_DictPlays.l0 : Nat → ByteArray → Int → List ByteArray → List ByteArray → Int → Int → ByteArray → Option (Bool)
  | 0, _, _, _, _, _, _, _ => none
  | k + 1, x1, x2, x8, x33, x34, x35, x125000 => if x35 < x34 then (if 0 ≤ x35 then (if x35 < (x33.length : Int) then (if ((rdOf ByteArray.empty x33 x35).size : Int) > 300 then ((tachographlaw13_fixed.f).bind fun t129 => (some t129)) else ((tachographref13_Put.f k x8 (rdOf ByteArray.empty x33 x35)).bind fun bt130 => ((dict_Dict_Put.f x125000 (rdOf ByteArray.empty x33 x35)).bind fun bt134 => (if bt134.1 = bt130.2 then (tachographlaw13_DictPlays.l0 k x1 x2 bt130.1 x33 x34 (wrap64 (x35 + 1)) bt134.2) else (some false))))) else (none)) else (none)) else ((dict_Dict_All.f x125000).bind fun bt136 => ((tachographref02_Same.f k bt136.1 x8).bind fun t140 => (if t140 = true then (tachographlaw13_DictPlays.l1 k x1 x2 x8 bt136.1 (bt136.1.length : Int) 0 bt136.2) else (some false))))
def tachographlaw13_DictPlays.l1 : Nat → ByteArray → Int → List ByteArray → List ByteArray → Int → Int → ByteArray → Option (Bool)
  | 0, _, _, _, _, _, _, _ => none
  | k + 1, x1, x2, x8, x13, x63, x64, x125000 => if x64 < x63 then (if 0 ≤ x64 then (if x64 < (x13.length : Int) then (if (rdOf ByteArray.empty x13 x64).size + 1 ≤ 9223372036854775807 then (tachographlaw13_DictPlays.l1 k x1 x2 x8 (x13.set (x64 : Int).toNat ((rdOf ByteArray.empty x13 x64) ++ (⟨#[33]⟩ : ByteArray))) x63 (wrap64 (x64 + 1)) x125000) else (none)) else (none)) else (none)) else ((dict_Dict_Find.f x125000 x1).bind fun bt143 => ((tachographref13_Place.f k x8 x1).bind fun t146 => ((dict_Dict_Text.f bt143.2.2 x2).bind fun bt147 => (if x2 < 0 then (tachographlaw13_DictPlays.j3 k x2 x8 bt143.1 bt143.2.1 t146 bt147.1 bt147.2.1 true) else (tachographlaw13_DictPlays.j3 k x2 x8 bt143.1 bt143.2.1 t146 bt147.1 bt147.2.1 (decide (x2 ≥ (x8.length : Int))))))))
def tachographlaw13_DictPlays.j3 : Nat → Int → List ByteArray → Int → Bool → Int → ByteArray → Bool → Bool → Option (Bool)
  | 0, _, _, _, _, _, _, _, _ => none
  | k + 1, x2, x8, x15, x16, x17, x18, x19, x96 => if x96 = true then ((tachographlaw13_fixed.f).bind fun t150 => (if t150 = true then (if x18.toList = ([] : List UInt8) then (if x19 = true then (some false) else (if x15 = (mx x17 0) then (some (x16 == (decide (x17 ≥ 0)))) else (some false))) else (some false)) else (some false))) else ((tachographlaw13_fixed.f).bind fun t151 => (if t151 = true then (if 0 ≤ x2 then (if x2 < (x8.length : Int) then (if x18.toList = (rdOf ByteArray.empty x8 x2).toList then (if x19 = true then (if x15 = (mx x17 0) then (some (x16 == (decide (x17 ≥ 0)))) else (some false)) else (some false)) else (some false)) else (none)) else (none)) else (some false)))
end
def tachographlaw13_DictPlays.f (k : Nat) (l0 : List ByteArray) (a1 : ByteArray) (a2 : Int) : Option (Bool) := if (l0.length : Int) > 200 then (tachographlaw13_DictPlays.j0 k l0 a1 a2 true) else (tachographlaw13_DictPlays.j0 k l0 a1 a2 (decide ((a1.size : Int) > 300)))
theorem tachographlaw13_DictPlays.mono_l : ∀ k, (∀ y0 y1 y2 y3, LeO (tachographlaw13_DictPlays.j0 k y0 y1 y2 y3) (tachographlaw13_DictPlays.j0 (k + 1) y0 y1 y2 y3)) ∧ (∀ y0 y1 y2 y3 y4 y5 y6, LeO (tachographlaw13_DictPlays.l0 k y0 y1 y2 y3 y4 y5 y6) (tachographlaw13_DictPlays.l0 (k + 1) y0 y1 y2 y3 y4 y5 y6)) ∧ (∀ y0 y1 y2 y3 y4 y5 y6, LeO (tachographlaw13_DictPlays.l1 k y0 y1 y2 y3 y4 y5 y6) (tachographlaw13_DictPlays.l1 (k + 1) y0 y1 y2 y3 y4 y5 y6)) ∧ (∀ y0 y1 y2 y3 y4 y5 y6 y7, LeO (tachographlaw13_DictPlays.j3 k y0 y1 y2 y3 y4 y5 y6 y7) (tachographlaw13_DictPlays.j3 (k + 1) y0 y1 y2 y3 y4 y5 y6 y7))
  | 0 => ⟨fun _ _ _ _ r h => by simp [tachographlaw13_DictPlays.j0] at h, fun _ _ _ _ _ _ _ r h => by simp [tachographlaw13_DictPlays.l0] at h, fun _ _ _ _ _ _ _ r h => by simp [tachographlaw13_DictPlays.l1] at h, fun _ _ _ _ _ _ _ _ r h => by simp [tachographlaw13_DictPlays.j3] at h⟩
  | k + 1 => by
    obtain ⟨ih0, ih1, ih2, ih3⟩ := tachographlaw13_DictPlays.mono_l k
    refine ⟨?_, ?_, ?_, ?_⟩
    · intro y0 y1 y2 y3
      unfold tachographlaw13_DictPlays.j0
      repeat' first
      | (with_reducible exact ih0 _ _ _ _)
      | (with_reducible exact ih1 _ _ _ _ _ _ _)
      | (with_reducible exact ih2 _ _ _ _ _ _ _)
      | (with_reducible exact ih3 _ _ _ _ _ _ _ _)
      | (with_reducible exact tachographref02_Same.mono _ _ _)
      | (with_reducible exact tachographref13_Place.mono _ _ _)
      | (with_reducible exact tachographref13_Put.mono _ _ _)
      | (with_reducible exact LeO.refl _)
      | (with_reducible exact LeO.none _)
      | (with_reducible refine LeO.ite ?_ ?_)
      | (with_reducible refine LeO.bind ?_ (fun _ => ?_))
      | exact ih0 _ _ _ _
      | exact ih1 _ _ _ _ _ _ _
      | exact ih2 _ _ _ _ _ _ _
      | exact ih3 _ _ _ _ _ _ _ _
      | exact tachographref02_Same.mono _ _ _
      | exact tachographref13_Place.mono _ _ _
      | exact tachographref13_Put.mono _ _ _
      | exact LeO.none _
      | refine LeO.ite ?_ ?_
      | refine LeO.bind ?_ (fun _ => ?_)
    · intro y0 y1 y2 y3 y4 y5 y6
      unfold tachographlaw13_DictPlays.l0
      repeat' first
      | (with_reducible exact ih0 _ _ _ _)
      | (with_reducible exact ih1 _ _ _ _ _ _ _)
      | (with_reducible exact ih2 _ _ _ _ _ _ _)
      | (with_reducible exact ih3 _ _ _ _ _ _ _ _)
      | (with_reducible exact tachographref02_Same.mono _ _ _)
      | (with_reducible exact tachographref13_Place.mono _ _ _)
      | (with_reducible exact tachographref13_Put.mono _ _ _)
      | (with_reducible exact LeO.refl _)
      | (with_reducible exact LeO.none _)
      | (with_reducible refine LeO.ite ?_ ?_)
      | (with_reducible refine LeO.bind ?_ (fun _ => ?_))
      | exact ih0 _ _ _ _
      | exact ih1 _ _ _ _ _ _ _
      | exact ih2 _ _ _ _ _ _ _
      | exact ih3 _ _ _ _ _ _ _ _
      | exact tachographref02_Same.mono _ _ _
      | exact tachographref13_Place.mono _ _ _
      | exact tachographref13_Put.mono _ _ _
      | exact LeO.none _
      | refine LeO.ite ?_ ?_
      | refine LeO.bind ?_ (fun _ => ?_)
    · intro y0 y1 y2 y3 y4 y5 y6
      unfold tachographlaw13_DictPlays.l1
      repeat' first
      | (with_reducible exact ih0 _ _ _ _)
      | (with_reducible exact ih1 _ _ _ _ _ _ _)
      | (with_reducible exact ih2 _ _ _ _ _ _ _)
      | (with_reducible exact ih3 _ _ _ _ _ _ _ _)
      | (with_reducible exact tachographref02_Same.mono _ _ _)
      | (with_reducible exact tachographref13_Place.mono _ _ _)
      | (with_reducible exact tachographref13_Put.mono _ _ _)
      | (with_reducible exact LeO.refl _)
      | (with_reducible exact LeO.none _)
      | (with_reducible refine LeO.ite ?_ ?_)
      | (with_reducible refine LeO.bind ?_ (fun _ => ?_))
      | exact ih0 _ _ _ _
      | exact ih1 _ _ _ _ _ _ _
      | exact ih2 _ _ _ _ _ _ _
      | exact ih3 _ _ _ _ _ _ _ _
      | exact tachographref02_Same.mono _ _ _
      | exact tachographref13_Place.mono _ _ _
      | exact tachographref13_Put.mono _ _ _
      | exact LeO.none _
      | refine LeO.ite ?_ ?_
      | refine LeO.bind ?_ (fun _ => ?_)
    · intro y0 y1 y2 y3 y4 y5 y6 y7
      unfold tachographlaw13_DictPlays.j3
      repeat' first
      | (with_reducible exact ih0 _ _ _ _)
      | (with_reducible exact ih1 _ _ _ _ _ _ _)
      | (with_reducible exact ih2 _ _ _ _ _ _ _)
      | (with_reducible exact ih3 _ _ _ _ _ _ _ _)
      | (with_reducible exact tachographref02_Same.mono _ _ _)
      | (with_reducible exact tachographref13_Place.mono _ _ _)
      | (with_reducible exact tachographref13_Put.mono _ _ _)
      | (with_reducible exact LeO.refl _)
      | (with_reducible exact LeO.none _)
      | (with_reducible refine LeO.ite ?_ ?_)
      | (with_reducible refine LeO.bind ?_ (fun _ => ?_))
      | exact ih0 _ _ _ _
      | exact ih1 _ _ _ _ _ _ _
      | exact ih2 _ _ _ _ _ _ _
      | exact ih3 _ _ _ _ _ _ _ _
      | exact tachographref02_Same.mono _ _ _
      | exact tachographref13_Place.mono _ _ _
      | exact tachographref13_Put.mono _ _ _
      | exact LeO.none _
      | refine LeO.ite ?_ ?_
      | refine LeO.bind ?_ (fun _ => ?_)
theorem tachographlaw13_DictPlays.mono : ∀ a0 a1 a2 k, LeO (tachographlaw13_DictPlays.f k a0 a1 a2) (tachographlaw13_DictPlays.f (k + 1) a0 a1 a2) := by
  intro a0 a1 a2 k
  obtain ⟨ih0, ih1, ih2, ih3⟩ := tachographlaw13_DictPlays.mono_l k
  unfold tachographlaw13_DictPlays.f
  repeat' first
      | (with_reducible exact ih0 _ _ _ _)
      | (with_reducible exact ih1 _ _ _ _ _ _ _)
      | (with_reducible exact ih2 _ _ _ _ _ _ _)
      | (with_reducible exact ih3 _ _ _ _ _ _ _ _)
      | (with_reducible exact tachographref02_Same.mono _ _ _)
      | (with_reducible exact tachographref13_Place.mono _ _ _)
      | (with_reducible exact tachographref13_Put.mono _ _ _)
      | (with_reducible exact LeO.refl _)
      | (with_reducible exact LeO.none _)
      | (with_reducible refine LeO.ite ?_ ?_)
      | (with_reducible refine LeO.bind ?_ (fun _ => ?_))
      | exact ih0 _ _ _ _
      | exact ih1 _ _ _ _ _ _ _
      | exact ih2 _ _ _ _ _ _ _
      | exact ih3 _ _ _ _ _ _ _ _
      | exact tachographref02_Same.mono _ _ _
      | exact tachographref13_Place.mono _ _ _
      | exact tachographref13_Put.mono _ _ _
      | exact LeO.none _
      | refine LeO.ite ?_ ?_
      | refine LeO.bind ?_ (fun _ => ?_)
set_option maxHeartbeats 8000000 in
set_option maxRecDepth 100000 in
theorem tachographlaw13_DictPlays.calls (k : Nat) (A0 : Option Addr) (c0 : Nat) (l0 : List ByteArray) (a1 : ByteArray) (a2 : Int) (r : Bool) (w : World) (hr0 : Kd.C Kd.string w A0 l0.length l0) (hc0 : l0.length ≤ c0) (h : tachographlaw13_DictPlays.f k l0 a1 a2 = some r) :
    Calls Try.prog 3 #[.slice A0 l0.length c0, .string a1, .int .i64 a2] w fun e w' => e = .returned (.bool r) ∧ Below w.heap.size w w' := by
  have HR0 := Aside0.mk hr0
  have HC0 := Aside0.mk hc0
  clear hr0 hc0
  have HB := Aside0.mk (Below.refl w.heap.size w)
  have H : (if (l0.length : Int) > 200 then (tachographlaw13_DictPlays.j0 k l0 a1 a2 true) else (tachographlaw13_DictPlays.j0 k l0 a1 a2 (decide ((a1.size : Int) > 300)))) = some r := h
  clear h
  have HC4 := Aside0.mk H
  clear H
  go_enter Try.func3, Try.ntmps3
  go_upto_region 1 with (fail)
  go_cut [27] (fun v27 wc => ∃ (kq : Nat) (x27_3 : Bool), v27 = .bool x27_3 ∧ Aside0 (tachographlaw13_DictPlays.j0 kq l0 a1 a2 x27_3 = some r) ∧ Aside0 (kq ≤ k) ∧ Aside0 (Below w.heap.size w wc))
  case first =>
    have H := HC4.out
    clear HC4
    by_cases c5 : (l0.length : Int) > 200
    · rw [if_pos c5] at H
      have c5b0 : decide (200 < (l0.length : Int)) = true := decide_eq_true c5
      have c5b1 : decide (200 < l0.length) = true := decide_eq_true (by omega)
      clear c5
      (first | rw [c5b0] | (simp only [i64_w, i32_w]; rw [c5b0]) | skip)
      have H' := Aside0.mk H
      clear H
      go_wp2
      go_meet
      case rel => exact ⟨_, (true), (by first | rfl | (simp; done) | (simp [*]; done)), H', ⟨by first | omega | exact Nat.le_refl _⟩, ⟨by repeat (first | (with_reducible first | exact HB.out | apply below_alloc | apply pw_below_drewN | apply below_drew1) | exact HB.out)⟩⟩
    · rw [if_neg c5] at H
      have c5b0 : decide (200 < (l0.length : Int)) = false := decide_eq_false c5
      have c5b1 : decide (200 < l0.length) = false := decide_eq_false (by omega)
      clear c5
      (first | rw [c5b0] | (simp only [i64_w, i32_w]; rw [c5b0]) | skip)
      have H' := Aside0.mk H
      clear H
      go_wp2
      go_meet
      case rel => exact ⟨_, (decide ((a1.size : Int) > 300)), (by first | rfl | (simp; done) | (simp [*]; done)), H', ⟨by first | omega | exact Nat.le_refl _⟩, ⟨by repeat (first | (with_reducible first | exact HB.out | apply below_alloc | apply pw_below_drewN | apply below_drew1) | exact HB.out)⟩⟩
  case rest =>
    clear HC4
    try clear p2
    try clear c3
    try clear c5
    try clear c5b0
    try clear c5b1
    obtain ⟨kq, x27_3, rfl, HA, HJ3, HB⟩ := hcut
    cases kq with
    | zero => exact absurd HA.out (by simp [tachographlaw13_DictPlays.j0])
    | succ kj3 =>
      have H := HA.out
      clear HA
      simp only [tachographlaw13_DictPlays.j0] at H
      by_cases c6 : x27_3 = true
      · subst c6
        have H1 : ((tachographlaw13_fixed.f).bind fun t122 => (some t122)) = some r := by rw [if_pos rfl] at H; exact H
        clear H
        have H := H1
        clear H1
        replace H := Option.bind_eq_some_iff.mp H
        obtain ⟨t122, A70, H⟩ := H
        replace H : (some t122) = some r := H
        have A7 := Aside0.mk A70
        clear A70
        obtain rfl := Option.some.inj H
        go_wp2_with (first | ((with_reducible refine gate_callee (f := 15) rfl ?_); refine goesL_ (some 28) rfl rfl Try.func15 (by kernel_rfl) rfl #[] rfl (by (try simp only [List.map_toArray, List.map_cons, List.map_nil]); first | done | rfl | (simp only [List.length_drop, List.length_take]; rfl) | (refine congrArg (fun z_ => #[z_]) (congrArg (Value.int IntKind.u64) (Eq.symm (Go.Proofs.YtjfklfmfeghjnabAid.wrap_len _ (by omega)))))) ?_; (with_reducible refine (tachographlaw13_fixed.calls  t122 _ A7.out).mono ?_); rintro e w8 ⟨rfl, hb⟩; refine ⟨_, rfl, ?_⟩; have n0_ := Aside0.mk (below_step (by repeat (first | (with_reducible first | exact HB.out | apply below_alloc | apply pw_below_drewN | apply below_drew1) | exact HB.out)) hb); clear HB; have HB := n0_; clear n0_; (try clear hb); (try clear hb2); (try clear hk); (try clear hi)))
        go_ret
        exact ⟨by first | rfl | (simp [errW_none, errW_some] <;> rfl) | (simp [*, errW_none, errW_some] <;> rfl), by repeat (first | (with_reducible first | exact HB.out | apply below_alloc | apply pw_below_drewN | apply below_drew1) | exact HB.out)⟩
      · replace c6 := Bool.eq_false_iff.mpr c6
        subst c6
        have H1 : ((dict_New.f).bind fun t123 => (tachographlaw13_DictPlays.l0 kj3 a1 a2 (([] : List ByteArray)) l0 (l0.length : Int) 0 t123)) = some r := by rw [if_neg (show ¬ (false = true) by decide)] at H; exact H
        clear H
        have H := H1
        clear H1
        replace H := Option.bind_eq_some_iff.mp H
        obtain ⟨t123, A90, H⟩ := H
        replace H : (tachographlaw13_DictPlays.l0 kj3 a1 a2 (([] : List ByteArray)) l0 (l0.length : Int) 0 t123) = some r := H
        have A9 := Aside0.mk A90
        clear A90
        obtain ⟨y125, hy125⟩ : ∃ y_ : List ByteArray, y_ = (([] : List ByteArray)) := ⟨_, rfl⟩
        replace H : (tachographlaw13_DictPlays.l0 kj3 a1 a2 y125 l0 (l0.length : Int) 0 t123) = some r := by first | (rw [hy125]; with_reducible exact H) | (have H2_ := (Option.bind_some _ _).symm.trans H; rw [hy125]; with_reducible exact H2_) | (have H2_ := (Option.bind_some _ _).symm.trans H; with_reducible exact H2_) | with_reducible exact H | (rw [hy125]; exact H) | exact H
        have Ny125 := Aside0.mk hy125
        clear hy125
        have H' := Aside0.mk H
        clear H
        go_wp2_with (first | ((with_reducible refine gate_callee (f := 16) rfl ?_); refine goesL_ (some 29) rfl rfl Try.func16 (by kernel_rfl) rfl #[] rfl (by (try simp only [List.map_toArray, List.map_cons, List.map_nil]); first | done | rfl | (simp only [List.length_drop, List.length_take]; rfl) | (refine congrArg (fun z_ => #[z_]) (congrArg (Value.int IntKind.u64) (Eq.symm (Go.Proofs.YtjfklfmfeghjnabAid.wrap_len _ (by omega)))))) ?_; (with_reducible refine (dict_New.calls  t123 w _ ?side1 A9.out).mono ?_); (case side1 => repeat (first | (with_reducible first | exact HB.out | apply below_alloc | apply pw_below_drewN | apply below_drew1) | exact HB.out)); rintro e w10 ⟨g124, rfl, hi, hb, hb2⟩; refine ⟨_, rfl, ?_⟩; have n0_ := Aside0.mk (hb); have n1_ := Aside0.mk (hi); clear HB; have HB := n0_; have HI124 := n1_; clear n0_ n1_; (try clear hb); (try clear hb2); (try clear hk); (try clear hi)) | ((with_reducible refine gate_dst (N := 32) rfl ?_); (try (refine gate_guard (by rfl) ?_; dsimp only)); refine Kd.R_lit Kd.string _ 9 ?hg (N := 32) ?hd (xs := ([] : List ByteArray)) (inner := []) (ok := fun _ => True) (okp := fun _ => True) ?hr ?hp (fun _ hk => hk) trivial (Below.refl _ _) (Nat.le_refl _) (by simp) ?_; (case hd => rfl); (case hg => rfl); (case hr => first | (go_simp; done) | (go_simp; rfl)); (case hp => exact (Reps.none _ _)); intro v126 w11 ho12 hb hg_ hnew_; have HAn_ := Aside0.mk (show Go.Proofs.YtjfklfmfeghjnabAid.DAp w11 g124 v126 from (Go.Proofs.YtjfklfmfeghjnabAid.DAp.fresh (w0 := w) HI124.out (Kd.R_base ho12)).of_heap (hb.block _ (IsS100.lt HI124.out))); clear hg_ hnew_; (first | rw [← Ny125.out] at ho12 | (simp only [Int.reduceToNat] at ho12; rw [← Ny125.out] at ho12)); have n0_ := Aside0.mk (Kd.R_lower ho12 (below_size (by repeat (first | (with_reducible first | exact HB.out | apply below_alloc | apply pw_below_drewN | apply below_drew1 | refine below_set ?_ (IsS100.ge HI124.out)) | exact HB.out)))); have n1_ := Aside0.mk (IsS100.below (by repeat (first | (with_reducible first | exact HI124.out | apply IsS100.alloc | apply IsS100.drewN | apply IsS100.drew | apply IsS100.set_0) | exact HI124.out)) hb); have n2_ := Aside0.mk (below_step (by repeat (first | (with_reducible first | exact HB.out | apply below_alloc | apply pw_below_drewN | apply below_drew1 | refine below_set ?_ (IsS100.ge HI124.out)) | exact HB.out)) hb); clear HI124; clear HB; have HO127 := n0_; have HI124 := n1_; have HB := n2_; clear n0_ n1_ n2_; clear hb ho12))
        go_loopg [8, 35] kj3 (fun kq v8 v35 w' => ∃ (x8_2 : List ByteArray) (x35_2 : Int) (x125000_2 : ByteArray), v35 = .int .i64 x35_2 ∧ Aside0 (tachographlaw13_DictPlays.l0 kq a1 a2 x8_2 l0 (l0.length : Int) x35_2 x125000_2 = some r) ∧ Aside0 (kq ≤ kj3) ∧ Aside0 (Kd.R Kd.string 9 w' w.heap.size (fun _ => True) v8 x8_2) ∧ Aside0 (IsS100 w w' g124 x125000_2) ∧ Aside0 (Below w.heap.size w w') ∧ Aside0 (Go.Proofs.YtjfklfmfeghjnabAid.DAp w' g124 v8))
        case atStart => exact ⟨(y125), (0), (t123), (by first | rfl | (simp; done) | (simp [*]; done)), H', ⟨Nat.le_refl _⟩, ⟨by (with_reducible repeat (first | apply Kd.R_alloc | apply Kd.R_drewN | apply Kd.R_drew)); exact HO127.out⟩, ⟨by repeat (first | (with_reducible first | exact HI124.out | apply IsS100.alloc | apply IsS100.drewN | apply IsS100.drew | apply IsS100.set_0) | exact HI124.out)⟩, ⟨by repeat (first | (with_reducible first | exact HB.out | apply below_alloc | apply pw_below_drewN | apply below_drew1 | refine below_set ?_ (IsS100.ge HI124.out)) | exact HB.out)⟩, ⟨HAn_.out⟩⟩
        case round =>
          clear H'
          try clear c1
          try clear p2
          try clear c3
          try clear c5
          try clear c5b0
          try clear c5b1
          try clear c6
          try clear p2
          obtain ⟨x8_2, x35_2, x125000_2, rfl, HA, HK2, HO_8, HI124, HB, HA_⟩ := hrel
          cases gk with
          | zero => exact absurd HA.out (by simp [tachographlaw13_DictPlays.l0])
          | succ k2 =>
            have H := HA.out
            clear HA
            simp only [tachographlaw13_DictPlays.l0] at H
            by_cases c13 : x35_2 < (l0.length : Int)
            · rw [if_pos c13] at H
              have c13b0 : decide (x35_2 < (l0.length : Int)) = true := decide_eq_true c13
              clear c13
              by_cases c14 : 0 ≤ x35_2
              · rw [if_pos c14] at H
                have c14b0 : decide (0 ≤ x35_2) = true := decide_eq_true c14
                clear c14
                by_cases c15 : x35_2 < (l0.length : Int)
                · rw [if_pos c15] at H
                  have c15b0 : decide (x35_2 < (l0.length : Int)) = true := decide_eq_true c15
                  clear c15
                  by_cases c16 : ((rdOf ByteArray.empty l0 x35_2).size : Int) > 300
                  · rw [if_pos c16] at H
                    have c16b0 : decide (300 < ((rdOf ByteArray.empty l0 x35_2).size : Int)) = true := decide_eq_true c16
                    have c16b1 : decide (300 < (rdOf ByteArray.empty l0 x35_2).size) = true := decide_eq_true (by omega)
                    clear c16
                    replace H := Option.bind_eq_some_iff.mp H
                    obtain ⟨t129, A170, H⟩ := H
                    replace H : (some t129) = some r := H
                    have A17 := Aside0.mk A170
                    clear A170
                    obtain rfl := Option.some.inj H
                    have p128 : 0 ≤ (x35_2 : Int) := of_decide_eq_true (by first | (with_reducible assumption) | assumption)
                    have q128 : x35_2 < (l0.length : Int) := of_decide_eq_true (by first | (with_reducible assumption) | assumption)
                    obtain ⟨ad128, e128, hx128_0⟩ := Kd.at_string HR0.out x35_2 p128 q128
                    cases e128
                    replace hx128_0 := (HB.out.cell (World.block_lt_of_cell? w _ hx128_0)).trans hx128_0
                    replace p128 := eq_true p128
                    replace q128 := eq_true q128
                    go_wp2_with (first | ((with_reducible refine gate_callee (f := 15) rfl ?_); refine goesL_ (some 42) rfl rfl Try.func15 (by kernel_rfl) rfl #[] rfl (by (try simp only [List.map_toArray, List.map_cons, List.map_nil]); first | done | rfl | (simp only [List.length_drop, List.length_take]; rfl) | (refine congrArg (fun z_ => #[z_]) (congrArg (Value.int IntKind.u64) (Eq.symm (Go.Proofs.YtjfklfmfeghjnabAid.wrap_len _ (by omega)))))) ?_; (with_reducible refine (tachographlaw13_fixed.calls  t129 _ A17.out).mono ?_); rintro e w18 ⟨rfl, hb⟩; refine ⟨_, rfl, ?_⟩; have n0_ := Aside0.mk (Kd.R_below (by (with_reducible repeat (first | apply Kd.R_alloc | apply Kd.R_drewN | apply Kd.R_drew)); exact HO_8.out) hb); have n1_ := Aside0.mk (IsS100.below (by repeat (first | (with_reducible first | exact HI124.out | apply IsS100.alloc | apply IsS100.drewN | apply IsS100.drew | apply IsS100.set_0) | exact HI124.out)) hb); have n2_ := Aside0.mk (below_step (by repeat (first | (with_reducible first | exact HB.out | apply below_alloc | apply pw_below_drewN | apply below_drew1 | refine below_set ?_ (IsS100.ge HI124.out)) | exact HB.out)) hb); clear HO_8; clear HI124; clear HB; have HO_8 := n0_; have HI124 := n1_; have HB := n2_; clear n0_ n1_ n2_; (try clear hb); (try clear hb2); (try clear hk); (try clear hi)))
                    go_ret
                    exact ⟨by first | rfl | (simp [errW_none, errW_some] <;> rfl) | (simp [*, errW_none, errW_some] <;> rfl), by repeat (first | (with_reducible first | exact HB.out | apply below_alloc | apply pw_below_drewN | apply below_drew1 | refine below_set ?_ (IsS100.ge HI124.out)) | exact HB.out)⟩
                  · rw [if_neg c16] at H
                    have c16b0 : decide (300 < ((rdOf ByteArray.empty l0 x35_2).size : Int)) = false := decide_eq_false c16
                    have c16b1 : decide (300 < (rdOf ByteArray.empty l0 x35_2).size) = false := decide_eq_false (by omega)
                    clear c16
                    replace H := Option.bind_eq_some_iff.mp H
                    obtain ⟨⟨t130, t133⟩, A190, H⟩ := H
                    replace H : ((dict_Dict_Put.f x125000_2 (rdOf ByteArray.empty l0 x35_2)).bind fun bt134 => (if bt134.1 = t133 then (tachographlaw13_DictPlays.l0 k2 a1 a2 t130 l0 (l0.length : Int) (wrap64 (x35_2 + 1)) bt134.2) else (some false))) = some r := H
                    have A19 := Aside0.mk A190
                    clear A190
                    replace H := Option.bind_eq_some_iff.mp H
                    obtain ⟨⟨t134, t135⟩, A200, H⟩ := H
                    replace H : (if t134 = t133 then (tachographlaw13_DictPlays.l0 k2 a1 a2 t130 l0 (l0.length : Int) (wrap64 (x35_2 + 1)) t135) else (some false)) = some r := H
                    have A20 := Aside0.mk A200
                    clear A200
                    by_cases c21 : t134 = t133
                    · rw [if_pos c21] at H
                      have c21b0 : (t134 == t133) = true := beq_iff_eq.mpr c21
                      have c21b1 : (t134 != t133) = false := bne_eq_false_iff_eq.mpr c21
                      clear c21
                      have H' := Aside0.mk H
                      clear H
                      have p128 : 0 ≤ (x35_2 : Int) := of_decide_eq_true (by first | (with_reducible assumption) | assumption)
                      have q128 : x35_2 < (l0.length : Int) := of_decide_eq_true (by first | (with_reducible assumption) | assumption)
                      obtain ⟨ad128, e128, hx128_0⟩ := Kd.at_string HR0.out x35_2 p128 q128
                      cases e128
                      replace hx128_0 := (HB.out.cell (World.block_lt_of_cell? w _ hx128_0)).trans hx128_0
                      replace p128 := eq_true p128
                      replace q128 := eq_true q128
                      obtain ⟨Ao22, co22, eo22⟩ := Kd.R_slice HO_8.out
                      subst eo22
                      go_wp2_with (first | ((with_reducible refine gate_callee (f := 17) rfl ?_); refine goesL_ (some 46) rfl rfl Try.func17 (by kernel_rfl) rfl #[.slice Ao22 x8_2.length co22, .string (rdOf ByteArray.empty l0 x35_2)] rfl (by (try simp only [List.map_toArray, List.map_cons, List.map_nil]); first | done | rfl | (simp only [List.length_drop, List.length_take]; rfl) | (refine congrArg (fun z_ => #[z_]) (congrArg (Value.int IntKind.u64) (Eq.symm (Go.Proofs.YtjfklfmfeghjnabAid.wrap_len _ (by omega)))))) ?_; (with_reducible refine (tachographref13_Put.calls k2 (fun k_ => some k_ = (.slice Ao22 x8_2.length co22 : Value).ownBlock) (.slice Ao22 x8_2.length co22) x8_2 (rdOf ByteArray.empty l0 x35_2) t130 t133 w _ ?side1 ?side2 A19.out).mono ?_); (case side1 => repeat (first | (with_reducible first | exact HB.out | apply below_alloc | apply pw_below_drewN | apply below_drew1 | refine below_set ?_ (IsS100.ge HI124.out)) | exact HB.out)); (case side2 => exact Kd.R_tight rfl HO_8.out); rintro e w23 ⟨v131, rfl, ho0, hb, hkp⟩; refine ⟨_, rfl, ?_⟩; have hq_ := Go.Proofs.YtjfklfmfeghjnabAid.IsDict.keptA (show IsS100 w _ _ _ from by repeat (first | (with_reducible first | exact HI124.out | apply IsS100.alloc | apply IsS100.drewN | apply IsS100.drew | apply IsS100.set_0) | exact HI124.out)) HA_.out HO_8.out hkp; have n9_ := Aside0.mk (Go.Proofs.YtjfklfmfeghjnabAid.DAp.after (show IsS100 w _ _ _ from by repeat (first | (with_reducible first | exact HI124.out | apply IsS100.alloc | apply IsS100.drewN | apply IsS100.drew | apply IsS100.set_0) | exact HI124.out)) HA_.out hq_.2 ho0); clear HA_; have HA_ := n9_; clear n9_; have n0_ := Aside0.mk hq_.1; clear hq_; have n1_ := Aside0.mk (Kd.R_mono (ok' := fun k_ => True) ho0 (fun k_ hk_ => trivial)); have n2_ := Aside0.mk (hb); clear HI124; clear HB; clear HO_8; have HI124 := n0_; have HO132 := n1_; have HB := n2_; clear n0_ n1_ n2_; (try clear hb); (try clear hkp); (try clear ho0)) | ((with_reducible refine gate_callee (f := 18) rfl ?_); refine goesL_ (some 52) rfl rfl Try.func18 (by kernel_rfl) rfl #[.pointer (some ⟨g124, 0, none⟩), .string (rdOf ByteArray.empty l0 x35_2)] rfl (by (try simp only [List.map_toArray, List.map_cons, List.map_nil]); first | done | rfl | (simp only [List.length_drop, List.length_take]; rfl) | (refine congrArg (fun z_ => #[z_]) (congrArg (Value.int IntKind.u64) (Eq.symm (Go.Proofs.YtjfklfmfeghjnabAid.wrap_len _ (by omega)))))) ?_; (with_reducible refine (dict_Dict_Put.calls g124 x125000_2 (rdOf ByteArray.empty l0 x35_2) t134 t135 w _ ?side1 ?side2 A20.out).mono ?_); (case side1 => repeat (first | (with_reducible first | exact HI124.out | apply IsS100.alloc | apply IsS100.drewN | apply IsS100.drew | apply IsS100.set_0) | exact HI124.out)); (case side2 => repeat (first | (with_reducible first | exact HB.out | apply below_alloc | apply pw_below_drewN | apply below_drew1 | refine below_set ?_ (IsS100.ge HI124.out)) | exact HB.out)); rintro e w24 ⟨rfl, hi, hb, hk⟩; refine ⟨_, rfl, ?_⟩; have n9_ := Aside0.mk (Go.Proofs.YtjfklfmfeghjnabAid.PutKeep.ap hk HA_.out HO132.out); have n0_ := Aside0.mk (Go.Proofs.YtjfklfmfeghjnabAid.PutKeep.row hk HA_.out HO132.out); have n1_ := Aside0.mk (hb); have n2_ := Aside0.mk (hi); clear HO132; clear HB; clear HI124; have HO132 := n0_; have HB := n1_; have HI124 := n2_; clear n0_ n1_ n2_; clear HA_; have HA_ := n9_; clear n9_; (try clear hb); (try clear hb2); (try clear hk); (try clear hi)))
                      go_roundg k2
                      case measure => have := HJ3.out; have := HK2.out; omega
                      case rel => exact ⟨(t130), (wrap64 (x35_2 + 1)), (t135), (by first | rfl | (simp; done) | (simp [*]; done)), H', ⟨by have := HJ3.out; have := HK2.out; omega⟩, ⟨by (with_reducible repeat (first | apply Kd.R_alloc | apply Kd.R_drewN | apply Kd.R_drew)); exact HO132.out⟩, ⟨by repeat (first | (with_reducible first | exact HI124.out | apply IsS100.alloc | apply IsS100.drewN | apply IsS100.drew | apply IsS100.set_0) | exact HI124.out)⟩, ⟨by repeat (first | (with_reducible first | exact HB.out | apply below_alloc | apply pw_below_drewN | apply below_drew1 | refine below_set ?_ (IsS100.ge HI124.out)) | exact HB.out)⟩, ⟨HA_.out⟩⟩
                    · rw [if_neg c21] at H
                      have c21b0 : (t134 == t133) = false := beq_eq_false_iff_ne.mpr c21
                      have c21b1 : (t134 != t133) = true := bne_iff_ne.mpr c21
                      obtain rfl := Option.some.inj H
                      have p128 : 0 ≤ (x35_2 : Int) := of_decide_eq_true (by first | (with_reducible assumption) | assumption)
                      have q128 : x35_2 < (l0.length : Int) := of_decide_eq_true (by first | (with_reducible assumption) | assumption)
                      obtain ⟨ad128, e128, hx128_0⟩ := Kd.at_string HR0.out x35_2 p128 q128
                      cases e128
                      replace hx128_0 := (HB.out.cell (World.block_lt_of_cell? w _ hx128_0)).trans hx128_0
                      replace p128 := eq_true p128
                      replace q128 := eq_true q128
                      obtain ⟨Ao25, co25, eo25⟩ := Kd.R_slice HO_8.out
                      subst eo25
                      go_wp2_with (first | ((with_reducible refine gate_callee (f := 17) rfl ?_); refine goesL_ (some 46) rfl rfl Try.func17 (by kernel_rfl) rfl #[.slice Ao25 x8_2.length co25, .string (rdOf ByteArray.empty l0 x35_2)] rfl (by (try simp only [List.map_toArray, List.map_cons, List.map_nil]); first | done | rfl | (simp only [List.length_drop, List.length_take]; rfl) | (refine congrArg (fun z_ => #[z_]) (congrArg (Value.int IntKind.u64) (Eq.symm (Go.Proofs.YtjfklfmfeghjnabAid.wrap_len _ (by omega)))))) ?_; (with_reducible refine (tachographref13_Put.calls k2 (fun k_ => some k_ = (.slice Ao25 x8_2.length co25 : Value).ownBlock) (.slice Ao25 x8_2.length co25) x8_2 (rdOf ByteArray.empty l0 x35_2) t130 t133 w _ ?side1 ?side2 A19.out).mono ?_); (case side1 => repeat (first | (with_reducible first | exact HB.out | apply below_alloc | apply pw_below_drewN | apply below_drew1 | refine below_set ?_ (IsS100.ge HI124.out)) | exact HB.out)); (case side2 => exact Kd.R_tight rfl HO_8.out); rintro e w26 ⟨v131, rfl, ho0, hb, hkp⟩; refine ⟨_, rfl, ?_⟩; have hq_ := Go.Proofs.YtjfklfmfeghjnabAid.IsDict.keptA (show IsS100 w _ _ _ from by repeat (first | (with_reducible first | exact HI124.out | apply IsS100.alloc | apply IsS100.drewN | apply IsS100.drew | apply IsS100.set_0) | exact HI124.out)) HA_.out HO_8.out hkp; have n9_ := Aside0.mk (Go.Proofs.YtjfklfmfeghjnabAid.DAp.after (show IsS100 w _ _ _ from by repeat (first | (with_reducible first | exact HI124.out | apply IsS100.alloc | apply IsS100.drewN | apply IsS100.drew | apply IsS100.set_0) | exact HI124.out)) HA_.out hq_.2 ho0); clear HA_; have HA_ := n9_; clear n9_; have n0_ := Aside0.mk hq_.1; clear hq_; have n1_ := Aside0.mk (Kd.R_mono (ok' := fun k_ => True) ho0 (fun k_ hk_ => trivial)); have n2_ := Aside0.mk (hb); clear HI124; clear HB; clear HO_8; have HI124 := n0_; have HO132 := n1_; have HB := n2_; clear n0_ n1_ n2_; (try clear hb); (try clear hkp); (try clear ho0)) | ((with_reducible refine gate_callee (f := 18) rfl ?_); refine goesL_ (some 52) rfl rfl Try.func18 (by kernel_rfl) rfl #[.pointer (some ⟨g124, 0, none⟩), .string (rdOf ByteArray.empty l0 x35_2)] rfl (by (try simp only [List.map_toArray, List.map_cons, List.map_nil]); first | done | rfl | (simp only [List.length_drop, List.length_take]; rfl) | (refine congrArg (fun z_ => #[z_]) (congrArg (Value.int IntKind.u64) (Eq.symm (Go.Proofs.YtjfklfmfeghjnabAid.wrap_len _ (by omega)))))) ?_; (with_reducible refine (dict_Dict_Put.calls g124 x125000_2 (rdOf ByteArray.empty l0 x35_2) t134 t135 w _ ?side1 ?side2 A20.out).mono ?_); (case side1 => repeat (first | (with_reducible first | exact HI124.out | apply IsS100.alloc | apply IsS100.drewN | apply IsS100.drew | apply IsS100.set_0) | exact HI124.out)); (case side2 => repeat (first | (with_reducible first | exact HB.out | apply below_alloc | apply pw_below_drewN | apply below_drew1 | refine below_set ?_ (IsS100.ge HI124.out)) | exact HB.out)); rintro e w27 ⟨rfl, hi, hb, hk⟩; refine ⟨_, rfl, ?_⟩; have n9_ := Aside0.mk (Go.Proofs.YtjfklfmfeghjnabAid.PutKeep.ap hk HA_.out HO132.out); have n0_ := Aside0.mk (Go.Proofs.YtjfklfmfeghjnabAid.PutKeep.row hk HA_.out HO132.out); have n1_ := Aside0.mk (hb); have n2_ := Aside0.mk (hi); clear HO132; clear HB; clear HI124; have HO132 := n0_; have HB := n1_; have HI124 := n2_; clear n0_ n1_ n2_; clear HA_; have HA_ := n9_; clear n9_; (try clear hb); (try clear hb2); (try clear hk); (try clear hi)))
                      go_ret
                      exact ⟨by first | rfl | (simp [errW_none, errW_some] <;> rfl) | (simp [*, errW_none, errW_some] <;> rfl), by repeat (first | (with_reducible first | exact HB.out | apply below_alloc | apply pw_below_drewN | apply below_drew1 | refine below_set ?_ (IsS100.ge HI124.out)) | exact HB.out)⟩
                · rw [if_neg c15] at H
                  exact absurd H (by simp)
              · rw [if_neg c14] at H
                exact absurd H (by simp)
            · rw [if_neg c13] at H
              have c13b0 : decide (x35_2 < (l0.length : Int)) = false := decide_eq_false c13
              clear c13
              replace H := Option.bind_eq_some_iff.mp H
              obtain ⟨⟨t136, t139⟩, A280, H⟩ := H
              replace H : ((tachographref02_Same.f k2 t136 x8_2).bind fun t140 => (if t140 = true then (tachographlaw13_DictPlays.l1 k2 a1 a2 x8_2 t136 (t136.length : Int) 0 t139) else (some false))) = some r := H
              have A28 := Aside0.mk A280
              clear A280
              replace H := Option.bind_eq_some_iff.mp H
              obtain ⟨t140, A290, H⟩ := H
              replace H : (if t140 = true then (tachographlaw13_DictPlays.l1 k2 a1 a2 x8_2 t136 (t136.length : Int) 0 t139) else (some false)) = some r := H
              have A29 := Aside0.mk A290
              clear A290
              by_cases c30 : t140 = true
              · subst c30
                have H1 : (tachographlaw13_DictPlays.l1 k2 a1 a2 x8_2 t136 (t136.length : Int) 0 t139) = some r := by rw [if_pos rfl] at H; exact H
                clear H
                have H := H1
                clear H1
                have H' := Aside0.mk H
                clear H
                go_wp2_with (first | ((with_reducible refine gate_callee (f := 19) rfl ?_); refine goesL_ (some 57) rfl rfl Try.func19 (by kernel_rfl) rfl #[.pointer (some ⟨g124, 0, none⟩)] rfl (by (try simp only [List.map_toArray, List.map_cons, List.map_nil]); first | done | rfl | (simp only [List.length_drop, List.length_take]; rfl) | (refine congrArg (fun z_ => #[z_]) (congrArg (Value.int IntKind.u64) (Eq.symm (Go.Proofs.YtjfklfmfeghjnabAid.wrap_len _ (by omega)))))) ?_; (with_reducible refine (dict_Dict_All.calls g124 x125000_2 t136 t139 w _ ?side1 ?side2 A28.out).mono ?_); (case side1 => repeat (first | (with_reducible first | exact HI124.out | apply IsS100.alloc | apply IsS100.drewN | apply IsS100.drew | apply IsS100.set_0) | exact HI124.out)); (case side2 => repeat (first | (with_reducible first | exact HB.out | apply below_alloc | apply pw_below_drewN | apply below_drew1 | refine below_set ?_ (IsS100.ge HI124.out)) | exact HB.out)); rintro e w31 ⟨v137, rfl, ho0, hi, hb, hk, hbl⟩; refine ⟨_, rfl, ?_⟩; have HAl_ := Aside0.mk (show Go.Proofs.YtjfklfmfeghjnabAid.DAp w31 g124 v137 from (Go.Proofs.YtjfklfmfeghjnabAid.DAp.fresh HI124.out (Kd.R_base ho0)).of_heap (hbl.block _ (IsS100.lt HI124.out))); have n0_ := Aside0.mk (Kd.R_mono (Kd.R_told (Kd.R_oldK (IsS100.apart (show IsS100 w _ g124 x125000_2 from by repeat (first | (with_reducible first | exact HI124.out | apply IsS100.alloc | apply IsS100.drewN | apply IsS100.drew | apply IsS100.set_0) | exact HI124.out)) (by (with_reducible repeat (first | apply Kd.R_alloc | apply Kd.R_drewN | apply Kd.R_drew)); exact HO_8.out) (by decide)) hk) (Kd.R_base ho0)) (fun _ h_ => h_.1)); have n1_ := Aside0.mk (Kd.R_lower (Kd.R_new' ho0 (Kd.R_lt (by (with_reducible repeat (first | apply Kd.R_alloc | apply Kd.R_drewN | apply Kd.R_drew)); exact HO_8.out))) (below_size (by repeat (first | (with_reducible first | exact HB.out | apply below_alloc | apply pw_below_drewN | apply below_drew1 | refine below_set ?_ (IsS100.ge HI124.out)) | exact HB.out)))); have n2_ := Aside0.mk (hb); have n3_ := Aside0.mk (hi); clear HO_8; clear HB; clear HI124; have HO_8 := n0_; have HO138 := n1_; have HB := n2_; have HI124 := n3_; clear n0_ n1_ n2_ n3_; (try clear hb); (try clear hb2); (try clear hk); (try clear hbl); (try clear hi); (try clear ho0); obtain ⟨Ao32, co32, eo32⟩ := Kd.R_slice HO138.out; subst eo32; obtain ⟨Ao33, co33, eo33⟩ := Kd.R_slice HO_8.out; subst eo33) | ((with_reducible refine gate_callee (f := 20) rfl ?_); refine goesL_ (some 60) rfl rfl Try.func20 (by kernel_rfl) rfl #[.slice Ao32 t136.length co32, .slice Ao33 x8_2.length co33] rfl (by (try simp only [List.map_toArray, List.map_cons, List.map_nil]); first | done | rfl | (simp only [List.length_drop, List.length_take]; rfl) | (refine congrArg (fun z_ => #[z_]) (congrArg (Value.int IntKind.u64) (Eq.symm (Go.Proofs.YtjfklfmfeghjnabAid.wrap_len _ (by omega)))))) ?_; (with_reducible refine (tachographref02_Same.calls k2 _ _ t136 _ _ x8_2 true _ ?side1 ?side2 ?side3 ?side4 A29.out).mono ?_); (case side1 => repeat (first | exact (Kd.R_reads' HO138.out).2.2 | (with_reducible refine Kd.C_alloc ?_ _) | (with_reducible refine Kd.C_drewN ?_ _) | (with_reducible refine Kd.C_drew ?_))); (case side2 => exact (Kd.R_reads' HO138.out).2.1); (case side3 => repeat (first | exact (Kd.R_reads' HO_8.out).2.2 | (with_reducible refine Kd.C_alloc ?_ _) | (with_reducible refine Kd.C_drewN ?_ _) | (with_reducible refine Kd.C_drew ?_))); (case side4 => exact (Kd.R_reads' HO_8.out).2.1); rintro e w' ⟨rfl, ⟨nd, rfl⟩⟩; refine ⟨_, rfl, ?_⟩))
                go_loopg [64] k2 (fun kq v64 w' => ∃ (x13_3 : List ByteArray) (x64_3 : Int), v64 = .int .i64 x64_3 ∧ Aside0 (tachographlaw13_DictPlays.l1 kq a1 a2 x8_2 x13_3 (t136.length : Int) x64_3 t139 = some r) ∧ Aside0 (kq ≤ k2) ∧ Aside0 (Kd.R Kd.string 9 w' w.heap.size (fun k_ => some k_ ≠ ((.slice Ao32 t136.length co32) : Value).ownBlock) (.slice Ao33 x8_2.length co33) x8_2) ∧ Aside0 (Kd.R Kd.string 9 w' w.heap.size (fun k_ => some k_ ≠ ((.slice Ao33 x8_2.length co33) : Value).ownBlock) (.slice Ao32 t136.length co32) x13_3) ∧ Aside0 (IsS100 w w' g124 t139) ∧ Aside0 (Below w.heap.size w w') ∧ Aside0 (Go.Proofs.YtjfklfmfeghjnabAid.DAp w' g124 (.slice Ao32 t136.length co32)))
                case atStart => exact ⟨(t136), (0), (by first | rfl | (simp; done) | (simp [*]; done)), H', ⟨Nat.le_refl _⟩, ⟨by (with_reducible repeat (first | apply Kd.R_alloc | apply Kd.R_drewN | apply Kd.R_drew)); exact Kd.R_mono HO_8.out (fun _ hk => hk.2)⟩, ⟨by (with_reducible repeat (first | apply Kd.R_alloc | apply Kd.R_drewN | apply Kd.R_drew)); exact Kd.R_mono HO138.out (fun _ hk => hk.2)⟩, ⟨by repeat (first | (with_reducible first | exact HI124.out | apply IsS100.alloc | apply IsS100.drewN | apply IsS100.drew | apply IsS100.set_0) | exact HI124.out)⟩, ⟨by repeat (first | (with_reducible first | exact HB.out | apply below_alloc | apply pw_below_drewN | apply below_drew1 | refine below_set ?_ (IsS100.ge HI124.out)) | exact HB.out)⟩, ⟨HAl_.out⟩⟩
                case round =>
                  clear H'
                  try clear c1
                  try clear p1
                  try clear q1
                  try clear hx1
                  try clear c2
                  try clear p2
                  try clear c3
                  try clear c5
                  try clear c5b0
                  try clear c5b1
                  try clear c6
                  try clear p6
                  try clear p12
                  try clear q12
                  try clear hx12
                  try clear c13
                  try clear c13b0
                  try clear c14
                  try clear c14b0
                  try clear c15
                  try clear c15b0
                  try clear c16
                  try clear c16b0
                  try clear c16b1
                  try clear c17
                  try clear c18
                  try clear c19
                  try clear c20
                  try clear c21
                  try clear c21b0
                  try clear c21b1
                  try clear c30
                  try clear hx128_0
                  try clear p128
                  try clear p2
                  try clear q128
                  obtain ⟨x13_3, x64_3, rfl, HA, HK3, HO_8, HO_13, HI124, HB, HA_⟩ := hrel
                  have hl13_3 := (Kd.R_reads' HO_13.out).1
                  rw [hl13_3] at HO_13
                  (try simp only [hl13_3])
                  (try simp only [hl13_3] at HO_8)
                  cases gk with
                  | zero => exact absurd HA.out (by simp [tachographlaw13_DictPlays.l1])
                  | succ k3 =>
                    have H := HA.out
                    clear HA
                    simp only [tachographlaw13_DictPlays.l1] at H
                    by_cases c34 : x64_3 < (t136.length : Int)
                    · rw [if_pos c34] at H
                      have c34b0 : decide (x64_3 < (t136.length : Int)) = true := decide_eq_true c34
                      (try simp only [hl13_3] at c34b0)
                      clear c34
                      by_cases c35 : 0 ≤ x64_3
                      · rw [if_pos c35] at H
                        have c35b0 : decide (0 ≤ x64_3) = true := decide_eq_true c35
                        clear c35
                        by_cases c36 : x64_3 < (x13_3.length : Int)
                        · rw [if_pos c36] at H
                          have c36b0 : decide (x64_3 < (x13_3.length : Int)) = true := decide_eq_true c36
                          (try simp only [hl13_3] at c36b0)
                          clear c36
                          by_cases c37 : (rdOf ByteArray.empty x13_3 x64_3).size + 1 ≤ 9223372036854775807
                          · rw [if_pos c37] at H
                            have c37b0 := eq_true c37
                            have c37b1 : decide ((rdOf ByteArray.empty x13_3 x64_3).size + 1 ≤ 9223372036854775807) = true := decide_eq_true c37
                            try have c37b2 : (9223372036854775807 < (rdOf ByteArray.empty x13_3 x64_3).size + 1) = False := eq_false (Nat.not_lt.2 c37)
                            obtain ⟨y142, hy142⟩ : ∃ y_ : List ByteArray, y_ = (x13_3.set (x64_3 : Int).toNat ((rdOf ByteArray.empty x13_3 x64_3) ++ (⟨#[33]⟩ : ByteArray))) := ⟨_, rfl⟩
                            replace H : (tachographlaw13_DictPlays.l1 k3 a1 a2 x8_2 y142 (t136.length : Int) (wrap64 (x64_3 + 1)) t139) = some r := by first | (rw [hy142]; with_reducible exact H) | (have H2_ := (Option.bind_some _ _).symm.trans H; rw [hy142]; with_reducible exact H2_) | (have H2_ := (Option.bind_some _ _).symm.trans H; with_reducible exact H2_) | with_reducible exact H | (rw [hy142]; exact H) | exact H
                            have Ny142 := Aside0.mk hy142
                            clear hy142
                            have H' := Aside0.mk H
                            clear H
                            have p141 : 0 ≤ (x64_3 : Int) := of_decide_eq_true (by first | (with_reducible assumption) | assumption)
                            have q141 : x64_3 < (x13_3.length : Int) := of_decide_eq_true (by first | (with_reducible assumption) | assumption)
                            obtain ⟨ad141, e141, hx141_0⟩ := Kd.at_string (Kd.R_reads' HO_13.out).2.2 x64_3 p141 q141
                            cases e141
                            replace p141 := eq_true p141
                            replace q141 := eq_true q141
                            have p38 : 0 ≤ (x64_3 : Int) := of_decide_eq_true (by first | (with_reducible assumption) | assumption)
                            have q38 : (x64_3 : Int) < ((x13_3.length : Int) : Int) := of_decide_eq_true (by first | (with_reducible assumption) | assumption)
                            obtain ⟨go38, co38, eo38, gb38, gl38, cl38, HG38⟩ := Kd.R_form HO_13.out (by omega)
                            (first | cases eo38 | (injection eo38 with ea_ en_ ec_; (first | subst ea_ | (injection ea_ with ea_; subst ea_)); subst ec_; clear en_))
                            have GB38 := Aside0.mk gb38
                            have GG38 := Aside0.mk HG38
                            clear gb38 gl38 HG38
                            (first | simp only [add_plain] at hx141_0 | skip)
                            obtain ⟨hx38_0, hf38_0⟩ := Kd.R_celln (⟨#[]⟩ : ByteArray) HO_13.out (x64_3 : Int) p38 q38
                            replace p38 := eq_true p38
                            replace q38 := eq_true q38
                            have HP39 := Kd.R_putg HO_13.out (x64_3 : Int) ((rdOf ByteArray.empty x13_3 x64_3) ++ (⟨#[33]⟩ : ByteArray))
                            go_wp2_with (first | ((with_reducible refine gate_store (t := 9) (p := 72) rfl ?_); refine store_event (t := 9) (p := 72) (v := ?vo_w40) (w1 := (wr.setCell ⟨go38, (x64_3 : Int).toNat, none⟩ (.string ((rdOf ByteArray.empty x13_3 x64_3) ++ (⟨#[33]⟩ : ByteArray))))) ?hg ?ho ?hn ?hr ?_; (case ho => rfl); (case hg => rfl); (case hn => rfl); (case hr => first | (go_simp; done) | (go_simp; rfl)); intro w40 hw; have hg : wr.grownBy w40 (some go38) := (by rw [hw]; exact HP39.2); have hp_ : Kd.R Kd.string 9 w40 w.heap.size (fun k_ => some k_ ≠ (.slice Ao33 x8_2.length co33 : Value).ownBlock) (.slice (some ⟨go38, 0, none⟩) x13_3.length co32) y142 := (by rw [hw, Ny142.out]; exact HP39.1); clear HP39; have n0_ := Aside0.mk (Kd.R_after (v := (.slice (some ⟨go38, 0, none⟩) x13_3.length co32)) (v1 := (.slice (some ⟨go38, 0, none⟩) x13_3.length co32)) (ok := (fun _ => True)) (by (with_reducible repeat (first | apply Kd.R_alloc | apply Kd.R_drewN | apply Kd.R_drew)); exact Kd.R_mono HO_8.out (fun _ hk => ⟨trivial, hk⟩)) hg (.inl rfl)); have n1_ := Aside0.mk (hp_); have hq_ := Go.Proofs.YtjfklfmfeghjnabAid.IsDict.grownA (show IsS100 w _ _ _ from by repeat (first | (with_reducible first | exact HI124.out | apply IsS100.alloc | apply IsS100.drewN | apply IsS100.drew | apply IsS100.set_0) | exact HI124.out)) HA_.out HO_13.out hg rfl rfl; have n9_ := Aside0.mk (Go.Proofs.YtjfklfmfeghjnabAid.DAp.of_heap HA_.out hq_.2); clear HA_; have HA_ := n9_; clear n9_; have n2_ := Aside0.mk hq_.1; clear hq_; have n3_ := Aside0.mk ((by rw [hw]; exact below_set (HB.out) GB38.out : Below w.heap.size w w40)); clear HO_8; clear HO_13; clear HI124; clear HB; have HO_8 := n0_; have HO_13 := n1_; have HI124 := n2_; have HB := n3_; clear n0_ n1_ n2_ n3_; clear hg hw hp_))
                            (try simp only [← hl13_3])
                            go_roundg k3
                            case measure => have := HJ3.out; have := HK2.out; have := HK3.out; omega
                            case rel => exact ⟨(y142), (wrap64 (x64_3 + 1)), (by first | rfl | (simp; done) | (simp [*]; done)), H', ⟨by have := HJ3.out; have := HK2.out; have := HK3.out; omega⟩, ⟨by (try simp only [hl13_3]); (with_reducible repeat (first | apply Kd.R_alloc | apply Kd.R_drewN | apply Kd.R_drew)); exact Kd.R_mono HO_8.out (fun _ hk => hk.2)⟩, ⟨by (try simp only [hl13_3]); (with_reducible repeat (first | apply Kd.R_alloc | apply Kd.R_drewN | apply Kd.R_drew)); exact HO_13.out⟩, ⟨by repeat (first | (with_reducible first | exact HI124.out | apply IsS100.alloc | apply IsS100.drewN | apply IsS100.drew | apply IsS100.set_0) | exact HI124.out)⟩, ⟨by repeat (first | (with_reducible first | exact HB.out | apply below_alloc | apply pw_below_drewN | apply below_drew1 | refine below_set ?_ (IsS100.ge HI124.out)) | exact HB.out)⟩, ⟨HA_.out⟩⟩
                          · rw [if_neg c37] at H
                            exact absurd H (by simp)
                        · rw [if_neg c36] at H
                          exact absurd H (by simp)
                      · rw [if_neg c35] at H
                        exact absurd H (by simp)
                    · rw [if_neg c34] at H
                      have c34b0 : decide (x64_3 < (t136.length : Int)) = false := decide_eq_false c34
                      (try simp only [hl13_3] at c34b0)
                      clear c34
                      replace H := Option.bind_eq_some_iff.mp H
                      obtain ⟨⟨t143, t144, t145⟩, A410, H⟩ := H
                      replace H : ((tachographref13_Place.f k3 x8_2 a1).bind fun t146 => ((dict_Dict_Text.f t145 a2).bind fun bt147 => (if a2 < 0 then (tachographlaw13_DictPlays.j3 k3 a2 x8_2 t143 t144 t146 bt147.1 bt147.2.1 true) else (tachographlaw13_DictPlays.j3 k3 a2 x8_2 t143 t144 t146 bt147.1 bt147.2.1 (decide (a2 ≥ (x8_2.length : Int))))))) = some r := H
                      have A41 := Aside0.mk A410
                      clear A410
                      replace H := Option.bind_eq_some_iff.mp H
                      obtain ⟨t146, A420, H⟩ := H
                      replace H : ((dict_Dict_Text.f t145 a2).bind fun bt147 => (if a2 < 0 then (tachographlaw13_DictPlays.j3 k3 a2 x8_2 t143 t144 t146 bt147.1 bt147.2.1 true) else (tachographlaw13_DictPlays.j3 k3 a2 x8_2 t143 t144 t146 bt147.1 bt147.2.1 (decide (a2 ≥ (x8_2.length : Int)))))) = some r := H
                      have A42 := Aside0.mk A420
                      clear A420
                      replace H := Option.bind_eq_some_iff.mp H
                      obtain ⟨⟨t147, t148, t149⟩, A430, H⟩ := H
                      replace H : (if a2 < 0 then (tachographlaw13_DictPlays.j3 k3 a2 x8_2 t143 t144 t146 t147 t148 true) else (tachographlaw13_DictPlays.j3 k3 a2 x8_2 t143 t144 t146 t147 t148 (decide (a2 ≥ (x8_2.length : Int))))) = some r := H
                      have A43 := Aside0.mk A430
                      clear A430
                      have HC44 := Aside0.mk H
                      clear H
                      go_upto_region 28 with (first | ((with_reducible refine gate_callee (f := 21) rfl ?_); refine goesL_ (some 77) rfl rfl Try.func21 (by kernel_rfl) rfl #[.pointer (some ⟨g124, 0, none⟩), .string a1] rfl (by (try simp only [List.map_toArray, List.map_cons, List.map_nil]); first | done | rfl | (simp only [List.length_drop, List.length_take]; rfl) | (refine congrArg (fun z_ => #[z_]) (congrArg (Value.int IntKind.u64) (Eq.symm (Go.Proofs.YtjfklfmfeghjnabAid.wrap_len _ (by omega)))))) ?_; (with_reducible refine (dict_Dict_Find.calls g124 t139 a1 t143 t144 t145 w _ ?side1 ?side2 A41.out).mono ?_); (case side1 => repeat (first | (with_reducible first | exact HI124.out | apply IsS100.alloc | apply IsS100.drewN | apply IsS100.drew | apply IsS100.set_0) | exact HI124.out)); (case side2 => repeat (first | (with_reducible first | exact HB.out | apply below_alloc | apply pw_below_drewN | apply below_drew1 | refine below_set ?_ (IsS100.ge HI124.out)) | exact HB.out)); rintro e w45 ⟨rfl, hi, hb, hk⟩; refine ⟨_, rfl, ?_⟩; have n0_ := Aside0.mk (Kd.R_mono (Kd.R_keep (IsS100.apart (show IsS100 w _ g124 t139 from by repeat (first | (with_reducible first | exact HI124.out | apply IsS100.alloc | apply IsS100.drewN | apply IsS100.drew | apply IsS100.set_0) | exact HI124.out)) (by (with_reducible repeat (first | apply Kd.R_alloc | apply Kd.R_drewN | apply Kd.R_drew)); exact HO_8.out) (by decide)) hk (fun _ h => h.2)) (fun _ h => h.1)); have n1_ := Aside0.mk (Kd.R_mono (Kd.R_keep (IsS100.apart (show IsS100 w _ g124 t139 from by repeat (first | (with_reducible first | exact HI124.out | apply IsS100.alloc | apply IsS100.drewN | apply IsS100.drew | apply IsS100.set_0) | exact HI124.out)) (by (with_reducible repeat (first | apply Kd.R_alloc | apply Kd.R_drewN | apply Kd.R_drew)); exact HO_13.out) (by decide)) hk (fun _ h => h.2)) (fun _ h => h.1)); have n2_ := Aside0.mk (hb); have n3_ := Aside0.mk (hi); clear HO_8; clear HO_13; clear HB; clear HI124; have HO_8 := n0_; have HO_13 := n1_; have HB := n2_; have HI124 := n3_; clear n0_ n1_ n2_ n3_; (try clear hb); (try clear hb2); (try clear hk); (try clear hi)) | ((with_reducible refine gate_callee (f := 22) rfl ?_); refine goesL_ (some 82) rfl rfl Try.func22 (by kernel_rfl) rfl #[.slice Ao33 x8_2.length co33, .string a1] rfl (by (try simp only [List.map_toArray, List.map_cons, List.map_nil]); first | done | rfl | (simp only [List.length_drop, List.length_take]; rfl) | (refine congrArg (fun z_ => #[z_]) (congrArg (Value.int IntKind.u64) (Eq.symm (Go.Proofs.YtjfklfmfeghjnabAid.wrap_len _ (by omega)))))) ?_; (with_reducible refine (tachographref13_Place.calls k3 _ _ x8_2 a1 t146 _ ?side1 ?side2 A42.out).mono ?_); (case side1 => repeat (first | exact (Kd.R_reads' HO_8.out).2.2 | (with_reducible refine Kd.C_alloc ?_ _) | (with_reducible refine Kd.C_drewN ?_ _) | (with_reducible refine Kd.C_drew ?_))); (case side2 => exact (Kd.R_reads' HO_8.out).2.1); rintro e w' ⟨rfl, ⟨nd, rfl⟩⟩; refine ⟨_, rfl, ?_⟩) | ((with_reducible refine gate_callee (f := 23) rfl ?_); refine goesL_ (some 86) rfl rfl Try.func23 (by kernel_rfl) rfl #[.pointer (some ⟨g124, 0, none⟩), .int .i64 a2] rfl (by (try simp only [List.map_toArray, List.map_cons, List.map_nil]); first | done | rfl | (simp only [List.length_drop, List.length_take]; rfl) | (refine congrArg (fun z_ => #[z_]) (congrArg (Value.int IntKind.u64) (Eq.symm (Go.Proofs.YtjfklfmfeghjnabAid.wrap_len _ (by omega)))))) ?_; (with_reducible refine (dict_Dict_Text.calls g124 t145 a2 t147 t148 t149 w _ ?side1 ?side2 A43.out).mono ?_); (case side1 => repeat (first | (with_reducible first | exact HI124.out | apply IsS100.alloc | apply IsS100.drewN | apply IsS100.drew | apply IsS100.set_0) | exact HI124.out)); (case side2 => repeat (first | (with_reducible first | exact HB.out | apply below_alloc | apply pw_below_drewN | apply below_drew1 | refine below_set ?_ (IsS100.ge HI124.out)) | exact HB.out)); rintro e w46 ⟨rfl, hi, hb, hk⟩; refine ⟨_, rfl, ?_⟩; have n0_ := Aside0.mk (Kd.R_mono (Kd.R_keep (IsS100.apart (show IsS100 w _ g124 t145 from by repeat (first | (with_reducible first | exact HI124.out | apply IsS100.alloc | apply IsS100.drewN | apply IsS100.drew | apply IsS100.set_0) | exact HI124.out)) (by (with_reducible repeat (first | apply Kd.R_alloc | apply Kd.R_drewN | apply Kd.R_drew)); exact HO_8.out) (by decide)) hk (fun _ h => h.2)) (fun _ h => h.1)); have n1_ := Aside0.mk (Kd.R_mono (Kd.R_keep (IsS100.apart (show IsS100 w _ g124 t145 from by repeat (first | (with_reducible first | exact HI124.out | apply IsS100.alloc | apply IsS100.drewN | apply IsS100.drew | apply IsS100.set_0) | exact HI124.out)) (by (with_reducible repeat (first | apply Kd.R_alloc | apply Kd.R_drewN | apply Kd.R_drew)); exact HO_13.out) (by decide)) hk (fun _ h => h.2)) (fun _ h => h.1)); have n2_ := Aside0.mk (hb); have n3_ := Aside0.mk (hi); clear HO_8; clear HO_13; clear HB; clear HI124; have HO_8 := n0_; have HO_13 := n1_; have HB := n2_; have HI124 := n3_; clear n0_ n1_ n2_ n3_; (try clear hb); (try clear hb2); (try clear hk); (try clear hi)))
                      (try simp only [Act.put, List.setIfInBounds_toArray, List.set_cons_zero, List.set_cons_succ])
                      go_cut [96] (fun v96 wc => ∃ (kq : Nat) (x96_43 : Bool), v96 = .bool x96_43 ∧ Aside0 (tachographlaw13_DictPlays.j3 kq a2 x8_2 t143 t144 t146 t147 t148 x96_43 = some r) ∧ Aside0 (kq ≤ k3) ∧ Aside0 (Kd.R Kd.string 9 wc w.heap.size (fun _ => True) (.slice Ao33 x8_2.length co33) x8_2) ∧ Aside0 (Below w.heap.size w wc))
                      case first =>
                        have H := HC44.out
                        clear HC44
                        by_cases c47 : a2 < 0
                        · rw [if_pos c47] at H
                          have c47b0 : decide (a2 < 0) = true := decide_eq_true c47
                          clear c47
                          (first | rw [c47b0] | (simp only [i64_w, i32_w]; rw [c47b0]) | skip)
                          have H' := Aside0.mk H
                          clear H
                          go_wp2
                          go_meet
                          case rel => exact ⟨_, (true), (by first | rfl | (simp; done) | (simp [*]; done)), H', ⟨by have := HJ3.out; have := HK2.out; have := HK3.out; first | omega | exact Nat.le_refl _⟩, ⟨by (try simp only [hl13_3]); (with_reducible repeat (first | apply Kd.R_alloc | apply Kd.R_drewN | apply Kd.R_drew)); exact Kd.R_mono HO_8.out (fun _ hk => trivial)⟩, ⟨by repeat (first | (with_reducible first | exact HB.out | apply below_alloc | apply pw_below_drewN | apply below_drew1 | refine below_set ?_ (IsS100.ge HI124.out)) | exact HB.out)⟩⟩
                        · rw [if_neg c47] at H
                          have c47b0 : decide (a2 < 0) = false := decide_eq_false c47
                          clear c47
                          (first | rw [c47b0] | (simp only [i64_w, i32_w]; rw [c47b0]) | skip)
                          have H' := Aside0.mk H
                          clear H
                          go_wp2
                          go_meet
                          case rel => exact ⟨_, (decide (a2 ≥ (x8_2.length : Int))), (by first | rfl | (simp; done) | (simp [*]; done)), H', ⟨by have := HJ3.out; have := HK2.out; have := HK3.out; first | omega | exact Nat.le_refl _⟩, ⟨by (try simp only [hl13_3]); (with_reducible repeat (first | apply Kd.R_alloc | apply Kd.R_drewN | apply Kd.R_drew)); exact Kd.R_mono HO_8.out (fun _ hk => trivial)⟩, ⟨by repeat (first | (with_reducible first | exact HB.out | apply below_alloc | apply pw_below_drewN | apply below_drew1 | refine below_set ?_ (IsS100.ge HI124.out)) | exact HB.out)⟩⟩
                      case rest =>
                        clear HC44
                        try clear c1
                        try clear p1
                        try clear q1
                        try clear hx1
                        try clear c2
                        try clear p2
                        try clear c3
                        try clear p3
                        try clear q3
                        try clear hx3
                        try clear hf3
                        try clear c4
                        try clear c5
                        try clear c5b0
                        try clear c5b1
                        try clear c6
                        try clear p6
                        try clear p12
                        try clear q12
                        try clear hx12
                        try clear c13
                        try clear c13b0
                        try clear c14
                        try clear c14b0
                        try clear p14
                        try clear q14
                        try clear hx14
                        try clear c15
                        try clear c15b0
                        try clear c16
                        try clear c16b0
                        try clear c16b1
                        try clear c17
                        try clear c18
                        try clear c19
                        try clear c20
                        try clear c21
                        try clear c21b0
                        try clear c21b1
                        try clear c22
                        try clear c23
                        try clear c30
                        try clear c34
                        try clear c34b0
                        try clear c35
                        try clear c35b0
                        try clear c36
                        try clear c36b0
                        try clear c37
                        try clear c37b0
                        try clear c37b1
                        try clear c37b2
                        try clear p38
                        try clear q38
                        try clear hx38
                        try clear hf38
                        try clear c47
                        try clear c47b0
                        try clear hx128_0
                        try clear hx141_0
                        try clear hx38_0
                        try clear p1
                        try clear p12
                        try clear p128
                        try clear p141
                        try clear p2
                        try clear p38
                        try clear p6
                        try clear q1
                        try clear q12
                        try clear q128
                        try clear q141
                        try clear q38
                        obtain ⟨kq, x96_43, rfl, HA, HJ43, HO_8, HB⟩ := hcut
                        cases kq with
                        | zero => exact absurd HA.out (by simp [tachographlaw13_DictPlays.j3])
                        | succ kj43 =>
                          have H := HA.out
                          clear HA
                          simp only [tachographlaw13_DictPlays.j3] at H
                          by_cases c48 : x96_43 = true
                          · subst c48
                            have H1 : ((tachographlaw13_fixed.f).bind fun t150 => (if t150 = true then (if t147.toList = ([] : List UInt8) then (if t148 = true then (some false) else (if t143 = (mx t146 0) then (some (t144 == (decide (t146 ≥ 0)))) else (some false))) else (some false)) else (some false))) = some r := by rw [if_pos rfl] at H; exact H
                            clear H
                            have H := H1
                            clear H1
                            replace H := Option.bind_eq_some_iff.mp H
                            obtain ⟨t150, A490, H⟩ := H
                            replace H : (if t150 = true then (if t147.toList = ([] : List UInt8) then (if t148 = true then (some false) else (if t143 = (mx t146 0) then (some (t144 == (decide (t146 ≥ 0)))) else (some false))) else (some false)) else (some false)) = some r := H
                            have A49 := Aside0.mk A490
                            clear A490
                            by_cases c50 : t150 = true
                            · subst c50
                              have H1 : (if t147.toList = ([] : List UInt8) then (if t148 = true then (some false) else (if t143 = (mx t146 0) then (some (t144 == (decide (t146 ≥ 0)))) else (some false))) else (some false)) = some r := by rw [if_pos rfl] at H; exact H
                              clear H
                              have H := H1
                              clear H1
                              by_cases c51 : t147.toList = ([] : List UInt8)
                              · rw [if_pos c51] at H
                                have c51b0 : (t147.toList == ([] : List UInt8)) = true := beq_iff_eq.mpr c51
                                have c51b1 : (t147.toList != ([] : List UInt8)) = false := bne_eq_false_iff_eq.mpr c51
                                clear c51
                                by_cases c52 : t148 = true
                                · subst c52
                                  have H1 : (some false) = some r := by rw [if_pos rfl] at H; exact H
                                  clear H
                                  have H := H1
                                  clear H1
                                  obtain rfl := Option.some.inj H
                                  go_wp2_with (first | ((with_reducible refine gate_callee (f := 15) rfl ?_); refine goesL_ (some 97) rfl rfl Try.func15 (by kernel_rfl) rfl #[] rfl (by (try simp only [List.map_toArray, List.map_cons, List.map_nil]); first | done | rfl | (simp only [List.length_drop, List.length_take]; rfl) | (refine congrArg (fun z_ => #[z_]) (congrArg (Value.int IntKind.u64) (Eq.symm (Go.Proofs.YtjfklfmfeghjnabAid.wrap_len _ (by omega)))))) ?_; (with_reducible refine (tachographlaw13_fixed.calls  true _ A49.out).mono ?_); rintro e w53 ⟨rfl, hb⟩; refine ⟨_, rfl, ?_⟩; have n0_ := Aside0.mk (Kd.R_below (by (with_reducible repeat (first | apply Kd.R_alloc | apply Kd.R_drewN | apply Kd.R_drew)); exact HO_8.out) hb); have n1_ := Aside0.mk (below_step (by repeat (first | (with_reducible first | exact HB.out | apply below_alloc | apply pw_below_drewN | apply below_drew1) | exact HB.out)) hb); clear HO_8; clear HB; have HO_8 := n0_; have HB := n1_; clear n0_ n1_; (try clear hb); (try clear hb2); (try clear hk); (try clear hi)))
                                  go_ret
                                  exact ⟨by first | rfl | (simp [errW_none, errW_some] <;> rfl) | (simp [*, errW_none, errW_some] <;> rfl), by repeat (first | (with_reducible first | exact HB.out | apply below_alloc | apply pw_below_drewN | apply below_drew1) | exact HB.out)⟩
                                · replace c52 := Bool.eq_false_iff.mpr c52
                                  subst c52
                                  have H1 : (if t143 = (mx t146 0) then (some (t144 == (decide (t146 ≥ 0)))) else (some false)) = some r := by rw [if_neg (show ¬ (false = true) by decide)] at H; exact H
                                  clear H
                                  have H := H1
                                  clear H1
                                  obtain ⟨ji54, hji54⟩ : ∃ j_ : Int, (mx t146 0) = j_ := ⟨_, rfl⟩
                                  replace H : (if t143 = (ji54) then (some (t144 == (decide (t146 ≥ 0)))) else (some false)) = some r := by first | (rw [hji54] at H; exact H) | (simp only [hji54] at H ⊢; exact H)
                                  (try rw [hji54] at A49)
                                  have hji54_ : (if t146 < 0 then 0 else t146) = ji54 := hji54
                                  by_cases c55 : t143 = (ji54)
                                  · rw [if_pos c55] at H
                                    have c55b0 : (t143 == (ji54)) = true := beq_iff_eq.mpr c55
                                    have c55b1 : (t143 != (ji54)) = false := bne_eq_false_iff_eq.mpr c55
                                    clear c55
                                    obtain rfl := Option.some.inj H
                                    go_wp2_with (first | ((with_reducible refine gate_callee (f := 15) rfl ?_); refine goesL_ (some 97) rfl rfl Try.func15 (by kernel_rfl) rfl #[] rfl (by (try simp only [List.map_toArray, List.map_cons, List.map_nil]); first | done | rfl | (simp only [List.length_drop, List.length_take]; rfl) | (refine congrArg (fun z_ => #[z_]) (congrArg (Value.int IntKind.u64) (Eq.symm (Go.Proofs.YtjfklfmfeghjnabAid.wrap_len _ (by omega)))))) ?_; (with_reducible refine (tachographlaw13_fixed.calls  true _ A49.out).mono ?_); rintro e w56 ⟨rfl, hb⟩; refine ⟨_, rfl, ?_⟩; have n0_ := Aside0.mk (Kd.R_below (by (with_reducible repeat (first | apply Kd.R_alloc | apply Kd.R_drewN | apply Kd.R_drew)); exact HO_8.out) hb); have n1_ := Aside0.mk (below_step (by repeat (first | (with_reducible first | exact HB.out | apply below_alloc | apply pw_below_drewN | apply below_drew1) | exact HB.out)) hb); clear HO_8; clear HB; have HO_8 := n0_; have HB := n1_; clear n0_ n1_; (try clear hb); (try clear hb2); (try clear hk); (try clear hi)))
                                    go_ret
                                    exact ⟨by first | rfl | (simp [errW_none, errW_some] <;> rfl) | (simp only [← hji54]; first | rfl | (simp [errW_none, errW_some] <;> rfl)) | (simp [*, errW_none, errW_some] <;> rfl), by repeat (first | (with_reducible first | exact HB.out | apply below_alloc | apply pw_below_drewN | apply below_drew1) | exact HB.out)⟩
                                  · rw [if_neg c55] at H
                                    have c55b0 : (t143 == (ji54)) = false := beq_eq_false_iff_ne.mpr c55
                                    have c55b1 : (t143 != (ji54)) = true := bne_iff_ne.mpr c55
                                    obtain rfl := Option.some.inj H
                                    go_wp2_with (first | ((with_reducible refine gate_callee (f := 15) rfl ?_); refine goesL_ (some 97) rfl rfl Try.func15 (by kernel_rfl) rfl #[] rfl (by (try simp only [List.map_toArray, List.map_cons, List.map_nil]); first | done | rfl | (simp only [List.length_drop, List.length_take]; rfl) | (refine congrArg (fun z_ => #[z_]) (congrArg (Value.int IntKind.u64) (Eq.symm (Go.Proofs.YtjfklfmfeghjnabAid.wrap_len _ (by omega)))))) ?_; (with_reducible refine (tachographlaw13_fixed.calls  true _ A49.out).mono ?_); rintro e w57 ⟨rfl, hb⟩; refine ⟨_, rfl, ?_⟩; have n0_ := Aside0.mk (Kd.R_below (by (with_reducible repeat (first | apply Kd.R_alloc | apply Kd.R_drewN | apply Kd.R_drew)); exact HO_8.out) hb); have n1_ := Aside0.mk (below_step (by repeat (first | (with_reducible first | exact HB.out | apply below_alloc | apply pw_below_drewN | apply below_drew1) | exact HB.out)) hb); clear HO_8; clear HB; have HO_8 := n0_; have HB := n1_; clear n0_ n1_; (try clear hb); (try clear hb2); (try clear hk); (try clear hi)))
                                    go_ret
                                    exact ⟨by first | rfl | (simp [errW_none, errW_some] <;> rfl) | (simp only [← hji54]; first | rfl | (simp [errW_none, errW_some] <;> rfl)) | (simp [*, errW_none, errW_some] <;> rfl), by repeat (first | (with_reducible first | exact HB.out | apply below_alloc | apply pw_below_drewN | apply below_drew1) | exact HB.out)⟩
                              · rw [if_neg c51] at H
                                have c51b0 : (t147.toList == ([] : List UInt8)) = false := beq_eq_false_iff_ne.mpr c51
                                have c51b1 : (t147.toList != ([] : List UInt8)) = true := bne_iff_ne.mpr c51
                                obtain rfl := Option.some.inj H
                                go_wp2_with (first | ((with_reducible refine gate_callee (f := 15) rfl ?_); refine goesL_ (some 97) rfl rfl Try.func15 (by kernel_rfl) rfl #[] rfl (by (try simp only [List.map_toArray, List.map_cons, List.map_nil]); first | done | rfl | (simp only [List.length_drop, List.length_take]; rfl) | (refine congrArg (fun z_ => #[z_]) (congrArg (Value.int IntKind.u64) (Eq.symm (Go.Proofs.YtjfklfmfeghjnabAid.wrap_len _ (by omega)))))) ?_; (with_reducible refine (tachographlaw13_fixed.calls  true _ A49.out).mono ?_); rintro e w58 ⟨rfl, hb⟩; refine ⟨_, rfl, ?_⟩; have n0_ := Aside0.mk (Kd.R_below (by (with_reducible repeat (first | apply Kd.R_alloc | apply Kd.R_drewN | apply Kd.R_drew)); exact HO_8.out) hb); have n1_ := Aside0.mk (below_step (by repeat (first | (with_reducible first | exact HB.out | apply below_alloc | apply pw_below_drewN | apply below_drew1) | exact HB.out)) hb); clear HO_8; clear HB; have HO_8 := n0_; have HB := n1_; clear n0_ n1_; (try clear hb); (try clear hb2); (try clear hk); (try clear hi)))
                                go_ret
                                exact ⟨by first | rfl | (simp [errW_none, errW_some] <;> rfl) | (simp [*, errW_none, errW_some] <;> rfl), by repeat (first | (with_reducible first | exact HB.out | apply below_alloc | apply pw_below_drewN | apply below_drew1) | exact HB.out)⟩
                            · replace c50 := Bool.eq_false_iff.mpr c50
                              subst c50
                              have H1 : (some false) = some r := by rw [if_neg (show ¬ (false = true) by decide)] at H; exact H
                              clear H
                              have H := H1
                              clear H1
                              obtain rfl := Option.some.inj H
                              go_wp2_with (first | ((with_reducible refine gate_callee (f := 15) rfl ?_); refine goesL_ (some 97) rfl rfl Try.func15 (by kernel_rfl) rfl #[] rfl (by (try simp only [List.map_toArray, List.map_cons, List.map_nil]); first | done | rfl | (simp only [List.length_drop, List.length_take]; rfl) | (refine congrArg (fun z_ => #[z_]) (congrArg (Value.int IntKind.u64) (Eq.symm (Go.Proofs.YtjfklfmfeghjnabAid.wrap_len _ (by omega)))))) ?_; (with_reducible refine (tachographlaw13_fixed.calls  false _ A49.out).mono ?_); rintro e w59 ⟨rfl, hb⟩; refine ⟨_, rfl, ?_⟩; have n0_ := Aside0.mk (Kd.R_below (by (with_reducible repeat (first | apply Kd.R_alloc | apply Kd.R_drewN | apply Kd.R_drew)); exact HO_8.out) hb); have n1_ := Aside0.mk (below_step (by repeat (first | (with_reducible first | exact HB.out | apply below_alloc | apply pw_below_drewN | apply below_drew1) | exact HB.out)) hb); clear HO_8; clear HB; have HO_8 := n0_; have HB := n1_; clear n0_ n1_; (try clear hb); (try clear hb2); (try clear hk); (try clear hi)))
                              go_ret
                              exact ⟨by first | rfl | (simp [errW_none, errW_some] <;> rfl) | (simp [*, errW_none, errW_some] <;> rfl), by repeat (first | (with_reducible first | exact HB.out | apply below_alloc | apply pw_below_drewN | apply below_drew1) | exact HB.out)⟩
                          · replace c48 := Bool.eq_false_iff.mpr c48
                            subst c48
                            have H1 : ((tachographlaw13_fixed.f).bind fun t151 => (if t151 = true then (if 0 ≤ a2 then (if a2 < (x8_2.length : Int) then (if t147.toList = (rdOf ByteArray.empty x8_2 a2).toList then (if t148 = true then (if t143 = (mx t146 0) then (some (t144 == (decide (t146 ≥ 0)))) else (some false)) else (some false)) else (some false)) else (none)) else (none)) else (some false))) = some r := by rw [if_neg (show ¬ (false = true) by decide)] at H; exact H
                            clear H
                            have H := H1
                            clear H1
                            replace H := Option.bind_eq_some_iff.mp H
                            obtain ⟨t151, A600, H⟩ := H
                            replace H : (if t151 = true then (if 0 ≤ a2 then (if a2 < (x8_2.length : Int) then (if t147.toList = (rdOf ByteArray.empty x8_2 a2).toList then (if t148 = true then (if t143 = (mx t146 0) then (some (t144 == (decide (t146 ≥ 0)))) else (some false)) else (some false)) else (some false)) else (none)) else (none)) else (some false)) = some r := H
                            have A60 := Aside0.mk A600
                            clear A600
                            by_cases c61 : t151 = true
                            · subst c61
                              have H1 : (if 0 ≤ a2 then (if a2 < (x8_2.length : Int) then (if t147.toList = (rdOf ByteArray.empty x8_2 a2).toList then (if t148 = true then (if t143 = (mx t146 0) then (some (t144 == (decide (t146 ≥ 0)))) else (some false)) else (some false)) else (some false)) else (none)) else (none)) = some r := by rw [if_pos rfl] at H; exact H
                              clear H
                              have H := H1
                              clear H1
                              by_cases c62 : 0 ≤ a2
                              · rw [if_pos c62] at H
                                have c62b0 : decide (0 ≤ a2) = true := decide_eq_true c62
                                clear c62
                                by_cases c63 : a2 < (x8_2.length : Int)
                                · rw [if_pos c63] at H
                                  have c63b0 : decide (a2 < (x8_2.length : Int)) = true := decide_eq_true c63
                                  (try simp only [hl13_3] at c63b0)
                                  clear c63
                                  by_cases c64 : t147.toList = (rdOf ByteArray.empty x8_2 a2).toList
                                  · rw [if_pos c64] at H
                                    have c64b0 : (t147.toList == (rdOf ByteArray.empty x8_2 a2).toList) = true := beq_iff_eq.mpr c64
                                    have c64b1 : (t147.toList != (rdOf ByteArray.empty x8_2 a2).toList) = false := bne_eq_false_iff_eq.mpr c64
                                    clear c64
                                    by_cases c65 : t148 = true
                                    · subst c65
                                      have H1 : (if t143 = (mx t146 0) then (some (t144 == (decide (t146 ≥ 0)))) else (some false)) = some r := by rw [if_pos rfl] at H; exact H
                                      clear H
                                      have H := H1
                                      clear H1
                                      obtain ⟨ji66, hji66⟩ : ∃ j_ : Int, (mx t146 0) = j_ := ⟨_, rfl⟩
                                      replace H : (if t143 = (ji66) then (some (t144 == (decide (t146 ≥ 0)))) else (some false)) = some r := by first | (rw [hji66] at H; exact H) | (simp only [hji66] at H ⊢; exact H)
                                      (try rw [hji66] at A60)
                                      have hji66_ : (if t146 < 0 then 0 else t146) = ji66 := hji66
                                      by_cases c67 : t143 = (ji66)
                                      · rw [if_pos c67] at H
                                        have c67b0 : (t143 == (ji66)) = true := beq_iff_eq.mpr c67
                                        have c67b1 : (t143 != (ji66)) = false := bne_eq_false_iff_eq.mpr c67
                                        clear c67
                                        obtain rfl := Option.some.inj H
                                        go_wp2_with (first | ((with_reducible refine gate_callee (f := 15) rfl ?_); refine goesL_ (some 118) rfl rfl Try.func15 (by kernel_rfl) rfl #[] rfl (by (try simp only [List.map_toArray, List.map_cons, List.map_nil]); first | done | rfl | (simp only [List.length_drop, List.length_take]; rfl) | (refine congrArg (fun z_ => #[z_]) (congrArg (Value.int IntKind.u64) (Eq.symm (Go.Proofs.YtjfklfmfeghjnabAid.wrap_len _ (by omega)))))) ?_; (with_reducible refine (tachographlaw13_fixed.calls  true _ A60.out).mono ?_); rintro e w68 ⟨rfl, hb⟩; refine ⟨_, rfl, ?_⟩; have n0_ := Aside0.mk (Kd.R_below (by (with_reducible repeat (first | apply Kd.R_alloc | apply Kd.R_drewN | apply Kd.R_drew)); exact HO_8.out) hb); have n1_ := Aside0.mk (below_step (by repeat (first | (with_reducible first | exact HB.out | apply below_alloc | apply pw_below_drewN | apply below_drew1) | exact HB.out)) hb); clear HO_8; clear HB; have HO_8 := n0_; have HB := n1_; clear n0_ n1_; (try clear hb); (try clear hb2); (try clear hk); (try clear hi); have p152 : 0 ≤ (a2 : Int) := of_decide_eq_true (by first | (with_reducible assumption) | assumption); have q152 : a2 < (x8_2.length : Int) := of_decide_eq_true (by first | (with_reducible assumption) | assumption); obtain ⟨ad152, e152, hx152_0⟩ := Kd.at_string (Kd.R_reads' HO_8.out).2.2 a2 p152 q152; cases e152; replace p152 := eq_true p152; replace q152 := eq_true q152))
                                        go_ret
                                        exact ⟨by first | rfl | (simp [errW_none, errW_some] <;> rfl) | (simp only [← hji66]; first | rfl | (simp [errW_none, errW_some] <;> rfl)) | (simp [*, errW_none, errW_some] <;> rfl), by repeat (first | (with_reducible first | exact HB.out | apply below_alloc | apply pw_below_drewN | apply below_drew1) | exact HB.out)⟩
                                      · rw [if_neg c67] at H
                                        have c67b0 : (t143 == (ji66)) = false := beq_eq_false_iff_ne.mpr c67
                                        have c67b1 : (t143 != (ji66)) = true := bne_iff_ne.mpr c67
                                        obtain rfl := Option.some.inj H
                                        go_wp2_with (first | ((with_reducible refine gate_callee (f := 15) rfl ?_); refine goesL_ (some 118) rfl rfl Try.func15 (by kernel_rfl) rfl #[] rfl (by (try simp only [List.map_toArray, List.map_cons, List.map_nil]); first | done | rfl | (simp only [List.length_drop, List.length_take]; rfl) | (refine congrArg (fun z_ => #[z_]) (congrArg (Value.int IntKind.u64) (Eq.symm (Go.Proofs.YtjfklfmfeghjnabAid.wrap_len _ (by omega)))))) ?_; (with_reducible refine (tachographlaw13_fixed.calls  true _ A60.out).mono ?_); rintro e w69 ⟨rfl, hb⟩; refine ⟨_, rfl, ?_⟩; have n0_ := Aside0.mk (Kd.R_below (by (with_reducible repeat (first | apply Kd.R_alloc | apply Kd.R_drewN | apply Kd.R_drew)); exact HO_8.out) hb); have n1_ := Aside0.mk (below_step (by repeat (first | (with_reducible first | exact HB.out | apply below_alloc | apply pw_below_drewN | apply below_drew1) | exact HB.out)) hb); clear HO_8; clear HB; have HO_8 := n0_; have HB := n1_; clear n0_ n1_; (try clear hb); (try clear hb2); (try clear hk); (try clear hi); have p152 : 0 ≤ (a2 : Int) := of_decide_eq_true (by first | (with_reducible assumption) | assumption); have q152 : a2 < (x8_2.length : Int) := of_decide_eq_true (by first | (with_reducible assumption) | assumption); obtain ⟨ad152, e152, hx152_0⟩ := Kd.at_string (Kd.R_reads' HO_8.out).2.2 a2 p152 q152; cases e152; replace p152 := eq_true p152; replace q152 := eq_true q152))
                                        go_ret
                                        exact ⟨by first | rfl | (simp [errW_none, errW_some] <;> rfl) | (simp only [← hji66]; first | rfl | (simp [errW_none, errW_some] <;> rfl)) | (simp [*, errW_none, errW_some] <;> rfl), by repeat (first | (with_reducible first | exact HB.out | apply below_alloc | apply pw_below_drewN | apply below_drew1) | exact HB.out)⟩
                                    · replace c65 := Bool.eq_false_iff.mpr c65
                                      subst c65
                                      have H1 : (some false) = some r := by rw [if_neg (show ¬ (false = true) by decide)] at H; exact H
                                      clear H
                                      have H := H1
                                      clear H1
                                      obtain rfl := Option.some.inj H
                                      go_wp2_with (first | ((with_reducible refine gate_callee (f := 15) rfl ?_); refine goesL_ (some 118) rfl rfl Try.func15 (by kernel_rfl) rfl #[] rfl (by (try simp only [List.map_toArray, List.map_cons, List.map_nil]); first | done | rfl | (simp only [List.length_drop, List.length_take]; rfl) | (refine congrArg (fun z_ => #[z_]) (congrArg (Value.int IntKind.u64) (Eq.symm (Go.Proofs.YtjfklfmfeghjnabAid.wrap_len _ (by omega)))))) ?_; (with_reducible refine (tachographlaw13_fixed.calls  true _ A60.out).mono ?_); rintro e w70 ⟨rfl, hb⟩; refine ⟨_, rfl, ?_⟩; have n0_ := Aside0.mk (Kd.R_below (by (with_reducible repeat (first | apply Kd.R_alloc | apply Kd.R_drewN | apply Kd.R_drew)); exact HO_8.out) hb); have n1_ := Aside0.mk (below_step (by repeat (first | (with_reducible first | exact HB.out | apply below_alloc | apply pw_below_drewN | apply below_drew1) | exact HB.out)) hb); clear HO_8; clear HB; have HO_8 := n0_; have HB := n1_; clear n0_ n1_; (try clear hb); (try clear hb2); (try clear hk); (try clear hi); have p152 : 0 ≤ (a2 : Int) := of_decide_eq_true (by first | (with_reducible assumption) | assumption); have q152 : a2 < (x8_2.length : Int) := of_decide_eq_true (by first | (with_reducible assumption) | assumption); obtain ⟨ad152, e152, hx152_0⟩ := Kd.at_string (Kd.R_reads' HO_8.out).2.2 a2 p152 q152; cases e152; replace p152 := eq_true p152; replace q152 := eq_true q152))
                                      go_ret
                                      exact ⟨by first | rfl | (simp [errW_none, errW_some] <;> rfl) | (simp [*, errW_none, errW_some] <;> rfl), by repeat (first | (with_reducible first | exact HB.out | apply below_alloc | apply pw_below_drewN | apply below_drew1) | exact HB.out)⟩
                                  · rw [if_neg c64] at H
                                    have c64b0 : (t147.toList == (rdOf ByteArray.empty x8_2 a2).toList) = false := beq_eq_false_iff_ne.mpr c64
                                    have c64b1 : (t147.toList != (rdOf ByteArray.empty x8_2 a2).toList) = true := bne_iff_ne.mpr c64
                                    obtain rfl := Option.some.inj H
                                    go_wp2_with (first | ((with_reducible refine gate_callee (f := 15) rfl ?_); refine goesL_ (some 118) rfl rfl Try.func15 (by kernel_rfl) rfl #[] rfl (by (try simp only [List.map_toArray, List.map_cons, List.map_nil]); first | done | rfl | (simp only [List.length_drop, List.length_take]; rfl) | (refine congrArg (fun z_ => #[z_]) (congrArg (Value.int IntKind.u64) (Eq.symm (Go.Proofs.YtjfklfmfeghjnabAid.wrap_len _ (by omega)))))) ?_; (with_reducible refine (tachographlaw13_fixed.calls  true _ A60.out).mono ?_); rintro e w71 ⟨rfl, hb⟩; refine ⟨_, rfl, ?_⟩; have n0_ := Aside0.mk (Kd.R_below (by (with_reducible repeat (first | apply Kd.R_alloc | apply Kd.R_drewN | apply Kd.R_drew)); exact HO_8.out) hb); have n1_ := Aside0.mk (below_step (by repeat (first | (with_reducible first | exact HB.out | apply below_alloc | apply pw_below_drewN | apply below_drew1) | exact HB.out)) hb); clear HO_8; clear HB; have HO_8 := n0_; have HB := n1_; clear n0_ n1_; (try clear hb); (try clear hb2); (try clear hk); (try clear hi); have p152 : 0 ≤ (a2 : Int) := of_decide_eq_true (by first | (with_reducible assumption) | assumption); have q152 : a2 < (x8_2.length : Int) := of_decide_eq_true (by first | (with_reducible assumption) | assumption); obtain ⟨ad152, e152, hx152_0⟩ := Kd.at_string (Kd.R_reads' HO_8.out).2.2 a2 p152 q152; cases e152; replace p152 := eq_true p152; replace q152 := eq_true q152))
                                    go_ret
                                    exact ⟨by first | rfl | (simp [errW_none, errW_some] <;> rfl) | (simp [*, errW_none, errW_some] <;> rfl), by repeat (first | (with_reducible first | exact HB.out | apply below_alloc | apply pw_below_drewN | apply below_drew1) | exact HB.out)⟩
                                · rw [if_neg c63] at H
                                  exact absurd H (by simp)
                              · rw [if_neg c62] at H
                                exact absurd H (by simp)
                            · replace c61 := Bool.eq_false_iff.mpr c61
                              subst c61
                              have H1 : (some false) = some r := by rw [if_neg (show ¬ (false = true) by decide)] at H; exact H
                              clear H
                              have H := H1
                              clear H1
                              obtain rfl := Option.some.inj H
                              go_wp2_with (first | ((with_reducible refine gate_callee (f := 15) rfl ?_); refine goesL_ (some 118) rfl rfl Try.func15 (by kernel_rfl) rfl #[] rfl (by (try simp only [List.map_toArray, List.map_cons, List.map_nil]); first | done | rfl | (simp only [List.length_drop, List.length_take]; rfl) | (refine congrArg (fun z_ => #[z_]) (congrArg (Value.int IntKind.u64) (Eq.symm (Go.Proofs.YtjfklfmfeghjnabAid.wrap_len _ (by omega)))))) ?_; (with_reducible refine (tachographlaw13_fixed.calls  false _ A60.out).mono ?_); rintro e w72 ⟨rfl, hb⟩; refine ⟨_, rfl, ?_⟩; have n0_ := Aside0.mk (Kd.R_below (by (with_reducible repeat (first | apply Kd.R_alloc | apply Kd.R_drewN | apply Kd.R_drew)); exact HO_8.out) hb); have n1_ := Aside0.mk (below_step (by repeat (first | (with_reducible first | exact HB.out | apply below_alloc | apply pw_below_drewN | apply below_drew1) | exact HB.out)) hb); clear HO_8; clear HB; have HO_8 := n0_; have HB := n1_; clear n0_ n1_; (try clear hb); (try clear hb2); (try clear hk); (try clear hi)))
                              go_ret
                              exact ⟨by first | rfl | (simp [errW_none, errW_some] <;> rfl) | (simp [*, errW_none, errW_some] <;> rfl), by repeat (first | (with_reducible first | exact HB.out | apply below_alloc | apply pw_below_drewN | apply below_drew1) | exact HB.out)⟩
              · replace c30 := Bool.eq_false_iff.mpr c30
                subst c30
                have H1 : (some false) = some r := by rw [if_neg (show ¬ (false = true) by decide)] at H; exact H
                clear H
                have H := H1
                clear H1
                obtain rfl := Option.some.inj H
                go_wp2_with (first | ((with_reducible refine gate_callee (f := 19) rfl ?_); refine goesL_ (some 57) rfl rfl Try.func19 (by kernel_rfl) rfl #[.pointer (some ⟨g124, 0, none⟩)] rfl (by (try simp only [List.map_toArray, List.map_cons, List.map_nil]); first | done | rfl | (simp only [List.length_drop, List.length_take]; rfl) | (refine congrArg (fun z_ => #[z_]) (congrArg (Value.int IntKind.u64) (Eq.symm (Go.Proofs.YtjfklfmfeghjnabAid.wrap_len _ (by omega)))))) ?_; (with_reducible refine (dict_Dict_All.calls g124 x125000_2 t136 t139 w _ ?side1 ?side2 A28.out).mono ?_); (case side1 => repeat (first | (with_reducible first | exact HI124.out | apply IsS100.alloc | apply IsS100.drewN | apply IsS100.drew | apply IsS100.set_0) | exact HI124.out)); (case side2 => repeat (first | (with_reducible first | exact HB.out | apply below_alloc | apply pw_below_drewN | apply below_drew1 | refine below_set ?_ (IsS100.ge HI124.out)) | exact HB.out)); rintro e w73 ⟨v137, rfl, ho0, hi, hb, hk, hbl⟩; refine ⟨_, rfl, ?_⟩; have HAl_ := Aside0.mk (show Go.Proofs.YtjfklfmfeghjnabAid.DAp w73 g124 v137 from (Go.Proofs.YtjfklfmfeghjnabAid.DAp.fresh HI124.out (Kd.R_base ho0)).of_heap (hbl.block _ (IsS100.lt HI124.out))); have n0_ := Aside0.mk (Kd.R_mono (Kd.R_told (Kd.R_oldK (IsS100.apart (show IsS100 w _ g124 x125000_2 from by repeat (first | (with_reducible first | exact HI124.out | apply IsS100.alloc | apply IsS100.drewN | apply IsS100.drew | apply IsS100.set_0) | exact HI124.out)) (by (with_reducible repeat (first | apply Kd.R_alloc | apply Kd.R_drewN | apply Kd.R_drew)); exact HO_8.out) (by decide)) hk) (Kd.R_base ho0)) (fun _ h_ => h_.1)); have n1_ := Aside0.mk (Kd.R_lower (Kd.R_new' ho0 (Kd.R_lt (by (with_reducible repeat (first | apply Kd.R_alloc | apply Kd.R_drewN | apply Kd.R_drew)); exact HO_8.out))) (below_size (by repeat (first | (with_reducible first | exact HB.out | apply below_alloc | apply pw_below_drewN | apply below_drew1 | refine below_set ?_ (IsS100.ge HI124.out)) | exact HB.out)))); have n2_ := Aside0.mk (hb); have n3_ := Aside0.mk (hi); clear HO_8; clear HB; clear HI124; have HO_8 := n0_; have HO138 := n1_; have HB := n2_; have HI124 := n3_; clear n0_ n1_ n2_ n3_; (try clear hb); (try clear hb2); (try clear hk); (try clear hbl); (try clear hi); (try clear ho0); obtain ⟨Ao74, co74, eo74⟩ := Kd.R_slice HO138.out; subst eo74; obtain ⟨Ao75, co75, eo75⟩ := Kd.R_slice HO_8.out; subst eo75) | ((with_reducible refine gate_callee (f := 20) rfl ?_); refine goesL_ (some 60) rfl rfl Try.func20 (by kernel_rfl) rfl #[.slice Ao74 t136.length co74, .slice Ao75 x8_2.length co75] rfl (by (try simp only [List.map_toArray, List.map_cons, List.map_nil]); first | done | rfl | (simp only [List.length_drop, List.length_take]; rfl) | (refine congrArg (fun z_ => #[z_]) (congrArg (Value.int IntKind.u64) (Eq.symm (Go.Proofs.YtjfklfmfeghjnabAid.wrap_len _ (by omega)))))) ?_; (with_reducible refine (tachographref02_Same.calls k2 _ _ t136 _ _ x8_2 false _ ?side1 ?side2 ?side3 ?side4 A29.out).mono ?_); (case side1 => repeat (first | exact (Kd.R_reads' HO138.out).2.2 | (with_reducible refine Kd.C_alloc ?_ _) | (with_reducible refine Kd.C_drewN ?_ _) | (with_reducible refine Kd.C_drew ?_))); (case side2 => exact (Kd.R_reads' HO138.out).2.1); (case side3 => repeat (first | exact (Kd.R_reads' HO_8.out).2.2 | (with_reducible refine Kd.C_alloc ?_ _) | (with_reducible refine Kd.C_drewN ?_ _) | (with_reducible refine Kd.C_drew ?_))); (case side4 => exact (Kd.R_reads' HO_8.out).2.1); rintro e w' ⟨rfl, ⟨nd, rfl⟩⟩; refine ⟨_, rfl, ?_⟩))
                go_ret
                exact ⟨by first | rfl | (simp [errW_none, errW_some] <;> rfl) | (simp [*, errW_none, errW_some] <;> rfl), by repeat (first | (with_reducible first | exact HB.out | apply below_alloc | apply pw_below_drewN | apply below_drew1 | refine below_set ?_ (IsS100.ge HI124.out)) | exact HB.out)⟩

set_option maxRecDepth 100000 in
theorem tachographlaw13_DictPlays.laid0 : Go.Proofs.YtjfklfmfeghjnabOpen.Laid Try.prog 9 Kd.string Go.Proofs.YtjfklfmfeghjnabOpen.strOk := (Go.Proofs.YtjfklfmfeghjnabOpen.laid_string Try.underlying9 (by kernel_rfl))
/-- THE ONE PURE STATEMENT of tachographlaw13_DictPlays: yours. -/
def tachographlaw13_DictPlays.Pure : Prop := ∀ (l0 : List ByteArray) (a1 : ByteArray) (a2 : Int), (Go.Proofs.YtjfklfmfeghjnabOpen.sliceOk 16 Go.Proofs.YtjfklfmfeghjnabOpen.strOk) l0 → a1.size ≤ 140737488351232 → (Lit.int .i64 a2).wf = true → ∃ k, tachographlaw13_DictPlays.f k l0 a1 a2 = some true
theorem tachographlaw13_DictPlays.walk (P : tachographlaw13_DictPlays.Pure) (a0 : Option Addr) (cap0 : Nat) (l0 : List ByteArray) (a1 : ByteArray) (a2 : Int) (w : World) (w0 : (Go.Proofs.YtjfklfmfeghjnabOpen.sliceOk 16 Go.Proofs.YtjfklfmfeghjnabOpen.strOk) l0) (e0 : l0.length ≤ cap0) (C0 : Kd.C Kd.string w a0 l0.length l0) (w1 : a1.size ≤ 140737488351232) (w2 : (Lit.int .i64 a2).wf = true) :
    Calls Try.prog 3 #[.slice a0 l0.length cap0, .string a1, .int .i64 a2] w fun e w' => e = .returned (.bool true) ∧ Below w.heap.size w w' := by
  obtain ⟨k, h⟩ := P l0 a1 a2 w0 w1 w2
  refine (tachographlaw13_DictPlays.calls k _ _ l0 a1 a2 true w C0 e0 h).mono ?_
  rintro e w' ⟨rfl, hd⟩
  exact ⟨rfl, hd⟩

end Go.Proofs.Ytjfklfmfeghjnab.PD
