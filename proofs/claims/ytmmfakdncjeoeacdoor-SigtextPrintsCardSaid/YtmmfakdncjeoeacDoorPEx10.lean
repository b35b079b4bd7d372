-- Contracts of Go functions, each with its plain Lean function: written by wip/tools/myprint.py of this work (the kit's print, with contracts proved by hand spliced in).
import Derived.Test.YtmmfakdncjeoeacDoorPEx0
import Derived.Test.YtmmfakdncjeoeacDoorPEx3
namespace Go.Proofs.YtmmfakdncjeoeacDoor.PE
open Go.RowKit Go.Proofs.YtmmfakdncjeoeacDoorW.PrintWords Go.Proofs.YtmmfakdncjeoeacDoorW.PrintLast Go.Proofs.YtmmfakdncjeoeacDoorW.PrintMore
attribute [local go_sem] max2_int min2_int max_two min_two max_three min_three max_four min_four   -- for this text's walks alone
set_option linter.unusedVariables false
set_option linter.unusedSimpArgs false

/-! ### sig_Check: function 22 -/
section
open Go.Proofs.YtmmfakdncjeoeacDoorAid Go.Maps
theorem sig_Check.keyOf (s : ByteArray) (hs : s.size ≤ 9223372036854775807) : Go.keyOf Tryd.prog 69 (.agg #[.string s]) = some (.string (keyBytes [.string s.data.toList])) := by
  have h1 : Tryd.prog.keyType 69 = true := by kernel_rfl
  have h2 : Tryd.prog.cellsOf 69 = 1 := by kernel_rfl
  have h3 : Tryd.prog.cellsOf 9 = 1 := by kernel_rfl
  have h4 : (Value.agg #[.string s]).formed Tryd.prog 69 = true := by simp [Value.formed, Tryd.underlying69, h2]
  have h6 : Tryd.prog.types.size + 1 = (Tryd.prog.types.size - 1) + 1 + 1 := by
    have : 0 < Tryd.prog.types.size := of_decide_eq_true (by kernel_rfl)
    omega
  have h5 : Tryd.prog.keyLits (Tryd.prog.types.size + 1) 69 [.string s] = some [.string s.data.toList] := by
    rw [h6]
    generalize Tryd.prog.types.size - 1 = m
    unfold Program.keyLits
    rw [Tryd.underlying69]
    simp only [h2, List.length_cons, List.length_nil]
    unfold Program.keyLits
    simp [Tryd.underlying9, h3, maxLen, hs]
  unfold Go.keyOf
  rw [Tryd.underlying69]
  simp only [h1, h4, Bool.and_self, if_true]
  show (Tryd.prog.keyLits (Tryd.prog.types.size + 1) 69 [.string s]).map _ = _
  rw [h5]
  rfl
def sig_Check.ok (s : ByteArray) : Prop := s.size ≤ 9223372036854775807
def sig_Check.kl (s : ByteArray) : Lit := .string (keyBytes [.string s.data.toList])
theorem sig_Check.keyAs : KeyAs Tryd.prog 69 sig_Check.ok (fun s => .agg #[.string s]) sig_Check.kl where
  K := Keyed.of_law (deep_law_gate (by kernel_rfl) (of_decide_eq_true (by kernel_rfl)) (of_decide_eq_true (by kernel_rfl)) (by kernel_rfl) (by kernel_rfl))
  key := sig_Check.keyOf
  inj := fun x y h => by
    injection h with h
    injection h with h
    injection h with h
    injection h
abbrev sig_Check.M (w : World) (b : Nat) (acc : List ByteArray) : Prop := HasKeys Tryd.prog 69 3 sig_Check.ok sig_Check.kl w b acc
mutual
def sig_Check.l0 : Nat → List ByteArray → List (S41) → Int → Int → Option (Int)
  | 0, _, _, _, _ => none
  | k + 1, x3, x14, x15, x16 => if x16 < x15 then (if 0 ≤ x16 then (if x16 < (x14.length : Int) then (if ((rd_T41 x14 x16).f0).size ≤ 9223372036854775807 then (if ((rd_T41 x14 x16).f0) ∈ x3 then (sig_Check.j1 k x3 x14 x15 x16 true ((rd_T41 x14 x16).f0) ((rd_T41 x14 x16).f1)) else ((sig_Name.f k ((rd_T41 x14 x16).f0)).bind fun t423 => (sig_Check.j1 k x3 x14 x15 x16 (!t423) ((rd_T41 x14 x16).f0) ((rd_T41 x14 x16).f1)))) else (none)) else (none)) else (none)) else (some 0)
def sig_Check.j1 : Nat → List ByteArray → List (S41) → Int → Int → Bool → ByteArray → List Int → Option (Int)
  | 0, _, _, _, _, _, _, _ => none
  | k + 1, x3, x14, x15, x16, x35, x423000, x423001 => if x35 = true then (some 9) else (if x3.length < 8796093022208 then (if (x423001.length : Int) > 8 then (some 6) else (sig_Check.l1 k (x3 ++ [x423000]) x14 x15 x16 x423001 (x423001.length : Int) 0)) else (none))
def sig_Check.l1 : Nat → List ByteArray → List (S41) → Int → Int → List Int → Int → Int → Option (Int)
  | 0, _, _, _, _, _, _, _ => none
  | k + 1, x3, x14, x15, x16, x46, x47, x48 => if x48 < x47 then (if 0 ≤ x48 then (if x48 < (x46.length : Int) then (if (rd x46 x48) = 1 then (sig_Check.l1 k x3 x14 x15 x16 x46 x47 (wrap64 (x48 + 1))) else (if (rd x46 x48) = 2 then (sig_Check.l1 k x3 x14 x15 x16 x46 x47 (wrap64 (x48 + 1))) else (some 7))) else (none)) else (none)) else (sig_Check.l0 k x3 x14 x15 (wrap64 (x16 + 1)))
end
def sig_Check.f (k : Nat) (l0 : List (S41)) : Option (Int) := if (l0.length : Int) > 64 then (some 6) else (sig_Check.l0 k (([] : List ByteArray)) l0 (l0.length : Int) 0)
theorem sig_Check.mono_l : ∀ k, (∀ y0 y1 y2 y3, LeO (sig_Check.l0 k y0 y1 y2 y3) (sig_Check.l0 (k + 1) y0 y1 y2 y3)) ∧ (∀ y0 y1 y2 y3 y4 y5 y6, LeO (sig_Check.j1 k y0 y1 y2 y3 y4 y5 y6) (sig_Check.j1 (k + 1) y0 y1 y2 y3 y4 y5 y6)) ∧ (∀ y0 y1 y2 y3 y4 y5 y6, LeO (sig_Check.l1 k y0 y1 y2 y3 y4 y5 y6) (sig_Check.l1 (k + 1) y0 y1 y2 y3 y4 y5 y6))
  | 0 => ⟨fun _ _ _ _ r h => by simp [sig_Check.l0] at h, fun _ _ _ _ _ _ _ r h => by simp [sig_Check.j1] at h, fun _ _ _ _ _ _ _ r h => by simp [sig_Check.l1] at h⟩
  | k + 1 => by
    obtain ⟨ih0, ih1, ih2⟩ := sig_Check.mono_l k
    refine ⟨?_, ?_, ?_⟩
    · intro y0 y1 y2 y3
      unfold sig_Check.l0
      repeat' first
      | (with_reducible exact ih0 _ _ _ _)
      | (with_reducible exact ih1 _ _ _ _ _ _ _)
      | (with_reducible exact ih2 _ _ _ _ _ _ _)
      | (with_reducible exact sig_Name.mono _ _)
      | (with_reducible exact LeO.refl _)
      | (with_reducible exact LeO.none _)
      | (with_reducible refine LeO.ite ?_ ?_)
      | (with_reducible refine LeO.bind ?_ (fun _ => ?_))
      | exact ih0 _ _ _ _
      | exact ih1 _ _ _ _ _ _ _
      | exact ih2 _ _ _ _ _ _ _
      | exact sig_Name.mono _ _
      | exact LeO.none _
      | refine LeO.ite ?_ ?_
      | refine LeO.bind ?_ (fun _ => ?_)
    · intro y0 y1 y2 y3 y4 y5 y6
      unfold sig_Check.j1
      repeat' first
      | (with_reducible exact ih0 _ _ _ _)
      | (with_reducible exact ih1 _ _ _ _ _ _ _)
      | (with_reducible exact ih2 _ _ _ _ _ _ _)
      | (with_reducible exact sig_Name.mono _ _)
      | (with_reducible exact LeO.refl _)
      | (with_reducible exact LeO.none _)
      | (with_reducible refine LeO.ite ?_ ?_)
      | (with_reducible refine LeO.bind ?_ (fun _ => ?_))
      | exact ih0 _ _ _ _
      | exact ih1 _ _ _ _ _ _ _
      | exact ih2 _ _ _ _ _ _ _
      | exact sig_Name.mono _ _
      | exact LeO.none _
      | refine LeO.ite ?_ ?_
      | refine LeO.bind ?_ (fun _ => ?_)
    · intro y0 y1 y2 y3 y4 y5 y6
      unfold sig_Check.l1
      repeat' first
      | (with_reducible exact ih0 _ _ _ _)
      | (with_reducible exact ih1 _ _ _ _ _ _ _)
      | (with_reducible exact ih2 _ _ _ _ _ _ _)
      | (with_reducible exact sig_Name.mono _ _)
      | (with_reducible exact LeO.refl _)
      | (with_reducible exact LeO.none _)
      | (with_reducible refine LeO.ite ?_ ?_)
      | (with_reducible refine LeO.bind ?_ (fun _ => ?_))
      | exact ih0 _ _ _ _
      | exact ih1 _ _ _ _ _ _ _
      | exact ih2 _ _ _ _ _ _ _
      | exact sig_Name.mono _ _
      | exact LeO.none _
      | refine LeO.ite ?_ ?_
      | refine LeO.bind ?_ (fun _ => ?_)
theorem sig_Check.mono : ∀ a0 k, LeO (sig_Check.f k a0) (sig_Check.f (k + 1) a0) := by
  intro a0 k
  obtain ⟨ih0, ih1, ih2⟩ := sig_Check.mono_l k
  unfold sig_Check.f
  repeat' first
      | (with_reducible exact ih0 _ _ _ _)
      | (with_reducible exact ih1 _ _ _ _ _ _ _)
      | (with_reducible exact ih2 _ _ _ _ _ _ _)
      | (with_reducible exact sig_Name.mono _ _)
      | (with_reducible exact LeO.refl _)
      | (with_reducible exact LeO.none _)
      | (with_reducible refine LeO.ite ?_ ?_)
      | (with_reducible refine LeO.bind ?_ (fun _ => ?_))
      | exact ih0 _ _ _ _
      | exact ih1 _ _ _ _ _ _ _
      | exact ih2 _ _ _ _ _ _ _
      | exact sig_Name.mono _ _
      | exact LeO.none _
      | refine LeO.ite ?_ ?_
      | refine LeO.bind ?_ (fun _ => ?_)
set_option maxHeartbeats 8000000 in
set_option maxRecDepth 100000 in
theorem sig_Check.calls (k : Nat) (A0 : Option Addr) (c0 : Nat) (l0 : List (S41)) (r : Int) (w : World) (hr0 : Kd.C k41 w A0 l0.length l0) (hc0 : l0.length ≤ c0) (h : sig_Check.f k l0 = some r) :
    Calls Tryd.prog 22 #[.slice A0 l0.length c0] w fun e w' => e = .returned (.int .i64 r) ∧ Below w.heap.size w w' := by
  have hu41 := Tryd.underlying41
  have HR0 := Aside0.mk hr0
  have HC0 := Aside0.mk hc0
  clear hr0 hc0
  have HB := Aside0.mk (Below.refl w.heap.size w)
  have H : (if (l0.length : Int) > 64 then (some 6) else (sig_Check.l0 k (([] : List ByteArray)) l0 (l0.length : Int) 0)) = some r := h
  clear h
  by_cases c2 : (l0.length : Int) > 64
  · rw [if_pos c2] at H
    have c2b0 : decide (64 < (l0.length : Int)) = true := decide_eq_true c2
    have c2b1 : decide (64 < l0.length) = true := decide_eq_true (by omega)
    clear c2
    obtain rfl := Option.some.inj H
    go_enter Tryd.func22, Tryd.ntmps22
    go_wp2
    go_ret
    exact ⟨by first | rfl | (simp [errW_none, errW_some] <;> rfl) | (simp [*, errW_none, errW_some] <;> rfl), by repeat (first | (with_reducible first | exact HB.out | apply below_alloc | apply pw_below_drewN | apply below_drew1) | exact HB.out)⟩
  · rw [if_neg c2] at H
    have c2b0 : decide (64 < (l0.length : Int)) = false := decide_eq_false c2
    have c2b1 : decide (64 < l0.length) = false := decide_eq_false (by omega)
    have HL := Aside0.mk (show l0.length ≤ 64 by omega)
    clear c2
    obtain ⟨y418, hy418⟩ : ∃ y_ : List ByteArray, y_ = (([] : List ByteArray)) := ⟨_, rfl⟩
    replace H : (sig_Check.l0 k y418 l0 (l0.length : Int) 0) = some r := by first | (rw [hy418]; with_reducible exact H) | (have H2_ := (Option.bind_some _ _).symm.trans H; rw [hy418]; with_reducible exact H2_) | (have H2_ := (Option.bind_some _ _).symm.trans H; with_reducible exact H2_) | with_reducible exact H | (rw [hy418]; exact H) | exact H
    have Ny418 := Aside0.mk hy418
    clear hy418
    have H' := Aside0.mk H
    clear H
    go_enter Tryd.func22, Tryd.ntmps22
    go_wp2_with (first | ((with_reducible refine gate_dst (N := 13) rfl ?_); refine map_event (k := 69) (e := 3) (ok := sig_Check.ok) (kl := sig_Check.kl) rfl (N := 13) rfl 70 rfl ?_; intro gm w3 hgm ho4 hb hg_; clear hg_; rw [← Ny418.out] at ho4; have n0_ := Aside0.mk (show sig_Check.M _ gm y418 from ho4.keys); have n1_ := Aside0.mk (below_step (by repeat (first | (with_reducible first | exact HB.out | apply below_alloc | apply pw_below_drewN | apply below_drew1) | exact HB.out)) hb); have n2_ := Aside0.mk ((by rw [hgm]; exact (below_size (by repeat (first | (with_reducible first | exact HB.out | apply below_alloc | apply pw_below_drewN | apply below_drew1) | exact HB.out)))) : w.heap.size ≤ gm); clear HB; have HO420 := n0_; have HB := n1_; have GM := n2_; clear n0_ n1_ n2_; clear hb ho4 hgm))
    go_loopg [16] k (fun kq v16 w' => ∃ (x3_1 : List ByteArray) (x16_1 : Int), v16 = .int .i64 x16_1 ∧ Aside0 (sig_Check.l0 kq x3_1 l0 (l0.length : Int) x16_1 = some r) ∧ Aside0 (kq ≤ k) ∧ Aside0 (sig_Check.M w' gm x3_1) ∧ Aside0 (Below w.heap.size w w'))
    case atStart => exact ⟨(y418), (0), (by first | rfl | (simp; done) | (simp [*]; done)), H', ⟨Nat.le_refl _⟩, ⟨(by repeat (first | (with_reducible first | exact HO420.out | apply HasKeys.alloc | apply HasKeys.drewN | apply HasKeys.drew) | exact HO420.out))⟩, ⟨by repeat (first | (with_reducible first | exact HB.out | apply below_alloc | apply pw_below_drewN | apply below_drew1) | exact HB.out)⟩⟩
    case round =>
      clear H'
      try clear c2
      try clear c2b0
      try clear c2b1
      try clear p2
      obtain ⟨x3_1, x16_1, rfl, HA, HK1, HO_3, HB⟩ := hrel
      cases gk with
      | zero => exact absurd HA.out (by simp [sig_Check.l0])
      | succ k1 =>
        have H := HA.out
        clear HA
        simp only [sig_Check.l0] at H
        by_cases c5 : x16_1 < (l0.length : Int)
        · rw [if_pos c5] at H
          have c5b0 : decide (x16_1 < (l0.length : Int)) = true := decide_eq_true c5
          clear c5
          by_cases c6 : 0 ≤ x16_1
          · rw [if_pos c6] at H
            have c6b0 : decide (0 ≤ x16_1) = true := decide_eq_true c6
            clear c6
            by_cases c7 : x16_1 < (l0.length : Int)
            · rw [if_pos c7] at H
              have c7b0 : decide (x16_1 < (l0.length : Int)) = true := decide_eq_true c7
              clear c7
              have cs : ((rd_T41 l0 x16_1).f0).size ≤ 9223372036854775807 := Decidable.byContradiction (fun hc_ => by rw [if_neg hc_] at H; exact absurd H (by simp))
              rw [if_pos cs] at H
              have CS := Aside0.mk cs
              clear cs
              have HC8 := Aside0.mk H
              clear H
              have p421 : 0 ≤ (x16_1 : Int) := of_decide_eq_true (by first | (with_reducible assumption) | assumption)
              have q421 : x16_1 < (l0.length : Int) := of_decide_eq_true (by first | (with_reducible assumption) | assumption)
              obtain ⟨ad421, A421_1, c421_1, e421, hx421_0, hx421_1, hl421_1, hi421_1⟩ := at_T41 HR0.out x16_1 p421 q421
              cases e421
              replace hx421_0 := (HB.out.cell (World.block_lt_of_cell? w _ hx421_0)).trans hx421_0
              replace hx421_1 := (HB.out.cell (World.block_lt_of_cell? w _ hx421_1)).trans hx421_1
              have HR421_1 := Aside0.mk hi421_1
              have HC421_1 := Aside0.mk hl421_1
              clear hi421_1 hl421_1
              have PX := Aside0.mk (⟨p421, q421⟩ : 0 ≤ (x16_1 : Int) ∧ (x16_1 : Int) < l0.length)
              replace p421 := eq_true p421
              replace q421 := eq_true q421
              go_upto_region 8 with (first | ((with_reducible refine gate_dst (N := 5) rfl ?_); refine box_event ?hg (N := 5) ?hd (cs := #[.string (⟨#[]⟩ : ByteArray), .slice none 0 0]) (t := 41) ?hr ?_; (case hd => rfl); (case hg => rfl); (case hr => first | (go_simp; done) | (go_simp; rfl)); intro gb422 hg w9 hbox hb; have n0_ := Aside0.mk (HasKeys.below (by repeat (first | (with_reducible first | exact HO_3.out | apply HasKeys.alloc | apply HasKeys.drewN | apply HasKeys.drew) | exact HO_3.out)) hb (Nat.le_refl _)); have n1_ := Aside0.mk (below_step (by repeat (first | (with_reducible first | exact HB.out | apply below_alloc | apply pw_below_drewN | apply below_drew1) | exact HB.out)) hb); have n2_ := Aside0.mk (hbox); have n3_ := Aside0.mk ((by rw [hg]; exact (below_size (by repeat (first | (with_reducible first | exact HB.out | apply below_alloc | apply pw_below_drewN | apply below_drew1) | exact HB.out))) : w.heap.size ≤ gb422)); have n4_ := Aside0.mk ((by rw [hg]; exact (below_size (by repeat (first | (with_reducible first | exact HB.out | apply below_alloc | apply pw_below_drewN | apply below_drew1) | exact HB.out))) : w.heap.size ≤ gb422)); clear HO_3; clear HB; have HO_3 := n0_; have HB := n1_; have BK422 := n2_; have GW422 := n3_; have GE422 := n4_; clear n0_ n1_ n2_ n3_ n4_; clear hb hbox hg; have NG422 := Aside0.mk (HasKeys.ne HO_3.out BK422.out); have hcz10_0 : w9.cell? ⟨gb422, 0, none⟩ = some (.string (⟨#[]⟩ : ByteArray)) := (blk_cell BK422.out 0).trans rfl; have hcz10_1 : w9.cell? ⟨gb422, 1, none⟩ = some (.slice none 0 0) := (blk_cell BK422.out 1).trans rfl; have hfz10_0 := blk_frozen BK422.out 0; have hfz10_1 := blk_frozen BK422.out 1) | (at_lookup; refine has_event sig_Check.keyAs rfl _ _ 70 rfl Tryd.underlying70 Tryd.underlying3 ?hz (b := gm) (acc := x3_1) rfl ?how ((rd_T41 l0 x16_1).f0) CS.out rfl ?_; (case hz => kernel_rfl); (case how => exact (by repeat (first | (with_reducible first | exact HO_3.out | apply HasKeys.alloc | apply HasKeys.drewN | apply HasKeys.drew | refine HasKeys.set ?_ NG422.out _) | exact HO_3.out))); intro cv_))
              (try simp only [Act.put, List.setIfInBounds_toArray, List.set_cons_zero, List.set_cons_succ])
              go_cut [7, 35] (fun v7 v35 wc => ∃ (kq : Nat) (x35_7 : Bool), v35 = .bool x35_7 ∧ Aside0 (sig_Check.j1 kq x3_1 l0 (l0.length : Int) x16_1 x35_7 ((rd_T41 l0 x16_1).f0) ((rd_T41 l0 x16_1).f1) = some r) ∧ Aside0 (kq ≤ k1) ∧ Aside0 (sig_Check.M wc gm x3_1) ∧ Aside0 (wc.heap[gb422]? = some (.cells #[.string ((rd_T41 l0 x16_1).f0), (.slice A421_1 ((rd_T41 l0 x16_1).f1).length c421_1)] 41 (0, 0))) ∧ Aside0 (Below w.heap.size w wc))
              case first =>
                have H := HC8.out
                clear HC8
                by_cases c11 : ((rd_T41 l0 x16_1).f0) ∈ x3_1
                · rw [if_pos c11] at H
                  have c11b0 : decide (((rd_T41 l0 x16_1).f0) ∈ x3_1) = true := decide_eq_true c11
                  clear c11
                  (first | rw [c11b0] | (simp only [i64_w, i32_w]; rw [c11b0]) | skip)
                  have H' := Aside0.mk H
                  clear H
                  go_wp2
                  go_meet
                  case rel => exact ⟨_, (true), (by first | rfl | (simp; done) | (simp [*]; done)), H', ⟨by have := HK1.out; first | omega | exact Nat.le_refl _⟩, ⟨(by repeat (first | (with_reducible first | exact HO_3.out | apply HasKeys.alloc | apply HasKeys.drewN | apply HasKeys.drew | refine HasKeys.set ?_ NG422.out _) | exact HO_3.out))⟩, ⟨by (with_reducible repeat (first | refine blk_drewN ?_ _ | refine blk_drew ?_ | refine blk_alloc ?_ _)); refine blk_put (cs := #[.string ((rd_T41 l0 x16_1).f0), .slice none 0 0]) ?_ 1 _ rfl; (with_reducible repeat (first | refine blk_drewN ?_ _ | refine blk_drew ?_ | refine blk_alloc ?_ _)); refine blk_put (cs := #[.string (⟨#[]⟩ : ByteArray), .slice none 0 0]) ?_ 0 _ rfl; (with_reducible repeat (first | refine blk_drewN ?_ _ | refine blk_drew ?_ | refine blk_alloc ?_ _)); exact BK422.out⟩, ⟨by repeat (first | (with_reducible first | exact HB.out | apply below_alloc | apply pw_below_drewN | apply below_drew1 | refine below_set ?_ GE422.out) | exact HB.out)⟩⟩
                · rw [if_neg c11] at H
                  have c11b0 : decide (((rd_T41 l0 x16_1).f0) ∈ x3_1) = false := decide_eq_false c11
                  (first | rw [c11b0] | (simp only [i64_w, i32_w]; rw [c11b0]) | skip)
                  replace H := Option.bind_eq_some_iff.mp H
                  obtain ⟨t423, A120, H⟩ := H
                  replace H : (sig_Check.j1 k1 x3_1 l0 (l0.length : Int) x16_1 (!t423) ((rd_T41 l0 x16_1).f0) ((rd_T41 l0 x16_1).f1)) = some r := H
                  have A12 := Aside0.mk A120
                  clear A120
                  have H' := Aside0.mk H
                  clear H
                  have hcz13_0 : w9.cell? ⟨gb422, 0, none⟩ = some (.string (⟨#[]⟩ : ByteArray)) := (blk_cell BK422.out 0).trans rfl
                  have hcz13_1 : w9.cell? ⟨gb422, 1, none⟩ = some (.slice none 0 0) := (blk_cell BK422.out 1).trans rfl
                  have hfz13_0 := blk_frozen BK422.out 0
                  have hfz13_1 := blk_frozen BK422.out 1
                  go_wp2_with (first | (go_at_call 29; (with_reducible refine (sig_Name.calls k1 ((rd_T41 l0 x16_1).f0) t423 _ A12.out).mono ?_); rintro e w' ⟨rfl, ⟨nd, rfl⟩⟩))
                  go_meet
                  case rel => exact ⟨_, (!t423), (by first | rfl | (simp; done) | (simp [*]; done)), H', ⟨by have := HK1.out; first | omega | exact Nat.le_refl _⟩, ⟨(by repeat (first | (with_reducible first | exact HO_3.out | apply HasKeys.alloc | apply HasKeys.drewN | apply HasKeys.drew | refine HasKeys.set ?_ NG422.out _) | exact HO_3.out))⟩, ⟨by (with_reducible repeat (first | refine blk_drewN ?_ _ | refine blk_drew ?_ | refine blk_alloc ?_ _)); refine blk_put (cs := #[.string ((rd_T41 l0 x16_1).f0), .slice none 0 0]) ?_ 1 _ rfl; (with_reducible repeat (first | refine blk_drewN ?_ _ | refine blk_drew ?_ | refine blk_alloc ?_ _)); refine blk_put (cs := #[.string (⟨#[]⟩ : ByteArray), .slice none 0 0]) ?_ 0 _ rfl; (with_reducible repeat (first | refine blk_drewN ?_ _ | refine blk_drew ?_ | refine blk_alloc ?_ _)); exact BK422.out⟩, ⟨by repeat (first | (with_reducible first | exact HB.out | apply below_alloc | apply pw_below_drewN | apply below_drew1 | refine below_set ?_ GE422.out) | exact HB.out)⟩⟩
              case rest =>
                clear HC8
                try clear c1
                try clear c2
                try clear c2b0
                try clear c2b1
                try clear p2
                try clear c4
                try clear p4
                try clear q4
                try clear hx4
                try clear c5
                try clear c5b0
                try clear c6
                try clear c6b0
                try clear c7
                try clear c7b0
                try clear c11
                try clear c11b0
                try clear c11b1
                try clear hcz10_0
                try clear hcz10_1
                try clear hcz13_0
                try clear hcz13_1
                try clear hfz10_0
                try clear hfz10_1
                try clear hfz13_0
                try clear hfz13_1
                try clear hx421_0
                try clear hx421_1
                try clear p2
                try clear p421
                try clear q421
                obtain ⟨kq, x35_7, rfl, HA, HJ7, HO_3, BK422, HB⟩ := hcut
                cases kq with
                | zero => exact absurd HA.out (by simp [sig_Check.j1])
                | succ kj7 =>
                  have H := HA.out
                  clear HA
                  simp only [sig_Check.j1] at H
                  by_cases c14 : x35_7 = true
                  · subst c14
                    have H1 : (some 9) = some r := by rw [if_pos rfl] at H; exact H
                    clear H
                    have H := H1
                    clear H1
                    obtain rfl := Option.some.inj H
                    go_wp2
                    go_ret
                    exact ⟨by first | rfl | (simp [errW_none, errW_some] <;> rfl) | (simp [*, errW_none, errW_some] <;> rfl), by repeat (first | (with_reducible first | exact HB.out | apply below_alloc | apply pw_below_drewN | apply below_drew1 | refine below_set ?_ GE422.out) | exact HB.out)⟩
                  · replace c14 := Bool.eq_false_iff.mpr c14
                    subst c14
                    have H1 : (if x3_1.length < 8796093022208 then (if (((rd_T41 l0 x16_1).f1).length : Int) > 8 then (some 6) else (sig_Check.l1 kj7 (x3_1 ++ [((rd_T41 l0 x16_1).f0)]) l0 (l0.length : Int) x16_1 ((rd_T41 l0 x16_1).f1) (((rd_T41 l0 x16_1).f1).length : Int) 0)) else (none)) = some r := by rw [if_neg (show ¬ (false = true) by decide)] at H; exact H
                    clear H
                    have H := H1
                    clear H1
                    by_cases c15 : x3_1.length < 8796093022208
                    · rw [if_pos c15] at H
                      have LMc15 := Aside0.mk c15
                      clear c15
                      obtain ⟨y424, hy424⟩ : ∃ y_ : List ByteArray, y_ = (x3_1 ++ [((rd_T41 l0 x16_1).f0)]) := ⟨_, rfl⟩
                      replace H : (if (((rd_T41 l0 x16_1).f1).length : Int) > 8 then (some 6) else (sig_Check.l1 kj7 y424 l0 (l0.length : Int) x16_1 ((rd_T41 l0 x16_1).f1) (((rd_T41 l0 x16_1).f1).length : Int) 0)) = some r := by first | (rw [hy424]; with_reducible exact H) | (have H2_ := (Option.bind_some _ _).symm.trans H; rw [hy424]; with_reducible exact H2_) | (have H2_ := (Option.bind_some _ _).symm.trans H; with_reducible exact H2_) | with_reducible exact H | (rw [hy424]; exact H) | exact H
                      have Ny424 := Aside0.mk hy424
                      clear hy424
                      by_cases c16 : (((rd_T41 l0 x16_1).f1).length : Int) > 8
                      · rw [if_pos c16] at H
                        have c16b0 : decide (8 < (((rd_T41 l0 x16_1).f1).length : Int)) = true := decide_eq_true c16
                        have c16b1 : decide (8 < ((rd_T41 l0 x16_1).f1).length) = true := decide_eq_true (by omega)
                        clear c16
                        obtain rfl := Option.some.inj H
                        have hcz17_0 : wc.cell? ⟨gb422, 0, none⟩ = some (.string ((rd_T41 l0 x16_1).f0)) := (blk_cell BK422.out 0).trans rfl
                        have hcz17_1 : wc.cell? ⟨gb422, 1, none⟩ = some (.slice A421_1 ((rd_T41 l0 x16_1).f1).length c421_1) := (blk_cell BK422.out 1).trans rfl
                        have hfz17_0 := blk_frozen BK422.out 0
                        have hfz17_1 := blk_frozen BK422.out 1
                        go_wp2_with (first | (at_mapUpdate; refine put_event sig_Check.keyAs rfl _ _ _ 70 rfl Tryd.underlying70 Tryd.underlying3 (b := gm) (acc := x3_1) rfl ?how ?hn ((rd_T41 l0 x16_1).f0) CS.out rfl x16_1 rfl ?hc ?_; (case how => exact (by repeat (first | (with_reducible first | exact HO_3.out | apply HasKeys.alloc | apply HasKeys.drewN | apply HasKeys.drew | refine HasKeys.set ?_ NG422.out _) | exact HO_3.out))); (case hn => have := LMc15.out; omega); (case hc => have := PX.out; have := HL.out; omega); intro w18 ho hg; rw [← Ny424.out] at ho; have n0_ := Aside0.mk (blk_grown (g := gb422) (o := .cells #[.string ((rd_T41 l0 x16_1).f0), .slice A421_1 ((rd_T41 l0 x16_1).f1).length c421_1] 41 (0, 0)) (by (with_reducible repeat (first | refine blk_drewN ?_ _ | refine blk_drew ?_ | refine blk_alloc ?_ _)); exact BK422.out) hg (by have := NG422.out; simpa using Ne.symm this)); have n1_ := Aside0.mk (pw_below_grown (by repeat (first | (with_reducible first | exact HB.out | apply below_alloc | apply pw_below_drewN | apply below_drew1 | refine below_set ?_ GE422.out) | exact HB.out)) (some gm) (below_size (by repeat (first | (with_reducible first | exact HB.out | apply below_alloc | apply pw_below_drewN | apply below_drew1 | refine below_set ?_ GE422.out) | exact HB.out))) hg (fun k_ hk_ => by cases hk_; exact GM.out)); have n2_ := Aside0.mk (show sig_Check.M _ gm y424 from ho); clear BK422; clear HB; clear HO_3; have BK422 := n0_; have HB := n1_; have HO426 := n2_; clear n0_ n1_ n2_; clear ho hg; have hcz19_0 : w18.cell? ⟨gb422, 0, none⟩ = some (.string ((rd_T41 l0 x16_1).f0)) := (blk_cell BK422.out 0).trans rfl; have hcz19_1 : w18.cell? ⟨gb422, 1, none⟩ = some (.slice A421_1 ((rd_T41 l0 x16_1).f1).length c421_1) := (blk_cell BK422.out 1).trans rfl; have hfz19_0 := blk_frozen BK422.out 0; have hfz19_1 := blk_frozen BK422.out 1))
                        go_ret
                        exact ⟨by first | rfl | (simp [errW_none, errW_some] <;> rfl) | (simp [*, errW_none, errW_some] <;> rfl), by repeat (first | (with_reducible first | exact HB.out | apply below_alloc | apply pw_below_drewN | apply below_drew1 | refine below_set ?_ GE422.out) | exact HB.out)⟩
                      · rw [if_neg c16] at H
                        have c16b0 : decide (8 < (((rd_T41 l0 x16_1).f1).length : Int)) = false := decide_eq_false c16
                        have c16b1 : decide (8 < ((rd_T41 l0 x16_1).f1).length) = false := decide_eq_false (by omega)
                        clear c16
                        have H' := Aside0.mk H
                        clear H
                        have hcz20_0 : wc.cell? ⟨gb422, 0, none⟩ = some (.string ((rd_T41 l0 x16_1).f0)) := (blk_cell BK422.out 0).trans rfl
                        have hcz20_1 : wc.cell? ⟨gb422, 1, none⟩ = some (.slice A421_1 ((rd_T41 l0 x16_1).f1).length c421_1) := (blk_cell BK422.out 1).trans rfl
                        have hfz20_0 := blk_frozen BK422.out 0
                        have hfz20_1 := blk_frozen BK422.out 1
                        go_wp2_with (first | (at_mapUpdate; refine put_event sig_Check.keyAs rfl _ _ _ 70 rfl Tryd.underlying70 Tryd.underlying3 (b := gm) (acc := x3_1) rfl ?how ?hn ((rd_T41 l0 x16_1).f0) CS.out rfl x16_1 rfl ?hc ?_; (case how => exact (by repeat (first | (with_reducible first | exact HO_3.out | apply HasKeys.alloc | apply HasKeys.drewN | apply HasKeys.drew | refine HasKeys.set ?_ NG422.out _) | exact HO_3.out))); (case hn => have := LMc15.out; omega); (case hc => have := PX.out; have := HL.out; omega); intro w21 ho hg; rw [← Ny424.out] at ho; have n0_ := Aside0.mk (blk_grown (g := gb422) (o := .cells #[.string ((rd_T41 l0 x16_1).f0), .slice A421_1 ((rd_T41 l0 x16_1).f1).length c421_1] 41 (0, 0)) (by (with_reducible repeat (first | refine blk_drewN ?_ _ | refine blk_drew ?_ | refine blk_alloc ?_ _)); exact BK422.out) hg (by have := NG422.out; simpa using Ne.symm this)); have n1_ := Aside0.mk (pw_below_grown (by repeat (first | (with_reducible first | exact HB.out | apply below_alloc | apply pw_below_drewN | apply below_drew1 | refine below_set ?_ GE422.out) | exact HB.out)) (some gm) (below_size (by repeat (first | (with_reducible first | exact HB.out | apply below_alloc | apply pw_below_drewN | apply below_drew1 | refine below_set ?_ GE422.out) | exact HB.out))) hg (fun k_ hk_ => by cases hk_; exact GM.out)); have n2_ := Aside0.mk (show sig_Check.M _ gm y424 from ho); clear BK422; clear HB; clear HO_3; have BK422 := n0_; have HB := n1_; have HO426 := n2_; clear n0_ n1_ n2_; clear ho hg; have hcz22_0 : w21.cell? ⟨gb422, 0, none⟩ = some (.string ((rd_T41 l0 x16_1).f0)) := (blk_cell BK422.out 0).trans rfl; have hcz22_1 : w21.cell? ⟨gb422, 1, none⟩ = some (.slice A421_1 ((rd_T41 l0 x16_1).f1).length c421_1) := (blk_cell BK422.out 1).trans rfl; have hfz22_0 := blk_frozen BK422.out 0; have hfz22_1 := blk_frozen BK422.out 1))
                        go_loopg [48] kj7 (fun kq v48 w' => ∃ (x48_3 : Int), v48 = .int .i64 x48_3 ∧ Aside0 (sig_Check.l1 kq y424 l0 (l0.length : Int) x16_1 ((rd_T41 l0 x16_1).f1) (((rd_T41 l0 x16_1).f1).length : Int) x48_3 = some r) ∧ Aside0 (kq ≤ kj7) ∧ Aside0 (sig_Check.M w' gm y424) ∧ Aside0 (w'.heap[gb422]? = some (.cells #[.string ((rd_T41 l0 x16_1).f0), (.slice A421_1 ((rd_T41 l0 x16_1).f1).length c421_1)] 41 (0, 0))) ∧ Aside0 (Below w.heap.size w w'))
                        case atStart => exact ⟨(0), (by first | rfl | (simp; done) | (simp [*]; done)), H', ⟨Nat.le_refl _⟩, ⟨(by repeat (first | (with_reducible first | exact HO426.out | apply HasKeys.alloc | apply HasKeys.drewN | apply HasKeys.drew | refine HasKeys.set ?_ NG422.out _) | exact HO426.out))⟩, ⟨by (with_reducible repeat (first | refine blk_drewN ?_ _ | refine blk_drew ?_ | refine blk_alloc ?_ _)); exact BK422.out⟩, ⟨by repeat (first | (with_reducible first | exact HB.out | apply below_alloc | apply pw_below_drewN | apply below_drew1 | refine below_set ?_ GE422.out) | exact HB.out)⟩⟩
                        case round =>
                          clear H'
                          try clear c1
                          try clear c2
                          try clear c2b0
                          try clear c2b1
                          try clear p2
                          try clear c4
                          try clear p4
                          try clear q4
                          try clear hx4
                          try clear c5
                          try clear c5b0
                          try clear c6
                          try clear c6b0
                          try clear c7
                          try clear c7b0
                          try clear c11
                          try clear c11b0
                          try clear c11b1
                          try clear c14
                          try clear c15
                          try clear c16
                          try clear c16b0
                          try clear c16b1
                          try clear hcz10_0
                          try clear hcz10_1
                          try clear hcz13_0
                          try clear hcz13_1
                          try clear hcz17_0
                          try clear hcz17_1
                          try clear hcz19_0
                          try clear hcz19_1
                          try clear hcz20_0
                          try clear hcz20_1
                          try clear hcz22_0
                          try clear hcz22_1
                          try clear hfz10_0
                          try clear hfz10_1
                          try clear hfz13_0
                          try clear hfz13_1
                          try clear hfz17_0
                          try clear hfz17_1
                          try clear hfz19_0
                          try clear hfz19_1
                          try clear hfz20_0
                          try clear hfz20_1
                          try clear hfz22_0
                          try clear hfz22_1
                          try clear hx421_0
                          try clear hx421_1
                          try clear p2
                          try clear p4
                          try clear p421
                          try clear q4
                          try clear q421
                          obtain ⟨x48_3, rfl, HA, HK3, HO_3, BK422, HB⟩ := hrel
                          cases gk with
                          | zero => exact absurd HA.out (by simp [sig_Check.l1])
                          | succ k3 =>
                            have H := HA.out
                            clear HA
                            simp only [sig_Check.l1] at H
                            by_cases c23 : x48_3 < (((rd_T41 l0 x16_1).f1).length : Int)
                            · rw [if_pos c23] at H
                              have c23b0 : decide (x48_3 < (((rd_T41 l0 x16_1).f1).length : Int)) = true := decide_eq_true c23
                              clear c23
                              by_cases c24 : 0 ≤ x48_3
                              · rw [if_pos c24] at H
                                have c24b0 : decide (0 ≤ x48_3) = true := decide_eq_true c24
                                clear c24
                                by_cases c25 : x48_3 < (((rd_T41 l0 x16_1).f1).length : Int)
                                · rw [if_pos c25] at H
                                  have c25b0 : decide (x48_3 < (((rd_T41 l0 x16_1).f1).length : Int)) = true := decide_eq_true c25
                                  clear c25
                                  by_cases c26 : (rd ((rd_T41 l0 x16_1).f1) x48_3) = 1
                                  · rw [if_pos c26] at H
                                    have c26b0 : ((rd ((rd_T41 l0 x16_1).f1) x48_3) == 1) = true := beq_iff_eq.mpr c26
                                    have c26b1 : ((rd ((rd_T41 l0 x16_1).f1) x48_3) != 1) = false := bne_eq_false_iff_eq.mpr c26
                                    clear c26
                                    have H' := Aside0.mk H
                                    clear H
                                    have p427 : 0 ≤ (x48_3 : Int) := of_decide_eq_true (by first | (with_reducible assumption) | assumption)
                                    have q427 : x48_3 < (((rd_T41 l0 x16_1).f1).length : Int) := of_decide_eq_true (by first | (with_reducible assumption) | assumption)
                                    obtain ⟨ad427, e427, hx427_0⟩ := Kd.at_int HR421_1.out x48_3 p427 q427
                                    cases e427
                                    replace hx427_0 := (HB.out.cell (World.block_lt_of_cell? w _ hx427_0)).trans hx427_0
                                    replace p427 := eq_true p427
                                    replace q427 := eq_true q427
                                    go_wp2
                                    go_roundg k3
                                    case measure => have := HK1.out; have := HJ7.out; have := HK3.out; omega
                                    case rel => exact ⟨(wrap64 (x48_3 + 1)), (by first | rfl | (simp; done) | (simp [*]; done)), H', ⟨by have := HK1.out; have := HJ7.out; have := HK3.out; omega⟩, ⟨(by repeat (first | (with_reducible first | exact HO_3.out | apply HasKeys.alloc | apply HasKeys.drewN | apply HasKeys.drew | refine HasKeys.set ?_ NG422.out _) | exact HO_3.out))⟩, ⟨by (with_reducible repeat (first | refine blk_drewN ?_ _ | refine blk_drew ?_ | refine blk_alloc ?_ _)); exact BK422.out⟩, ⟨by repeat (first | (with_reducible first | exact HB.out | apply below_alloc | apply pw_below_drewN | apply below_drew1 | refine below_set ?_ GE422.out) | exact HB.out)⟩⟩
                                  · rw [if_neg c26] at H
                                    have c26b0 : ((rd ((rd_T41 l0 x16_1).f1) x48_3) == 1) = false := beq_eq_false_iff_ne.mpr c26
                                    have c26b1 : ((rd ((rd_T41 l0 x16_1).f1) x48_3) != 1) = true := bne_iff_ne.mpr c26
                                    by_cases c27 : (rd ((rd_T41 l0 x16_1).f1) x48_3) = 2
                                    · rw [if_pos c27] at H
                                      have c27b0 : ((rd ((rd_T41 l0 x16_1).f1) x48_3) == 2) = true := beq_iff_eq.mpr c27
                                      have c27b1 : ((rd ((rd_T41 l0 x16_1).f1) x48_3) != 2) = false := bne_eq_false_iff_eq.mpr c27
                                      clear c27
                                      have H' := Aside0.mk H
                                      clear H
                                      have p427 : 0 ≤ (x48_3 : Int) := of_decide_eq_true (by first | (with_reducible assumption) | assumption)
                                      have q427 : x48_3 < (((rd_T41 l0 x16_1).f1).length : Int) := of_decide_eq_true (by first | (with_reducible assumption) | assumption)
                                      obtain ⟨ad427, e427, hx427_0⟩ := Kd.at_int HR421_1.out x48_3 p427 q427
                                      cases e427
                                      replace hx427_0 := (HB.out.cell (World.block_lt_of_cell? w _ hx427_0)).trans hx427_0
                                      replace p427 := eq_true p427
                                      replace q427 := eq_true q427
                                      go_wp2
                                      go_roundg k3
                                      case measure => have := HK1.out; have := HJ7.out; have := HK3.out; omega
                                      case rel => exact ⟨(wrap64 (x48_3 + 1)), (by first | rfl | (simp; done) | (simp [*]; done)), H', ⟨by have := HK1.out; have := HJ7.out; have := HK3.out; omega⟩, ⟨(by repeat (first | (with_reducible first | exact HO_3.out | apply HasKeys.alloc | apply HasKeys.drewN | apply HasKeys.drew | refine HasKeys.set ?_ NG422.out _) | exact HO_3.out))⟩, ⟨by (with_reducible repeat (first | refine blk_drewN ?_ _ | refine blk_drew ?_ | refine blk_alloc ?_ _)); exact BK422.out⟩, ⟨by repeat (first | (with_reducible first | exact HB.out | apply below_alloc | apply pw_below_drewN | apply below_drew1 | refine below_set ?_ GE422.out) | exact HB.out)⟩⟩
                                    · rw [if_neg c27] at H
                                      have c27b0 : ((rd ((rd_T41 l0 x16_1).f1) x48_3) == 2) = false := beq_eq_false_iff_ne.mpr c27
                                      have c27b1 : ((rd ((rd_T41 l0 x16_1).f1) x48_3) != 2) = true := bne_iff_ne.mpr c27
                                      obtain rfl := Option.some.inj H
                                      have p427 : 0 ≤ (x48_3 : Int) := of_decide_eq_true (by first | (with_reducible assumption) | assumption)
                                      have q427 : x48_3 < (((rd_T41 l0 x16_1).f1).length : Int) := of_decide_eq_true (by first | (with_reducible assumption) | assumption)
                                      obtain ⟨ad427, e427, hx427_0⟩ := Kd.at_int HR421_1.out x48_3 p427 q427
                                      cases e427
                                      replace hx427_0 := (HB.out.cell (World.block_lt_of_cell? w _ hx427_0)).trans hx427_0
                                      replace p427 := eq_true p427
                                      replace q427 := eq_true q427
                                      go_wp2
                                      go_ret
                                      exact ⟨by first | rfl | (simp [errW_none, errW_some] <;> rfl) | (simp [*, errW_none, errW_some] <;> rfl), by repeat (first | (with_reducible first | exact HB.out | apply below_alloc | apply pw_below_drewN | apply below_drew1 | refine below_set ?_ GE422.out) | exact HB.out)⟩
                                · rw [if_neg c25] at H
                                  exact absurd H (by simp)
                              · rw [if_neg c24] at H
                                exact absurd H (by simp)
                            · rw [if_neg c23] at H
                              have c23b0 : decide (x48_3 < (((rd_T41 l0 x16_1).f1).length : Int)) = false := decide_eq_false c23
                              clear c23
                              have H' := Aside0.mk H
                              clear H
                              go_wp2
                              go_roundg k3
                              case measure => have := HK1.out; have := HJ7.out; have := HK3.out; omega
                              case rel => exact ⟨(y424), (wrap64 (x16_1 + 1)), (by first | rfl | (simp; done) | (simp [*]; done)), H', ⟨by have := HK1.out; have := HJ7.out; have := HK3.out; omega⟩, ⟨(by repeat (first | (with_reducible first | exact HO_3.out | apply HasKeys.alloc | apply HasKeys.drewN | apply HasKeys.drew | refine HasKeys.set ?_ NG422.out _) | exact HO_3.out))⟩, ⟨by repeat (first | (with_reducible first | exact HB.out | apply below_alloc | apply pw_below_drewN | apply below_drew1 | refine below_set ?_ GE422.out) | exact HB.out)⟩⟩
                    · rw [if_neg c15] at H
                      exact absurd H (by simp)
            · rw [if_neg c7] at H
              exact absurd H (by simp)
          · rw [if_neg c6] at H
            exact absurd H (by simp)
        · rw [if_neg c5] at H
          have c5b0 : decide (x16_1 < (l0.length : Int)) = false := decide_eq_false c5
          clear c5
          obtain rfl := Option.some.inj H
          go_wp2
          go_ret
          exact ⟨by first | rfl | (simp [errW_none, errW_some] <;> rfl) | (simp [*, errW_none, errW_some] <;> rfl), by repeat (first | (with_reducible first | exact HB.out | apply below_alloc | apply pw_below_drewN | apply below_drew1) | exact HB.out)⟩
end

-- NOT PRINTED: function 39 (abi_NoEscape)

/-! #### struct type 57 -/
/-- A strings.Builder at block g of W: the text that it holds. -/
def IsS57 (w0 W : World) (g : Nat) (f0 : ByteArray) : Prop := Lib.IsBuilderF 57 5 w0.heap.size g (Lib.strCells f0) W
theorem IsS57.below {w0 W : World} {g : Nat} {f0 : ByteArray} {W1 : World} (h : IsS57 w0 W g f0) (hw : Below W.heap.size W W1) : IsS57 w0 W1 g f0 := by
  have hb : ∀ {p : Value}, Lib.BuilderAtF 57 5 w0.heap.size g p (Lib.strCells f0) W → Lib.BuilderAtF 57 5 w0.heap.size g p (Lib.strCells f0) W1 := by
    intro p h
    have hlt := h.lt
    obtain ⟨hB, v, hv, hown, hne⟩ := h
    exact ⟨hB, v, (hw.block g hlt).trans hv, hown.kept (row := none) ⟨hw.os, hw.tape, hw.output, hw.size, fun k hk _ => hw.block k hk⟩ (Classical.em _), hne⟩
  exact h.elim (fun x => .inl (hb x)) (fun x => .inr (hb x))
theorem IsS57.alloc {w0 W : World} {g : Nat} {f0 : ByteArray} (h : IsS57 w0 W g f0) (o : Obj) : IsS57 w0 (W.alloc o) g f0 := h.below (below_alloc (Below.refl _ _) o)
theorem IsS57.drewN {w0 W : World} {g : Nat} {f0 : ByteArray} (h : IsS57 w0 W g f0) (m : Nat) : IsS57 w0 (W.drewN m) g f0 := h
theorem IsS57.drew {w0 W : World} {g : Nat} {f0 : ByteArray} (h : IsS57 w0 W g f0) : IsS57 w0 W.drew g f0 := h
theorem IsS57.at_ {w0 W : World} {g : Nat} {f0 : ByteArray} {w' : World} {m : Nat} (hq : W.drewN m = w') (h : IsS57 w0 W g f0) : IsS57 w0 w' g f0 := by subst hq; exact IsS57.drewN h m
theorem IsS57.lt {w0 W : World} {g : Nat} {f0 : ByteArray} (h : IsS57 w0 W g f0) : g < W.heap.size := h.elim (fun x => x.lt) (fun x => x.lt)
theorem IsS57.ge {w0 W : World} {g : Nat} {f0 : ByteArray} (h : IsS57 w0 W g f0) : w0.heap.size ≤ g := h.elim (fun x => x.1) (fun x => x.1)
/-- Block a lies in the world, and is of type t. -/
def IsS57.Ty (W : World) (a : Nat) (t : TypeId) : Prop := ∃ cs, W.heap[a]? = some (.cells cs t (0, 0))
theorem IsS57.Ty.mk {W : World} {a : Nat} {t : TypeId} {cs : Array Value} (h : W.heap[a]? = some (.cells cs t (0, 0))) : IsS57.Ty W a t := ⟨cs, h⟩
theorem IsS57.Ty.set {W : World} {a : Nat} {t : TypeId} (h : IsS57.Ty W a t) (b o : Nat) (u : Value) : IsS57.Ty (W.setCell ⟨b, o, none⟩ u) a t := by
  obtain ⟨cs, h⟩ := h
  by_cases hp : a = b
  · subst hp
    exact ⟨_, blk_set h o u⟩
  · exact ⟨cs, blk_far h hp u⟩
theorem IsS57.Ty.alloc {W : World} {a : Nat} {t : TypeId} (h : IsS57.Ty W a t) (o : Obj) : IsS57.Ty (W.alloc o) a t := by obtain ⟨cs, h⟩ := h; exact ⟨cs, blk_alloc h o⟩
theorem IsS57.Ty.drewN {W : World} {a : Nat} {t : TypeId} (h : IsS57.Ty W a t) (m : Nat) : IsS57.Ty (W.drewN m) a t := h
theorem IsS57.Ty.drew {W : World} {a : Nat} {t : TypeId} (h : IsS57.Ty W a t) : IsS57.Ty W.drew a t := h
theorem IsS57.farT {w0 W : World} {g : Nat} {f0 : ByteArray} (h : IsS57 w0 W g f0) {a o : Nat} {t : TypeId} (hT : IsS57.Ty W a t) (h1 : t ≠ 5) (h2 : t ≠ 57) (u : Value) : IsS57 w0 (W.setCell ⟨a, o, none⟩ u) g f0 := by
  have hb : ∀ {p : Value}, Lib.BuilderAtF 57 5 w0.heap.size g p (Lib.strCells f0) W → Lib.BuilderAtF 57 5 w0.heap.size g p (Lib.strCells f0) (W.setCell ⟨a, o, none⟩ u) := by
    intro p h
    obtain ⟨hB, v, hv, hown, hne⟩ := h
    obtain ⟨cs, hT⟩ := hT
    have e1 : g ≠ a := by
      rintro rfl
      rw [hv] at hT
      injection hT with hT
      injection hT with _ hT
      exact h2 hT.symm
    refine ⟨hB, v, blk_far hv e1 u, ?_, hne⟩
    obtain ⟨hl, hn | ⟨q, cap, cur, fz, rfl, hb, hq, rest⟩⟩ := hown
    · exact ⟨hl, .inl hn⟩
    · have e2 : q ≠ a := by
        rintro rfl
        rw [hq] at hT
        injection hT with hT
        injection hT with _ hT
        exact h1 hT.symm
      exact ⟨hl, .inr ⟨q, cap, cur, fz, rfl, hb, (Below.heap_setCell W ⟨a, o, none⟩ u q e2).trans hq, rest⟩⟩
  exact h.elim (fun x => .inl (hb x)) (fun x => .inr (hb x))
theorem IsS57.keep {w w1 : World} {g g' : Nat} {o : Obj} (h : Lib.OthersKept 5 (some g) w w1) (hb : w.heap[g']? = some o) (hg : g' ≠ g) (ho : ∀ c fz, o ≠ .cells c 5 fz) : w1.heap[g']? = some o := h g' o hb (fun e => hg (Option.some.inj e)) ho
theorem IsS57.fresh0 {w0 W : World} {g : Nat} (hb : W.heap[g]? = some (.cells #[.pointer none, .slice none 0 0] 57 (0, 0))) (hg : w0.heap.size ≤ g) : IsS57 w0 W g ⟨#[]⟩ :=
  Lib.IsBuilderF.of (.inl ⟨hg, .slice none 0 0, hb, World.ownsRow_nil _ _ _ _, by simp [Value.ownBlock]⟩)

/-! ### strings_Builder_copyCheck: function 31 -/
/-- (A new builder's text.) -/
def strings_Builder_copyCheck.f : Option ByteArray := some ⟨#[]⟩

/-! ### strings_Builder_WriteString: function 23 -/
def strings_Builder_WriteString.f (s0_0 : ByteArray) (a1 : ByteArray) : Option (Int × Option Int × ByteArray) := if s0_0.size + a1.size ≤ 140737488355328 then some ((a1.size : Int), none, s0_0 ++ a1) else none
theorem strings_Builder_WriteString.calls (g : Nat) (s0_0 : ByteArray) (a1 : ByteArray) (r1 : Int) (r2 : Option Int) (r3 : ByteArray) (w0 w : World) (hI : IsS57 w0 w g s0_0) (hB : Below w0.heap.size w0 w) (h : strings_Builder_WriteString.f s0_0 a1 = some (r1, r2, r3)) :
    Calls Tryd.prog 23 #[.pointer (some ⟨g, 0, none⟩), .string a1] w fun e w' => e = .returned (.tuple #[.int .i64 r1, errW r2]) ∧ IsS57 w0 w' g r3 ∧ Below w0.heap.size w0 w' ∧ Lib.OthersKept 5 (some g) w w' := by
  unfold strings_Builder_WriteString.f at h
  by_cases hc : s0_0.size + a1.size ≤ 140737488355328
  · rw [if_pos hc] at h
    simp only [Option.some.injEq, Prod.mk.injEq] at h
    obtain ⟨rfl, rfl, rfl⟩ := h
    have hcells : Lib.strCells (s0_0 ++ a1) = Lib.strCells s0_0 ++ Lib.strCells a1 := by simp only [Lib.strCells, ByteArray.data_append, Array.toList_append, List.map_append]
    have hk := Go.Proofs.Any.Builder_WriteString_k Go.Proofs.YtmmfakdncjeoeacDoorAid.blays166 Go.Proofs.YtmmfakdncjeoeacDoorAid.bextra w0.heap.size g (Lib.strCells s0_0) a1 w hI (by rw [Lib.strCells_length]; exact hc) hB.size
    refine (show Calls Tryd.prog 23 #[.pointer (some ⟨g, 0, none⟩), .string a1] w _ from hk).mono ?_
    rintro e w' ⟨rfl, k1, k2, k3⟩
    exact ⟨rfl, .inr (by rw [hcells]; exact k1), Below.trans hB k2, k3⟩
  · rw [if_neg hc] at h
    cases h

/-! ### sigtext_word: function 32 -/
def sigtext_word.f (a0 : Int) : Option ByteArray := some (Go.Proofs.YtmmfakdncjeoeacDoorAid.wordText a0)
theorem sigtext_word.calls (a0 : Int) (r : ByteArray) (w : World) (h : sigtext_word.f a0 = some r) (hg : Go.Proofs.YtmmfakdncjeoeacDoorAid.Glob w) :
    Calls Tryd.prog 32 #[.int .i64 a0] w fun e w' => e = .returned (.string r) ∧ Below w.heap.size w w' := by
  unfold sigtext_word.f at h
  obtain rfl := Option.some.inj h
  exact Go.Proofs.YtmmfakdncjeoeacDoorAid.word_calls a0 w hg.2

/-! ### strings_Builder_String: function 25 -/
def strings_Builder_String.f (s0_0 : ByteArray) : Option (ByteArray × ByteArray) := some (s0_0, s0_0)
theorem strings_Builder_String.calls (g : Nat) (s0_0 : ByteArray) (r1 : ByteArray) (r2 : ByteArray) (w0 w : World) (hI : IsS57 w0 w g s0_0) (hB : Below w0.heap.size w0 w) (h : strings_Builder_String.f s0_0 = some (r1, r2)) :
    Calls Tryd.prog 25 #[.pointer (some ⟨g, 0, none⟩)] w fun e w' => e = .returned (.string r1) ∧ IsS57 w0 w' g r2 ∧ Below w0.heap.size w0 w' ∧ Lib.OthersKept 5 (some g) w w' := by
  unfold strings_Builder_String.f at h
  simp only [Option.some.injEq, Prod.mk.injEq] at h
  obtain ⟨rfl, rfl⟩ := h
  have hk := Go.Proofs.Any.Builder_String_any_k Go.Proofs.YtmmfakdncjeoeacDoorAid.blays169 Go.Proofs.YtmmfakdncjeoeacDoorAid.bextra w0.heap.size g s0_0.data.toList w hI hB.size
  refine (show Calls Tryd.prog 25 #[.pointer (some ⟨g, 0, none⟩)] w _ from hk).mono ?_
  rintro e w' ⟨rfl, k1, k2, k3⟩
  exact ⟨by simp, k1, Below.trans hB k2, k3⟩

-- NOT PRINTED: function 55 (bytealg_MakeNoZero)

-- NOT PRINTED: function 49 (strings_Builder_grow)

-- NOT PRINTED: function 40 (strings_Builder_Grow)

/-! ### strings_Join: function 33 -/
def strings_Join.f (l0 : List ByteArray) (a1 : ByteArray) : Option ByteArray := if l0.length ≤ 140737488355328 ∧ (Lib.join (l0.map (·.data.toList)) a1.data.toList).length ≤ 140737488355328 then some ⟨(Lib.join (l0.map (·.data.toList)) a1.data.toList).toArray⟩ else none
theorem strings_Join.calls (A0 : Option Addr) (c0 : Nat) (l0 : List ByteArray) (a1 : ByteArray) (r : ByteArray) (w : World) (hr0 : Kd.C Kd.string w A0 l0.length l0) (hc0 : l0.length ≤ c0) (h : strings_Join.f l0 a1 = some r) :
    Calls Tryd.prog 33 #[.slice A0 l0.length c0, .string a1] w fun e w' => e = .returned (.string r) ∧ Below w.heap.size w w' := by
  unfold strings_Join.f at h
  by_cases hc : l0.length ≤ 140737488355328 ∧ (Lib.join (l0.map (·.data.toList)) a1.data.toList).length ≤ 140737488355328
  · rw [if_pos hc] at h
    obtain rfl := Option.some.inj h
    cases hl : l0 with
    | nil =>
      subst hl
      refine (Go.Proofs.Tryd.strings_Join_none A0 c0 a1 w).mono ?_
      rintro e w' ⟨rfl, rfl⟩
      exact ⟨rfl, Below.refl _ _⟩
    | cons x xs =>
      rw [← hl]
      have hpos : 0 < l0.length := by rw [hl]; simp
      have hget : ∀ i : Nat, i < l0.length → ∃ ad, A0 = some ad ∧ w.cell? (ad.add i) = some (.string (l0.getD i ⟨#[]⟩)) := by
        intro i hi
        obtain ⟨ad, c, e, _, hK, hcc⟩ := Kd.C_get hr0 (⟨#[]⟩ : ByteArray) (i : Int) (by omega) (by omega)
        have hK' : c = [.string (l0.getD i ⟨#[]⟩)] := by simpa [Kd.string, Kd.scalar] using hK
        subst hK'
        exact ⟨ad, e, by simpa [Kd.string, Kd.scalar] using hcc 0 _ rfl⟩
      obtain ⟨ad, rfl, h0⟩ := hget 0 hpos
      have hadd : ad.add 0 = ad := by simp [Addr.add]
      rw [hadd] at h0
      obtain ⟨bk, o, sp⟩ := ad
      have hsp : sp = none := by
        cases sp with
        | none => rfl
        | some z =>
          exfalso
          unfold World.cell? at h0
          revert h0
          cases w.heap[bk]? with
          | none => simp
          | some ob => cases ob <;> simp
      subst hsp
      have hcells : ∀ (j : Nat) (y : ByteArray), l0[j]? = some y → w.cell? ⟨bk, o + j, none⟩ = some (.string y) := by
        intro j y hj
        have hlt : j < l0.length := (List.getElem?_eq_some_iff.1 hj).1
        obtain ⟨ad, e, h1⟩ := hget j hlt
        injection e with e
        subst e
        have hy : l0.getD j ⟨#[]⟩ = y := by rw [List.getD_eq_getElem?_getD, hj]; rfl
        rw [hy] at h1
        rw [← h1]
        congr 1
        by_cases hz : j = 0
        · subst hz; simp [Addr.add]
        · simp [Addr.add, hz]
      exact (Go.Proofs.Tryd.strings_Join bk o c0 l0 a1 w hcells (World.block_lt_of_cell? w _ h0) hc.1 hc0 hc.2).mono (fun e w' hq => hq)
  · rw [if_neg hc] at h
    cases h

/-! ### sigtext_line: function 24 -/
def sigtext_line.l0 : Nat → List ByteArray → List Int → Int → Int → ByteArray → List Int → Option (ByteArray)
 | 0, _, _, _, _, _, _ => none
 | k + 1, x3, x7, x8, x9, x229000, x229001 => if x9 < x8 then (if 0 ≤ x9 then (if x9 < (x7.length : Int) then ((sigtext_word.f (rd x7 x9)).bind fun t230 => (if x3.length < 8796093022208 then (sigtext_line.l0 k (x3 ++ [t230]) x7 x8 (wrap64 (x9 + 1)) x229000 x229001) else (none))) else (none)) else (none)) else (if x229000.size + 1 ≤ 9223372036854775807 then ((strings_Join.f x3 (⟨#[44]⟩ : ByteArray)).bind fun t234 => (if (x229000 ++ (⟨#[40]⟩ : ByteArray)).size + t234.size ≤ 9223372036854775807 then (if ((x229000 ++ (⟨#[40]⟩ : ByteArray)) ++ t234).size + 1 ≤ 9223372036854775807 then (some (((x229000 ++ (⟨#[40]⟩ : ByteArray)) ++ t234) ++ (⟨#[41]⟩ : ByteArray))) else (none)) else (none))) else (none))
def sigtext_line.f (k : Nat) (a0_0 : ByteArray) (l0_1 : List Int) : Option (ByteArray) := sigtext_line.l0 k ([] : List ByteArray) l0_1 (l0_1.length : Int) 0 a0_0 l0_1
theorem sigtext_line.mono_l : ∀ k, (∀ y0 y1 y2 y3 y4 y5, LeO (sigtext_line.l0 k y0 y1 y2 y3 y4 y5) (sigtext_line.l0 (k + 1) y0 y1 y2 y3 y4 y5))
 | 0 => fun _ _ _ _ _ _ r h => by simp [sigtext_line.l0] at h
 | k + 1 => by
  have ih0 := sigtext_line.mono_l k
  ·intro y0 y1 y2 y3 y4 y5
   unfold sigtext_line.l0
   repeat' first
   | (with_reducible exact ih0 _ _ _ _ _ _)
   | (with_reducible exact LeO.refl _)
   | (with_reducible exact LeO.none _)
   | (with_reducible refine LeO.ite ?_ ?_)
   | (with_reducible refine LeO.bind ?_ (fun _ => ?_))
   | exact ih0 _ _ _ _ _ _
   | exact LeO.none _
   | refine LeO.ite ?_ ?_
   | refine LeO.bind ?_ (fun _ => ?_)
theorem sigtext_line.mono : ∀ a0 a1 k, LeO (sigtext_line.f k a0 a1) (sigtext_line.f (k + 1) a0 a1) := by
 intro a0 a1 k
 have ih0 := sigtext_line.mono_l k
 unfold sigtext_line.f
 repeat' first
   | (with_reducible exact ih0 _ _ _ _ _ _)
   | (with_reducible exact LeO.refl _)
   | (with_reducible exact LeO.none _)
   | (with_reducible refine LeO.ite ?_ ?_)
   | (with_reducible refine LeO.bind ?_ (fun _ => ?_))
   | exact ih0 _ _ _ _ _ _
   | exact LeO.none _
   | refine LeO.ite ?_ ?_
   | refine LeO.bind ?_ (fun _ => ?_)
def sigtext_line.T7 : Bool × List (List Nat × List Nat) := (true, [([], []), ([0], [0]), ([1], [1]), ([], []), ([3], [3]), ([2, 4], [2, 4]), ([5], [5]), ([6, 4, 0, 1, 2, 3, 4, 5, 6], [6])])
def sigtext_line.B7 : List Nat := [0, 1, 3, 0, 8, 31, 63, 127]
theorem sigtext_line.tab7 : rtab .any (opsOf Tryd.f24 7) = sigtext_line.T7 := by kernel_rfl
theorem sigtext_line.bits7 : waitsOk sigtext_line.T7.2 sigtext_line.B7 = true := by kernel_rfl
set_option maxHeartbeats 8000000 in
set_option maxRecDepth 100000 in
theorem sigtext_line.calls (k : Nat) (a0_0 : ByteArray) (A0_1 : Option Addr) (c0_1 : Nat) (l0_1 : List Int) (r : ByteArray) (w : World) (hr0_1 : Kd.C (Kd.int .i64) w A0_1 l0_1.length l0_1) (hc0_1 : l0_1.length ≤ c0_1) (h : sigtext_line.f k a0_0 l0_1 = some r) (hg : Go.Proofs.YtmmfakdncjeoeacDoorAid.Glob w) :
  Calls Tryd.prog 24 #[.agg #[.string a0_0,.slice A0_1 l0_1.length c0_1]] w fun e w' => e = .returned (.string r) ∧ Below w.heap.size w w':=by
 have hu41:=Tryd.underlying41
 have HR0_1:=Aside0.mk hr0_1
 have HC0_1:=Aside0.mk hc0_1
 clear hr0_1 hc0_1
 have HB:=Aside0.mk (Below.refl w.heap.size w)
 have HG:=Aside0.mk hg
 clear hg
 have H : (sigtext_line.l0 k ([] : List ByteArray) l0_1 (l0_1.length : Int) 0 a0_0 l0_1) = some r:=h
 clear h
 have H':=Aside0.mk H
 clear H
 go_enter Tryd.func24,Tryd.ntmps24
 go_wp2_with (first | ((with_reducible refine gate_dst (N:=1) rfl ?_);refine box_event ?hg (N:=1) ?hd (cs:=#[.string a0_0,.slice A0_1 l0_1.length c0_1]) (t:=41) ?hr ?_;(case hd => rfl);(case hg => rfl);(case hr => first | (go_simp;done) | (go_simp;rfl));intro gb228 hg w2 hbox hb;have n0_:=Aside0.mk (below_step (by repeat (first | (with_reducible first | exact HB.out | apply below_alloc | apply pw_below_drewN | apply below_drew1) | exact HB.out)) hb);have n1_:=Aside0.mk (hbox);have n2_:=Aside0.mk ((by rw [hg];exact (below_size (by repeat (first | (with_reducible first | exact HB.out | apply below_alloc | apply pw_below_drewN | apply below_drew1) | exact HB.out))) : w.heap.size ≤ gb228));have n3_:=Aside0.mk ((by rw [hg];exact (below_size (by repeat (first | (with_reducible first | exact HB.out | apply below_alloc | apply pw_below_drewN | apply below_drew1) | exact HB.out))) : w.heap.size ≤ gb228));clear HB;have HB:=n0_;have BK228:=n1_;have GW228:=n2_;have GE228:=n3_;clear n0_ n1_ n2_ n3_;clear hb hbox hg;have hcz3_0 : w2.cell? ⟨gb228,0,none⟩ = some (.string a0_0):=(blk_cell BK228.out 0).trans rfl;have hcz3_1 : w2.cell? ⟨gb228,1,none⟩ = some (.slice A0_1 l0_1.length c0_1):=(blk_cell BK228.out 1).trans rfl;have hfz3_0:=blk_frozen BK228.out 0;have hfz3_1:=blk_frozen BK228.out 1))
 go_loopg [3,9] k (fun kq v3 v9 w' => ∃ (x3_1 : List ByteArray) (x9_1 : Int),v9 = .int .i64 x9_1 ∧ Aside0 (sigtext_line.l0 kq x3_1 l0_1 (l0_1.length : Int) x9_1 a0_0 l0_1 = some r) ∧ Aside0 (kq ≤ k) ∧ Aside0 (Kd.R Kd.string 9 w' w.heap.size (fun _ => True) v3 x3_1) ∧ Aside0 (w'.heap[gb228]? = some (.cells #[.string a0_0,(.slice A0_1 l0_1.length c0_1)] 41 (0,0))) ∧ Aside0 (Below w.heap.size w w'))
 case atStart => exact ⟨(([] : List ByteArray)),(0),(by first | rfl | (simp;done) | (simp [*];done)),H',⟨Nat.le_refl _⟩,⟨by first | exact Kd.R_nil _ _ _ _ _ | exact Kd.N_nil _ _ _ _ _ | exact Kd.V_nil _ _ _ _ _ | exact Kd.Q_nil _ _ _ _ _ | exact Kd.S_nil _ _ _ _ _⟩,⟨by (with_reducible repeat (first | refine blk_drewN ?_ _ | refine blk_drew ?_ | refine blk_alloc ?_ _));exact BK228.out⟩,⟨by repeat (first | (with_reducible first | exact HB.out | apply below_alloc | apply pw_below_drewN | apply below_drew1 | refine below_set ?_ GE228.out) | exact HB.out)⟩⟩
 case round =>
  clear H'
  try clear c2
  try clear p2
  try clear hcz3_0
  try clear hcz3_1
  try clear hfz3_0
  try clear hfz3_1
  obtain ⟨x3_1,x9_1,rfl,HA,HK1,HO_3,BK228,HB⟩:=hrel
  cases gk with
  | zero => exact absurd HA.out (by simp [sigtext_line.l0])
  | succ k1 =>
   have H:=HA.out
   clear HA
   simp only [sigtext_line.l0] at H
   by_cases c4 : x9_1 < (l0_1.length : Int)
   ·rw [if_pos c4] at H
    have c4b0 : decide (x9_1 < (l0_1.length : Int)) = true:=decide_eq_true c4
    clear c4
    by_cases c5 : 0 ≤ x9_1
    ·rw [if_pos c5] at H
     have c5b0 : decide (0 ≤ x9_1) = true:=decide_eq_true c5
     clear c5
     by_cases c6 : x9_1 < (l0_1.length : Int)
     ·rw [if_pos c6] at H
      have c6b0 : decide (x9_1 < (l0_1.length : Int)) = true:=decide_eq_true c6
      clear c6
      replace H:=Option.bind_eq_some_iff.mp H
      obtain ⟨t230,A70,H⟩:=H
      replace H : (if x3_1.length < 8796093022208 then (sigtext_line.l0 k1 (x3_1 ++ [t230]) l0_1 (l0_1.length : Int) (wrap64 (x9_1 + 1)) a0_0 l0_1) else (none)) = some r:=H
      have A7:=Aside0.mk A70
      clear A70
      by_cases c8 : x3_1.length < 8796093022208
      ·rw [if_pos c8] at H
       have LMc8:=Aside0.mk c8
       clear c8
       obtain ⟨y231,hy231⟩ : ∃ y_ : List ByteArray,y_ = (x3_1 ++ [t230]):=⟨_,rfl⟩
       replace H : (sigtext_line.l0 k1 y231 l0_1 (l0_1.length : Int) (wrap64 (x9_1 + 1)) a0_0 l0_1) = some r:=by first | (rw [hy231];with_reducible exact H) | (have H2_:=(Option.bind_some _ _).symm.trans H;rw [hy231];with_reducible exact H2_) | (have H2_:=(Option.bind_some _ _).symm.trans H;with_reducible exact H2_) | with_reducible exact H | (rw [hy231];exact H) | exact H
       have Ny231:=Aside0.mk hy231
       clear hy231
       have H':=Aside0.mk H
       clear H
       have p229 : 0 ≤ (x9_1 : Int):=of_decide_eq_true (by first | (with_reducible assumption) | assumption)
       have q229 : x9_1 < (l0_1.length : Int):=of_decide_eq_true (by first | (with_reducible assumption) | assumption)
       obtain ⟨ad229,e229,hx229_0⟩:=Kd.at_int HR0_1.out x9_1 p229 q229
       cases e229
       replace hx229_0:=(HB.out.cell (World.block_lt_of_cell? w _ hx229_0)).trans hx229_0
       replace p229:=eq_true p229
       replace q229:=eq_true q229
       go_wp2_with (first | ((with_reducible refine gate_callee (f:=32) rfl ?_);refine goesL_ (some 15) rfl rfl Tryd.func32 (by kernel_rfl) rfl #[.int .i64 (rd l0_1 x9_1)] rfl (by (try simp only [List.map_toArray,List.map_cons,List.map_nil]);first | done | rfl | (simp only [List.length_drop,List.length_take];rfl)) ?_;(with_reducible refine (sigtext_word.calls (rd l0_1 x9_1) t230 _ A7.out (HG.out.below (by repeat (first | (with_reducible first | exact HB.out | apply below_alloc | apply pw_below_drewN | apply below_drew1 | refine below_set ?_ GE228.out) | exact HB.out)))).mono ?_);rintro e w9 ⟨rfl,hb⟩;refine ⟨_,rfl,?_⟩;have n0_:=Aside0.mk (Kd.R_below (by (with_reducible repeat (first | apply Kd.R_alloc | apply Kd.R_drewN | apply Kd.R_drew));exact HO_3.out) hb);have n1_:=Aside0.mk (blk_below (g:=gb228) (o:=.cells #[.string a0_0,.slice (some ad229) l0_1.length c0_1] 41 (0,0)) (by (with_reducible repeat (first | refine blk_drewN ?_ _ | refine blk_drew ?_ | refine blk_alloc ?_ _));exact BK228.out) hb);have n2_:=Aside0.mk (below_step (by repeat (first | (with_reducible first | exact HB.out | apply below_alloc | apply pw_below_drewN | apply below_drew1 | refine below_set ?_ GE228.out) | exact HB.out)) hb);clear HO_3;clear BK228;clear HB;have HO_3:=n0_;have BK228:=n1_;have HB:=n2_;clear n0_ n1_ n2_;(try clear hb);(try clear hb2);(try clear hk);(try clear hi)) | ((with_reducible refine gate_builtin (b:=.append) (xs:=#[.tmp 13,.tmp 16]) rfl ?_);at_builtin;refine Kd.R_append Kd.string (w0:=w) w.heap.size rfl (.tmp 13) (.tmp 16) 65 9 (.string ⟨#[]⟩) 16 rfl Tryd.underlying65 info9 rfl (by decide) (by omega) u3 x3_1 t230 [.string t230] (fun _ => True) (fun _ => False) rfl rfl ?aP (fun _ hk => hk.elim) ?aF ?aO ?aB ?aS ?aL ?_;(case aP => exact rfl);(case aB => exact (by repeat (first | (with_reducible first | exact HB.out | apply below_alloc | apply pw_below_drewN | apply below_drew1 | refine below_set ?_ GE228.out) | exact HB.out)));(case aF => exact (fun _ _ => trivial));(case aO => exact (by (with_reducible repeat (first | apply Kd.R_alloc | apply Kd.R_drewN | apply Kd.R_drew));exact HO_3.out));(case aS => exact (below_size (by repeat (first | (with_reducible first | exact HB.out | apply below_alloc | apply pw_below_drewN | apply below_drew1 | refine below_set ?_ GE228.out) | exact HB.out))));(case aL => have:=LMc8.out;omega);intro v232 w10 ho hb hg hat;rw [← Ny231.out] at ho;have n0_:=Aside0.mk (blk_grown (g:=gb228) (o:=.cells #[.string a0_0,.slice (some ad229) l0_1.length c0_1] 41 (0,0)) (by (with_reducible repeat (first | refine blk_drewN ?_ _ | refine blk_drew ?_ | refine blk_alloc ?_ _));exact BK228.out) hg (Kd.R_ne HO_3.out BK228.out (by decide)));have n1_:=Aside0.mk (hb);have n2_:=Aside0.mk (ho);clear BK228;clear HB;clear HO_3;have BK228:=n0_;have HB:=n1_;have HO233:=n2_;clear n0_ n1_ n2_;clear ho hb hg hat))
       go_roundg k1
       case measure => have:=HK1.out;omega
       case rel => exact ⟨(y231),(wrap64 (x9_1 + 1)),(by first | rfl | (simp;done) | (simp [*];done)),H',⟨by have:=HK1.out;omega⟩,⟨by (with_reducible repeat (first | apply Kd.R_alloc | apply Kd.R_drewN | apply Kd.R_drew));exact HO233.out⟩,⟨by (with_reducible repeat (first | refine blk_drewN ?_ _ | refine blk_drew ?_ | refine blk_alloc ?_ _));exact BK228.out⟩,⟨by repeat (first | (with_reducible first | exact HB.out | apply below_alloc | apply pw_below_drewN | apply below_drew1 | refine below_set ?_ GE228.out) | exact HB.out)⟩⟩
      ·rw [if_neg c8] at H
       exact absurd H (by simp)
     ·rw [if_neg c6] at H
      exact absurd H (by simp)
    ·rw [if_neg c5] at H
     exact absurd H (by simp)
   ·rw [if_neg c4] at H
    have c4b0 : decide (x9_1 < (l0_1.length : Int)) = false:=decide_eq_false c4
    clear c4
    by_cases c11 : a0_0.size + 1 ≤ 9223372036854775807
    ·rw [if_pos c11] at H
     have c11b0:=eq_true c11
     have c11b1 : decide (a0_0.size + 1 ≤ 9223372036854775807) = true:=decide_eq_true c11
     try have c11b2 : (9223372036854775807 < a0_0.size + 1) = False:=eq_false (Nat.not_lt.2 c11)
     replace H:=Option.bind_eq_some_iff.mp H
     obtain ⟨t234,A120,H⟩:=H
     replace H : (if (a0_0 ++ (⟨#[40]⟩ : ByteArray)).size + t234.size ≤ 9223372036854775807 then (if ((a0_0 ++ (⟨#[40]⟩ : ByteArray)) ++ t234).size + 1 ≤ 9223372036854775807 then (some (((a0_0 ++ (⟨#[40]⟩ : ByteArray)) ++ t234) ++ (⟨#[41]⟩ : ByteArray))) else (none)) else (none)) = some r:=H
     have A12:=Aside0.mk A120
     clear A120
     by_cases c13 : (a0_0 ++ (⟨#[40]⟩ : ByteArray)).size + t234.size ≤ 9223372036854775807
     ·rw [if_pos c13] at H
      have c13b0:=eq_true c13
      have c13b1 : decide ((a0_0 ++ (⟨#[40]⟩ : ByteArray)).size + t234.size ≤ 9223372036854775807) = true:=decide_eq_true c13
      try have c13b2 : (9223372036854775807 < (a0_0 ++ (⟨#[40]⟩ : ByteArray)).size + t234.size) = False:=eq_false (Nat.not_lt.2 c13)
      try have c13b3 : (9223372036854775807 < a0_0.size + 1 + t234.size) = False:=eq_false (by have h_:=c13;simp only [ByteArray.size_append] at h_;(try rw [show (⟨#[40]⟩ : ByteArray).size = 1 from rfl] at h_);omega)
      by_cases c14 : ((a0_0 ++ (⟨#[40]⟩ : ByteArray)) ++ t234).size + 1 ≤ 9223372036854775807
      ·rw [if_pos c14] at H
       have c14b0:=eq_true c14
       have c14b1 : decide (((a0_0 ++ (⟨#[40]⟩ : ByteArray)) ++ t234).size + 1 ≤ 9223372036854775807) = true:=decide_eq_true c14
       try have c14b2 : (9223372036854775807 < ((a0_0 ++ (⟨#[40]⟩ : ByteArray)) ++ t234).size + 1) = False:=eq_false (Nat.not_lt.2 c14)
       try have c14b3 : (9223372036854775807 < a0_0.size + 1 + t234.size + 1) = False:=eq_false (by have h_:=c14;simp only [ByteArray.size_append] at h_;(try rw [show (⟨#[40]⟩ : ByteArray).size = 1 from rfl] at h_);omega)
       obtain rfl:=Option.some.inj H
       try go_wp2
       have n0_:=Aside0.mk (Kd.R_drew HO_3.out)
       have n1_:=Aside0.mk (blk_drew BK228.out)
       have n2_:=Aside0.mk (below_drew1 HB.out)
       clear HO_3
       clear BK228
       clear HB
       have HO_3:=n0_
       have BK228:=n1_
       have HB:=n2_
       clear n0_ n1_ n2_
       obtain ⟨Ao16,co16,eo16⟩:=Kd.R_slice HO_3.out
       (first | subst eo16 | (injection eo16 with f1_ f2_ f3_;have f4_:=f1_.symm;have f5_:=f3_.symm;clear f1_ f2_ f3_;subst f4_;subst f5_))
       refine start_ (n:=8) (S:=fun w' => w'.cell? ⟨gb228,0,none⟩ = some (.string a0_0) ∧ w'.cell? ⟨gb228,1,none⟩ = some (.slice A0_1 l0_1.length c0_1)) (ds:=[]) #[n_,n_,n_,n_,n_,n_,n_,n_] (by kernel_rfl) rfl rfl ⟨(blk_cell BK228.out 0).trans rfl,(blk_cell BK228.out 1).trans rfl⟩ (fun hHeld => ?_);refine with_tabW sigtext_line.tab7 sigtext_line.bits7 (fun HT_ HW_ => ?_)
       generalize wr.drew = w15 at HO_3 BK228 HB hHeld ⊢
       refine pure_ (i:=0) (N:=some 19) (v:=?_) (a':=?_) #[y_,n_,n_,n_,n_,n_,n_,n_] rfl rfl (any_of HT_.out (by kernel_rfl)) (fun _ _ _ h => h) (Or.inl ⟨by rfl,?_⟩) ?_ ?_
       rotate_left
       ·intro w'
        go_simp
        with_reducible rfl
       rotate_left
       ·simp only [Act.put,sA_,sB_,sC_,i64_w,i32_w]
        rfl
       refine pure_ (i:=3) (N:=some 22) (v:=?_) (a':=?_) #[y_,n_,n_,y_,n_,n_,n_,n_] rfl rfl (any_of HT_.out (by kernel_rfl)) (fun _ _ _ h => h) (Or.inl ⟨by rfl,?_⟩) ?_ ?_
       rotate_left
       ·intro w'
        go_simp
        with_reducible rfl
       rotate_left
       ·simp only [Act.put,sA_,sB_,sC_,i64_w,i32_w]
        rfl
       refine take_ (i:=1) (N:=some 20) (v:=?_) (a':=?_) #[y_,y_,n_,y_,n_,n_,n_,n_] rfl rfl (take_ofW HT_.out HW_.out (by kernel_rfl)) (fun _ _ _ h => h) (Or.inl ⟨by rfl,?_⟩) hHeld ?_ ?_
       rotate_left
       ·rintro w' ⟨s0,s1⟩
        go_simp
        with_reducible rfl
       rotate_left
       ·simp only [Act.put,sA_,sB_,sC_,i64_w,i32_w]
        rfl
       refine pure_ (i:=2) (N:=some 21) (v:=?_) (a':=?_) #[y_,y_,y_,y_,n_,n_,n_,n_] rfl rfl (any_of HT_.out (by kernel_rfl)) (fun _ _ _ h => h) (Or.inl ⟨by rfl,?_⟩) ?_ ?_
       rotate_left
       ·intro w'
        go_simp
        with_reducible rfl
       rotate_left
       ·simp only [Act.put,sA_,sB_,sC_,i64_w,i32_w]
        rfl
       refine one_ (i:=4) (N:=some 23) #[y_,y_,y_,y_,y_,n_,n_,n_] rfl rfl (one_of HT_.out (by kernel_rfl)) (by decide) (fun K hK => ?_)
       refine goes_ Tryd.func33 (by kernel_rfl) rfl #[.slice Ao16 x3_1.length co16,.string (⟨#[44]⟩ : ByteArray)] (by rfl) rfl rfl (by (try simp only [List.map_toArray,List.map_cons,List.map_nil]);first | done | rfl | (simp only [List.length_drop,List.length_take];rfl)) ?_
       with_reducible refine (strings_Join.calls _ _ x3_1 (⟨#[44]⟩ : ByteArray) t234 _ ?side1 ?side2 A12.out).mono ?_
       (case side1 => repeat (first | exact (Kd.R_reads' HO_3.out).2.2 | (with_reducible refine Kd.C_alloc ?_ _) | (with_reducible refine Kd.C_drewN ?_ _) | (with_reducible refine Kd.C_drew ?_)))
       (case side2 => exact (Kd.R_reads' HO_3.out).2.1)
       rintro e w17 ⟨rfl,hb⟩
       refine ⟨_,rfl,?_⟩
       have n0_:=Aside0.mk (Kd.R_below (by (with_reducible repeat (first | apply Kd.R_alloc | apply Kd.R_drewN | apply Kd.R_drew));exact HO_3.out) hb)
       have n1_:=Aside0.mk (blk_below (g:=gb228) (o:=.cells #[.string a0_0,.slice A0_1 l0_1.length c0_1] 41 (0,0)) (by (with_reducible repeat (first | refine blk_drewN ?_ _ | refine blk_drew ?_ | refine blk_alloc ?_ _));exact BK228.out) hb)
       have n2_:=Aside0.mk (below_step (by repeat (first | (with_reducible first | exact HB.out | apply below_alloc | apply pw_below_drewN | apply below_drew1 | refine below_set ?_ GE228.out) | exact HB.out)) hb)
       clear HO_3
       clear BK228
       clear HB
       have HO_3:=n0_
       have BK228:=n1_
       have HB:=n2_
       clear n0_ n1_ n2_
       (try clear hb)
       (try clear hb2)
       (try clear hk)
       (try clear hi)
       refine hK.out _ _ ⟨(blk_cell BK228.out 0).trans rfl,(blk_cell BK228.out 1).trans rfl⟩ (fun hHeld => ?_)
       clear hK K
       refine norm_ (a':=?_) ?_ ?_
       rotate_left
       ·show Act.put _ (some 23) _ = _
        simp only [Act.put,sA_,sB_,sC_,i64_w,i32_w]
        rfl
       refine pure_ (i:=5) (N:=some 24) (v:=?_) (a':=?_) #[y_,y_,y_,y_,y_,y_,n_,n_] rfl rfl (any_of HT_.out (by kernel_rfl)) (fun _ _ _ h => h) (Or.inl ⟨by rfl,?_⟩) ?_ ?_
       rotate_left
       ·intro w'
        go_simp
        with_reducible rfl
       rotate_left
       ·simp only [Act.put,sA_,sB_,sC_,i64_w,i32_w]
        rfl
       refine pure_ (i:=6) (N:=some 25) (v:=?_) (a':=?_) #[y_,y_,y_,y_,y_,y_,y_,n_] rfl rfl (any_of HT_.out (by kernel_rfl)) (fun _ _ _ h => h) (Or.inl ⟨by rfl,?_⟩) ?_ ?_
       rotate_left
       ·intro w'
        go_simp
        with_reducible rfl
       rotate_left
       ·simp only [Act.put,sA_,sB_,sC_,i64_w,i32_w]
        rfl
       refine pure_ (i:=7) (N:=some 2) (v:=?_) (a':=?_) #[y_,y_,y_,y_,y_,y_,y_,y_] rfl rfl (any_of HT_.out (by kernel_rfl)) (fun _ _ _ h => h) (Or.inl ⟨by rfl,?_⟩) ?_ ?_
       rotate_left
       ·intro w'
        go_simp
        with_reducible rfl
       rotate_left
       ·simp only [Act.put,sA_,sB_,sC_,i64_w,i32_w]
        rfl
       refine done_ (done_of HT_.out (by kernel_rfl)) ?_
       try go_wp2
       go_ret
       exact ⟨by first | rfl | (simp [errW_none,errW_some] <;> rfl) | (simp [*,errW_none,errW_some] <;> rfl),by repeat (first | (with_reducible first | exact HB.out | apply below_alloc | apply pw_below_drewN | apply below_drew1 | refine below_set ?_ GE228.out) | exact HB.out)⟩
      ·rw [if_neg c14] at H
       exact absurd H (by simp)
     ·rw [if_neg c13] at H
      exact absurd H (by simp)
    ·rw [if_neg c11] at H
     exact absurd H (by simp)

end Go.Proofs.YtmmfakdncjeoeacDoor.PE
