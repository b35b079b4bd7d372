-- Contracts of Go functions, each with its plain Lean function: written by wip/tools/myprint.py of this work (the kit's print, with contracts proved by hand spliced in).
import Derived.Test.YtmmfakdncjeoeaaPCx0
import Derived.Test.YtmmfakdncjeoeaaPCx1
namespace Go.Proofs.Ytmmfakdncjeoeaa.PC
open Go.RowKit Go.Proofs.YtmmfakdncjeoeaaW.PrintWords Go.Proofs.YtmmfakdncjeoeaaW.PrintLast Go.Proofs.YtmmfakdncjeoeaaW.PrintMore
attribute [local go_sem] max2_int min2_int max_two min_two max_three min_three max_four min_four   -- for this text's walks alone
set_option linter.unusedVariables false
set_option linter.unusedSimpArgs false

/-! ### sig_Check: function 20 -/
section
open Go.Proofs.YtmmfakdncjeoeaaAid Go.Maps
theorem sig_Check.keyOf (s : ByteArray) (hs : s.size ≤ 9223372036854775807) : Go.keyOf Try.prog 94 (.agg #[.string s]) = some (.string (keyBytes [.string s.data.toList])) := by
  have h1 : Try.prog.keyType 94 = true := by kernel_rfl
  have h2 : Try.prog.cellsOf 94 = 1 := by kernel_rfl
  have h3 : Try.prog.cellsOf 9 = 1 := by kernel_rfl
  have h4 : (Value.agg #[.string s]).formed Try.prog 94 = true := by simp [Value.formed, Try.underlying94, h2]
  have h6 : Try.prog.types.size + 1 = (Try.prog.types.size - 1) + 1 + 1 := by
    have : 0 < Try.prog.types.size := of_decide_eq_true (by kernel_rfl)
    omega
  have h5 : Try.prog.keyLits (Try.prog.types.size + 1) 94 [.string s] = some [.string s.data.toList] := by
    rw [h6]
    generalize Try.prog.types.size - 1 = m
    unfold Program.keyLits
    rw [Try.underlying94]
    simp only [h2, List.length_cons, List.length_nil]
    unfold Program.keyLits
    simp [Try.underlying9, h3, maxLen, hs]
  unfold Go.keyOf
  rw [Try.underlying94]
  simp only [h1, h4, Bool.and_self, if_true]
  show (Try.prog.keyLits (Try.prog.types.size + 1) 94 [.string s]).map _ = _
  rw [h5]
  rfl
def sig_Check.ok (s : ByteArray) : Prop := s.size ≤ 9223372036854775807
def sig_Check.kl (s : ByteArray) : Lit := .string (keyBytes [.string s.data.toList])
theorem sig_Check.keyAs : KeyAs Try.prog 94 sig_Check.ok (fun s => .agg #[.string s]) sig_Check.kl where
  K := Keyed.of_law (deep_law_gate (by kernel_rfl) (of_decide_eq_true (by kernel_rfl)) (of_decide_eq_true (by kernel_rfl)) (by kernel_rfl) (by kernel_rfl))
  key := sig_Check.keyOf
  inj := fun x y h => by
    injection h with h
    injection h with h
    injection h with h
    injection h
abbrev sig_Check.M (w : World) (b : Nat) (acc : List ByteArray) : Prop := HasKeys Try.prog 94 3 sig_Check.ok sig_Check.kl w b acc
mutual
def sig_Check.l0 : Nat → List ByteArray → List (S53) → Int → Int → Option (Int)
  | 0, _, _, _, _ => none
  | k + 1, x3, x14, x15, x16 => if x16 < x15 then (if 0 ≤ x16 then (if x16 < (x14.length : Int) then (if ((rd_T53 x14 x16).f0).size ≤ 9223372036854775807 then (if ((rd_T53 x14 x16).f0) ∈ x3 then (sig_Check.j1 k x3 x14 x15 x16 true ((rd_T53 x14 x16).f0) ((rd_T53 x14 x16).f1)) else ((sig_Name.f k ((rd_T53 x14 x16).f0)).bind fun t423 => (sig_Check.j1 k x3 x14 x15 x16 (!t423) ((rd_T53 x14 x16).f0) ((rd_T53 x14 x16).f1)))) else (none)) else (none)) else (none)) else (some 0)
def sig_Check.j1 : Nat → List ByteArray → List (S53) → Int → Int → Bool → ByteArray → List Int → Option (Int)
  | 0, _, _, _, _, _, _, _ => none
  | k + 1, x3, x14, x15, x16, x35, x423000, x423001 => if x35 = true then (some 9) else (if x3.length < 8796093022208 then (if (x423001.length : Int) > 8 then (some 6) else (sig_Check.l1 k (x3 ++ [x423000]) x14 x15 x16 x423001 (x423001.length : Int) 0)) else (none))
def sig_Check.l1 : Nat → List ByteArray → List (S53) → Int → Int → List Int → Int → Int → Option (Int)
  | 0, _, _, _, _, _, _, _ => none
  | k + 1, x3, x14, x15, x16, x46, x47, x48 => if x48 < x47 then (if 0 ≤ x48 then (if x48 < (x46.length : Int) then (if (rd x46 x48) = 1 then (sig_Check.l1 k x3 x14 x15 x16 x46 x47 (wrap64 (x48 + 1))) else (if (rd x46 x48) = 2 then (sig_Check.l1 k x3 x14 x15 x16 x46 x47 (wrap64 (x48 + 1))) else (some 7))) else (none)) else (none)) else (sig_Check.l0 k x3 x14 x15 (wrap64 (x16 + 1)))
end
def sig_Check.f (k : Nat) (l0 : List (S53)) : Option (Int) := if (l0.length : Int) > 64 then (some 6) else (sig_Check.l0 k (([] : List ByteArray)) l0 (l0.length : Int) 0)
theorem sig_Check.mono_l : ∀ k, (∀ y0 y1 y2 y3, LeO (sig_Check.l0 k y0 y1 y2 y3) (sig_Check.l0 (k + 1) y0 y1 y2 y3)) ∧ (∀ y0 y1 y2 y3 y4 y5 y6, LeO (sig_Check.j1 k y0 y1 y2 y3 y4 y5 y6) (sig_Check.j1 (k + 1) y0 y1 y2 y3 y4 y5 y6)) ∧ (∀ y0 y1 y2 y3 y4 y5 y6, LeO (sig_Check.l1 k y0 y1 y2 y3 y4 y5 y6) (sig_Check.l1 (k + 1) y0 y1 y2 y3 y4 y5 y6))
  | 0 => ⟨fun _ _ _ _ r h => by simp [sig_Check.l0] at h, fun _ _ _ _ _ _ _ r h => by simp [sig_Check.j1] at h, fun _ _ _ _ _ _ _ r h => by simp [sig_Check.l1] at h⟩
  | k + 1 => by
    obtain ⟨ih0, ih1, ih2⟩ := sig_Check.mono_l k
    refine ⟨?_, ?_, ?_⟩
    · intro y0 y1 y2 y3
      unfold sig_Check.l0
      repeat' first
      | (with_reducible exact ih0 _ _ _ _)
      | (with_reducible exact ih1 _ _ _ _ _ _ _)
      | (with_reducible exact ih2 _ _ _ _ _ _ _)
      | (with_reducible exact sig_Name.mono _ _)
      | (with_reducible exact LeO.refl _)
      | (with_reducible exact LeO.none _)
      | (with_reducible refine LeO.ite ?_ ?_)
      | (with_reducible refine LeO.bind ?_ (fun _ => ?_))
      | exact ih0 _ _ _ _
      | exact ih1 _ _ _ _ _ _ _
      | exact ih2 _ _ _ _ _ _ _
      | exact sig_Name.mono _ _
      | exact LeO.none _
      | refine LeO.ite ?_ ?_
      | refine LeO.bind ?_ (fun _ => ?_)
    · intro y0 y1 y2 y3 y4 y5 y6
      unfold sig_Check.j1
      repeat' first
      | (with_reducible exact ih0 _ _ _ _)
      | (with_reducible exact ih1 _ _ _ _ _ _ _)
      | (with_reducible exact ih2 _ _ _ _ _ _ _)
      | (with_reducible exact sig_Name.mono _ _)
      | (with_reducible exact LeO.refl _)
      | (with_reducible exact LeO.none _)
      | (with_reducible refine LeO.ite ?_ ?_)
      | (with_reducible refine LeO.bind ?_ (fun _ => ?_))
      | exact ih0 _ _ _ _
      | exact ih1 _ _ _ _ _ _ _
      | exact ih2 _ _ _ _ _ _ _
      | exact sig_Name.mono _ _
      | exact LeO.none _
      | refine LeO.ite ?_ ?_
      | refine LeO.bind ?_ (fun _ => ?_)
    · intro y0 y1 y2 y3 y4 y5 y6
      unfold sig_Check.l1
      repeat' first
      | (with_reducible exact ih0 _ _ _ _)
      | (with_reducible exact ih1 _ _ _ _ _ _ _)
      | (with_reducible exact ih2 _ _ _ _ _ _ _)
      | (with_reducible exact sig_Name.mono _ _)
      | (with_reducible exact LeO.refl _)
      | (with_reducible exact LeO.none _)
      | (with_reducible refine LeO.ite ?_ ?_)
      | (with_reducible refine LeO.bind ?_ (fun _ => ?_))
      | exact ih0 _ _ _ _
      | exact ih1 _ _ _ _ _ _ _
      | exact ih2 _ _ _ _ _ _ _
      | exact sig_Name.mono _ _
      | exact LeO.none _
      | refine LeO.ite ?_ ?_
      | refine LeO.bind ?_ (fun _ => ?_)
theorem sig_Check.mono : ∀ a0 k, LeO (sig_Check.f k a0) (sig_Check.f (k + 1) a0) := by
  intro a0 k
  obtain ⟨ih0, ih1, ih2⟩ := sig_Check.mono_l k
  unfold sig_Check.f
  repeat' first
      | (with_reducible exact ih0 _ _ _ _)
      | (with_reducible exact ih1 _ _ _ _ _ _ _)
      | (with_reducible exact ih2 _ _ _ _ _ _ _)
      | (with_reducible exact sig_Name.mono _ _)
      | (with_reducible exact LeO.refl _)
      | (with_reducible exact LeO.none _)
      | (with_reducible refine LeO.ite ?_ ?_)
      | (with_reducible refine LeO.bind ?_ (fun _ => ?_))
      | exact ih0 _ _ _ _
      | exact ih1 _ _ _ _ _ _ _
      | exact ih2 _ _ _ _ _ _ _
      | exact sig_Name.mono _ _
      | exact LeO.none _
      | refine LeO.ite ?_ ?_
      | refine LeO.bind ?_ (fun _ => ?_)
set_option maxHeartbeats 8000000 in
set_option maxRecDepth 100000 in
theorem sig_Check.calls (k : Nat) (A0 : Option Addr) (c0 : Nat) (l0 : List (S53)) (r : Int) (w : World) (hr0 : Kd.C k53 w A0 l0.length l0) (hc0 : l0.length ≤ c0) (h : sig_Check.f k l0 = some r) :
    Calls Try.prog 20 #[.slice A0 l0.length c0] w fun e w' => e = .returned (.int .i64 r) ∧ Below w.heap.size w w' := by
  have hu53 := Try.underlying53
  have HR0 := Aside0.mk hr0
  have HC0 := Aside0.mk hc0
  clear hr0 hc0
  have HB := Aside0.mk (Below.refl w.heap.size w)
  have H : (if (l0.length : Int) > 64 then (some 6) else (sig_Check.l0 k (([] : List ByteArray)) l0 (l0.length : Int) 0)) = some r := h
  clear h
  by_cases c2 : (l0.length : Int) > 64
  · rw [if_pos c2] at H
    have c2b0 : decide (64 < (l0.length : Int)) = true := decide_eq_true c2
    have c2b1 : decide (64 < l0.length) = true := decide_eq_true (by omega)
    clear c2
    obtain rfl := Option.some.inj H
    go_enter Try.func20, Try.ntmps20
    go_wp2
    go_ret
    exact ⟨by first | rfl | (simp [errW_none, errW_some] <;> rfl) | (simp [*, errW_none, errW_some] <;> rfl), by repeat (first | (with_reducible first | exact HB.out | apply below_alloc | apply pw_below_drewN | apply below_drew1) | exact HB.out)⟩
  · rw [if_neg c2] at H
    have c2b0 : decide (64 < (l0.length : Int)) = false := decide_eq_false c2
    have c2b1 : decide (64 < l0.length) = false := decide_eq_false (by omega)
    have HL := Aside0.mk (show l0.length ≤ 64 by omega)
    clear c2
    obtain ⟨y418, hy418⟩ : ∃ y_ : List ByteArray, y_ = (([] : List ByteArray)) := ⟨_, rfl⟩
    replace H : (sig_Check.l0 k y418 l0 (l0.length : Int) 0) = some r := by first | (rw [hy418]; with_reducible exact H) | (have H2_ := (Option.bind_some _ _).symm.trans H; rw [hy418]; with_reducible exact H2_) | (have H2_ := (Option.bind_some _ _).symm.trans H; with_reducible exact H2_) | with_reducible exact H | (rw [hy418]; exact H) | exact H
    have Ny418 := Aside0.mk hy418
    clear hy418
    have H' := Aside0.mk H
    clear H
    go_enter Try.func20, Try.ntmps20
    go_wp2_with (first | ((with_reducible refine gate_dst (N := 13) rfl ?_); refine map_event (k := 94) (e := 3) (ok := sig_Check.ok) (kl := sig_Check.kl) rfl (N := 13) rfl 91 rfl ?_; intro gm w3 hgm ho4 hb hg_; clear hg_; rw [← Ny418.out] at ho4; have n0_ := Aside0.mk (show sig_Check.M _ gm y418 from ho4.keys); have n1_ := Aside0.mk (below_step (by repeat (first | (with_reducible first | exact HB.out | apply below_alloc | apply pw_below_drewN | apply below_drew1) | exact HB.out)) hb); have n2_ := Aside0.mk ((by rw [hgm]; exact (below_size (by repeat (first | (with_reducible first | exact HB.out | apply below_alloc | apply pw_below_drewN | apply below_drew1) | exact HB.out)))) : w.heap.size ≤ gm); clear HB; have HO420 := n0_; have HB := n1_; have GM := n2_; clear n0_ n1_ n2_; clear hb ho4 hgm))
    go_loopg [16] k (fun kq v16 w' => ∃ (x3_1 : List ByteArray) (x16_1 : Int), v16 = .int .i64 x16_1 ∧ Aside0 (sig_Check.l0 kq x3_1 l0 (l0.length : Int) x16_1 = some r) ∧ Aside0 (kq ≤ k) ∧ Aside0 (sig_Check.M w' gm x3_1) ∧ Aside0 (Below w.heap.size w w'))
    case atStart => exact ⟨(y418), (0), (by first | rfl | (simp; done) | (simp [*]; done)), H', ⟨Nat.le_refl _⟩, ⟨(by repeat (first | (with_reducible first | exact HO420.out | apply HasKeys.alloc | apply HasKeys.drewN | apply HasKeys.drew) | exact HO420.out))⟩, ⟨by repeat (first | (with_reducible first | exact HB.out | apply below_alloc | apply pw_below_drewN | apply below_drew1) | exact HB.out)⟩⟩
    case round =>
      clear H'
      try clear c2
      try clear c2b0
      try clear c2b1
      try clear p2
      obtain ⟨x3_1, x16_1, rfl, HA, HK1, HO_3, HB⟩ := hrel
      cases gk with
      | zero => exact absurd HA.out (by simp [sig_Check.l0])
      | succ k1 =>
        have H := HA.out
        clear HA
        simp only [sig_Check.l0] at H
        by_cases c5 : x16_1 < (l0.length : Int)
        · rw [if_pos c5] at H
          have c5b0 : decide (x16_1 < (l0.length : Int)) = true := decide_eq_true c5
          clear c5
          by_cases c6 : 0 ≤ x16_1
          · rw [if_pos c6] at H
            have c6b0 : decide (0 ≤ x16_1) = true := decide_eq_true c6
            clear c6
            by_cases c7 : x16_1 < (l0.length : Int)
            · rw [if_pos c7] at H
              have c7b0 : decide (x16_1 < (l0.length : Int)) = true := decide_eq_true c7
              clear c7
              have cs : ((rd_T53 l0 x16_1).f0).size ≤ 9223372036854775807 := Decidable.byContradiction (fun hc_ => by rw [if_neg hc_] at H; exact absurd H (by simp))
              rw [if_pos cs] at H
              have CS := Aside0.mk cs
              clear cs
              have HC8 := Aside0.mk H
              clear H
              have p421 : 0 ≤ (x16_1 : Int) := of_decide_eq_true (by first | (with_reducible assumption) | assumption)
              have q421 : x16_1 < (l0.length : Int) := of_decide_eq_true (by first | (with_reducible assumption) | assumption)
              obtain ⟨ad421, A421_1, c421_1, e421, hx421_0, hx421_1, hl421_1, hi421_1⟩ := at_T53 HR0.out x16_1 p421 q421
              cases e421
              replace hx421_0 := (HB.out.cell (World.block_lt_of_cell? w _ hx421_0)).trans hx421_0
              replace hx421_1 := (HB.out.cell (World.block_lt_of_cell? w _ hx421_1)).trans hx421_1
              have HR421_1 := Aside0.mk hi421_1
              have HC421_1 := Aside0.mk hl421_1
              clear hi421_1 hl421_1
              have PX := Aside0.mk (⟨p421, q421⟩ : 0 ≤ (x16_1 : Int) ∧ (x16_1 : Int) < l0.length)
              replace p421 := eq_true p421
              replace q421 := eq_true q421
              go_upto_region 8 with (first | ((with_reducible refine gate_dst (N := 5) rfl ?_); refine box_event ?hg (N := 5) ?hd (cs := #[.string (⟨#[]⟩ : ByteArray), .slice none 0 0]) (t := 53) ?hr ?_; (case hd => rfl); (case hg => rfl); (case hr => first | (go_simp; done) | (go_simp; rfl)); intro gb422 hg w9 hbox hb; have n0_ := Aside0.mk (HasKeys.below (by repeat (first | (with_reducible first | exact HO_3.out | apply HasKeys.alloc | apply HasKeys.drewN | apply HasKeys.drew) | exact HO_3.out)) hb (Nat.le_refl _)); have n1_ := Aside0.mk (below_step (by repeat (first | (with_reducible first | exact HB.out | apply below_alloc | apply pw_below_drewN | apply below_drew1) | exact HB.out)) hb); have n2_ := Aside0.mk (hbox); have n3_ := Aside0.mk ((by rw [hg]; exact (below_size (by repeat (first | (with_reducible first | exact HB.out | apply below_alloc | apply pw_below_drewN | apply below_drew1) | exact HB.out))) : w.heap.size ≤ gb422)); have n4_ := Aside0.mk ((by rw [hg]; exact (below_size (by repeat (first | (with_reducible first | exact HB.out | apply below_alloc | apply pw_below_drewN | apply below_drew1) | exact HB.out))) : w.heap.size ≤ gb422)); clear HO_3; clear HB; have HO_3 := n0_; have HB := n1_; have BK422 := n2_; have GW422 := n3_; have GE422 := n4_; clear n0_ n1_ n2_ n3_ n4_; clear hb hbox hg; have NG422 := Aside0.mk (HasKeys.ne HO_3.out BK422.out); have hcz10_0 : w9.cell? ⟨gb422, 0, none⟩ = some (.string (⟨#[]⟩ : ByteArray)) := (blk_cell BK422.out 0).trans rfl; have hcz10_1 : w9.cell? ⟨gb422, 1, none⟩ = some (.slice none 0 0) := (blk_cell BK422.out 1).trans rfl; have hfz10_0 := blk_frozen BK422.out 0; have hfz10_1 := blk_frozen BK422.out 1) | (at_lookup; refine has_event sig_Check.keyAs rfl _ _ 91 rfl Try.underlying91 Try.underlying3 ?hz (b := gm) (acc := x3_1) rfl ?how ((rd_T53 l0 x16_1).f0) CS.out rfl ?_; (case hz => kernel_rfl); (case how => exact (by repeat (first | (with_reducible first | exact HO_3.out | apply HasKeys.alloc | apply HasKeys.drewN | apply HasKeys.drew | refine HasKeys.set ?_ NG422.out _) | exact HO_3.out))); intro cv_))
              (try simp only [Act.put, List.setIfInBounds_toArray, List.set_cons_zero, List.set_cons_succ])
              go_cut [7, 35] (fun v7 v35 wc => ∃ (kq : Nat) (x35_7 : Bool), v35 = .bool x35_7 ∧ Aside0 (sig_Check.j1 kq x3_1 l0 (l0.length : Int) x16_1 x35_7 ((rd_T53 l0 x16_1).f0) ((rd_T53 l0 x16_1).f1) = some r) ∧ Aside0 (kq ≤ k1) ∧ Aside0 (sig_Check.M wc gm x3_1) ∧ Aside0 (wc.heap[gb422]? = some (.cells #[.string ((rd_T53 l0 x16_1).f0), (.slice A421_1 ((rd_T53 l0 x16_1).f1).length c421_1)] 53 (0, 0))) ∧ Aside0 (Below w.heap.size w wc))
              case first =>
                have H := HC8.out
                clear HC8
                by_cases c11 : ((rd_T53 l0 x16_1).f0) ∈ x3_1
                · rw [if_pos c11] at H
                  have c11b0 : decide (((rd_T53 l0 x16_1).f0) ∈ x3_1) = true := decide_eq_true c11
                  clear c11
                  (first | rw [c11b0] | (simp only [i64_w, i32_w]; rw [c11b0]) | skip)
                  have H' := Aside0.mk H
                  clear H
                  go_wp2
                  go_meet
                  case rel => exact ⟨_, (true), (by first | rfl | (simp; done) | (simp [*]; done)), H', ⟨by have := HK1.out; first | omega | exact Nat.le_refl _⟩, ⟨(by repeat (first | (with_reducible first | exact HO_3.out | apply HasKeys.alloc | apply HasKeys.drewN | apply HasKeys.drew | refine HasKeys.set ?_ NG422.out _) | exact HO_3.out))⟩, ⟨by (with_reducible repeat (first | refine blk_drewN ?_ _ | refine blk_drew ?_ | refine blk_alloc ?_ _)); refine blk_put (cs := #[.string ((rd_T53 l0 x16_1).f0), .slice none 0 0]) ?_ 1 _ rfl; (with_reducible repeat (first | refine blk_drewN ?_ _ | refine blk_drew ?_ | refine blk_alloc ?_ _)); refine blk_put (cs := #[.string (⟨#[]⟩ : ByteArray), .slice none 0 0]) ?_ 0 _ rfl; (with_reducible repeat (first | refine blk_drewN ?_ _ | refine blk_drew ?_ | refine blk_alloc ?_ _)); exact BK422.out⟩, ⟨by repeat (first | (with_reducible first | exact HB.out | apply below_alloc | apply pw_below_drewN | apply below_drew1 | refine below_set ?_ GE422.out) | exact HB.out)⟩⟩
                · rw [if_neg c11] at H
                  have c11b0 : decide (((rd_T53 l0 x16_1).f0) ∈ x3_1) = false := decide_eq_false c11
                  (first | rw [c11b0] | (simp only [i64_w, i32_w]; rw [c11b0]) | skip)
                  replace H := Option.bind_eq_some_iff.mp H
                  obtain ⟨t423, A120, H⟩ := H
                  replace H : (sig_Check.j1 k1 x3_1 l0 (l0.length : Int) x16_1 (!t423) ((rd_T53 l0 x16_1).f0) ((rd_T53 l0 x16_1).f1)) = some r := H
                  have A12 := Aside0.mk A120
                  clear A120
                  have H' := Aside0.mk H
                  clear H
                  have hcz13_0 : w9.cell? ⟨gb422, 0, none⟩ = some (.string (⟨#[]⟩ : ByteArray)) := (blk_cell BK422.out 0).trans rfl
                  have hcz13_1 : w9.cell? ⟨gb422, 1, none⟩ = some (.slice none 0 0) := (blk_cell BK422.out 1).trans rfl
                  have hfz13_0 := blk_frozen BK422.out 0
                  have hfz13_1 := blk_frozen BK422.out 1
                  go_wp2_with (first | (go_at_call 40; (with_reducible refine (sig_Name.calls k1 ((rd_T53 l0 x16_1).f0) t423 _ A12.out).mono ?_); rintro e w' ⟨rfl, ⟨nd, rfl⟩⟩))
                  go_meet
                  case rel => exact ⟨_, (!t423), (by first | rfl | (simp; done) | (simp [*]; done)), H', ⟨by have := HK1.out; first | omega | exact Nat.le_refl _⟩, ⟨(by repeat (first | (with_reducible first | exact HO_3.out | apply HasKeys.alloc | apply HasKeys.drewN | apply HasKeys.drew | refine HasKeys.set ?_ NG422.out _) | exact HO_3.out))⟩, ⟨by (with_reducible repeat (first | refine blk_drewN ?_ _ | refine blk_drew ?_ | refine blk_alloc ?_ _)); refine blk_put (cs := #[.string ((rd_T53 l0 x16_1).f0), .slice none 0 0]) ?_ 1 _ rfl; (with_reducible repeat (first | refine blk_drewN ?_ _ | refine blk_drew ?_ | refine blk_alloc ?_ _)); refine blk_put (cs := #[.string (⟨#[]⟩ : ByteArray), .slice none 0 0]) ?_ 0 _ rfl; (with_reducible repeat (first | refine blk_drewN ?_ _ | refine blk_drew ?_ | refine blk_alloc ?_ _)); exact BK422.out⟩, ⟨by repeat (first | (with_reducible first | exact HB.out | apply below_alloc | apply pw_below_drewN | apply below_drew1 | refine below_set ?_ GE422.out) | exact HB.out)⟩⟩
              case rest =>
                clear HC8
                try clear c1
                try clear c2
                try clear c2b0
                try clear c2b1
                try clear p2
                try clear c4
                try clear p4
                try clear q4
                try clear hx4
                try clear c5
                try clear c5b0
                try clear c6
                try clear c6b0
                try clear c7
                try clear c7b0
                try clear c11
                try clear c11b0
                try clear c11b1
                try clear hcz10_0
                try clear hcz10_1
                try clear hcz13_0
                try clear hcz13_1
                try clear hfz10_0
                try clear hfz10_1
                try clear hfz13_0
                try clear hfz13_1
                try clear hx421_0
                try clear hx421_1
                try clear p2
                try clear p421
                try clear q421
                obtain ⟨kq, x35_7, rfl, HA, HJ7, HO_3, BK422, HB⟩ := hcut
                cases kq with
                | zero => exact absurd HA.out (by simp [sig_Check.j1])
                | succ kj7 =>
                  have H := HA.out
                  clear HA
                  simp only [sig_Check.j1] at H
                  by_cases c14 : x35_7 = true
                  · subst c14
                    have H1 : (some 9) = some r := by rw [if_pos rfl] at H; exact H
                    clear H
                    have H := H1
                    clear H1
                    obtain rfl := Option.some.inj H
                    go_wp2
                    go_ret
                    exact ⟨by first | rfl | (simp [errW_none, errW_some] <;> rfl) | (simp [*, errW_none, errW_some] <;> rfl), by repeat (first | (with_reducible first | exact HB.out | apply below_alloc | apply pw_below_drewN | apply below_drew1 | refine below_set ?_ GE422.out) | exact HB.out)⟩
                  · replace c14 := Bool.eq_false_iff.mpr c14
                    subst c14
                    have H1 : (if x3_1.length < 8796093022208 then (if (((rd_T53 l0 x16_1).f1).length : Int) > 8 then (some 6) else (sig_Check.l1 kj7 (x3_1 ++ [((rd_T53 l0 x16_1).f0)]) l0 (l0.length : Int) x16_1 ((rd_T53 l0 x16_1).f1) (((rd_T53 l0 x16_1).f1).length : Int) 0)) else (none)) = some r := by rw [if_neg (show ¬ (false = true) by decide)] at H; exact H
                    clear H
                    have H := H1
                    clear H1
                    by_cases c15 : x3_1.length < 8796093022208
                    · rw [if_pos c15] at H
                      have LMc15 := Aside0.mk c15
                      clear c15
                      obtain ⟨y424, hy424⟩ : ∃ y_ : List ByteArray, y_ = (x3_1 ++ [((rd_T53 l0 x16_1).f0)]) := ⟨_, rfl⟩
                      replace H : (if (((rd_T53 l0 x16_1).f1).length : Int) > 8 then (some 6) else (sig_Check.l1 kj7 y424 l0 (l0.length : Int) x16_1 ((rd_T53 l0 x16_1).f1) (((rd_T53 l0 x16_1).f1).length : Int) 0)) = some r := by first | (rw [hy424]; with_reducible exact H) | (have H2_ := (Option.bind_some _ _).symm.trans H; rw [hy424]; with_reducible exact H2_) | (have H2_ := (Option.bind_some _ _).symm.trans H; with_reducible exact H2_) | with_reducible exact H | (rw [hy424]; exact H) | exact H
                      have Ny424 := Aside0.mk hy424
                      clear hy424
                      by_cases c16 : (((rd_T53 l0 x16_1).f1).length : Int) > 8
                      · rw [if_pos c16] at H
                        have c16b0 : decide (8 < (((rd_T53 l0 x16_1).f1).length : Int)) = true := decide_eq_true c16
                        have c16b1 : decide (8 < ((rd_T53 l0 x16_1).f1).length) = true := decide_eq_true (by omega)
                        clear c16
                        obtain rfl := Option.some.inj H
                        have hcz17_0 : wc.cell? ⟨gb422, 0, none⟩ = some (.string ((rd_T53 l0 x16_1).f0)) := (blk_cell BK422.out 0).trans rfl
                        have hcz17_1 : wc.cell? ⟨gb422, 1, none⟩ = some (.slice A421_1 ((rd_T53 l0 x16_1).f1).length c421_1) := (blk_cell BK422.out 1).trans rfl
                        have hfz17_0 := blk_frozen BK422.out 0
                        have hfz17_1 := blk_frozen BK422.out 1
                        go_wp2_with (first | (at_mapUpdate; refine put_event sig_Check.keyAs rfl _ _ _ 91 rfl Try.underlying91 Try.underlying3 (b := gm) (acc := x3_1) rfl ?how ?hn ((rd_T53 l0 x16_1).f0) CS.out rfl x16_1 rfl ?hc ?_; (case how => exact (by repeat (first | (with_reducible first | exact HO_3.out | apply HasKeys.alloc | apply HasKeys.drewN | apply HasKeys.drew | refine HasKeys.set ?_ NG422.out _) | exact HO_3.out))); (case hn => have := LMc15.out; omega); (case hc => have := PX.out; have := HL.out; omega); intro w18 ho hg; rw [← Ny424.out] at ho; have n0_ := Aside0.mk (blk_grown (g := gb422) (o := .cells #[.string ((rd_T53 l0 x16_1).f0), .slice A421_1 ((rd_T53 l0 x16_1).f1).length c421_1] 53 (0, 0)) (by (with_reducible repeat (first | refine blk_drewN ?_ _ | refine blk_drew ?_ | refine blk_alloc ?_ _)); exact BK422.out) hg (by have := NG422.out; simpa using Ne.symm this)); have n1_ := Aside0.mk (pw_below_grown (by repeat (first | (with_reducible first | exact HB.out | apply below_alloc | apply pw_below_drewN | apply below_drew1 | refine below_set ?_ GE422.out) | exact HB.out)) (some gm) (below_size (by repeat (first | (with_reducible first | exact HB.out | apply below_alloc | apply pw_below_drewN | apply below_drew1 | refine below_set ?_ GE422.out) | exact HB.out))) hg (fun k_ hk_ => by cases hk_; exact GM.out)); have n2_ := Aside0.mk (show sig_Check.M _ gm y424 from ho); clear BK422; clear HB; clear HO_3; have BK422 := n0_; have HB := n1_; have HO426 := n2_; clear n0_ n1_ n2_; clear ho hg; have hcz19_0 : w18.cell? ⟨gb422, 0, none⟩ = some (.string ((rd_T53 l0 x16_1).f0)) := (blk_cell BK422.out 0).trans rfl; have hcz19_1 : w18.cell? ⟨gb422, 1, none⟩ = some (.slice A421_1 ((rd_T53 l0 x16_1).f1).length c421_1) := (blk_cell BK422.out 1).trans rfl; have hfz19_0 := blk_frozen BK422.out 0; have hfz19_1 := blk_frozen BK422.out 1))
                        go_ret
                        exact ⟨by first | rfl | (simp [errW_none, errW_some] <;> rfl) | (simp [*, errW_none, errW_some] <;> rfl), by repeat (first | (with_reducible first | exact HB.out | apply below_alloc | apply pw_below_drewN | apply below_drew1 | refine below_set ?_ GE422.out) | exact HB.out)⟩
                      · rw [if_neg c16] at H
                        have c16b0 : decide (8 < (((rd_T53 l0 x16_1).f1).length : Int)) = false := decide_eq_false c16
                        have c16b1 : decide (8 < ((rd_T53 l0 x16_1).f1).length) = false := decide_eq_false (by omega)
                        clear c16
                        have H' := Aside0.mk H
                        clear H
                        have hcz20_0 : wc.cell? ⟨gb422, 0, none⟩ = some (.string ((rd_T53 l0 x16_1).f0)) := (blk_cell BK422.out 0).trans rfl
                        have hcz20_1 : wc.cell? ⟨gb422, 1, none⟩ = some (.slice A421_1 ((rd_T53 l0 x16_1).f1).length c421_1) := (blk_cell BK422.out 1).trans rfl
                        have hfz20_0 := blk_frozen BK422.out 0
                        have hfz20_1 := blk_frozen BK422.out 1
                        go_wp2_with (first | (at_mapUpdate; refine put_event sig_Check.keyAs rfl _ _ _ 91 rfl Try.underlying91 Try.underlying3 (b := gm) (acc := x3_1) rfl ?how ?hn ((rd_T53 l0 x16_1).f0) CS.out rfl x16_1 rfl ?hc ?_; (case how => exact (by repeat (first | (with_reducible first | exact HO_3.out | apply HasKeys.alloc | apply HasKeys.drewN | apply HasKeys.drew | refine HasKeys.set ?_ NG422.out _) | exact HO_3.out))); (case hn => have := LMc15.out; omega); (case hc => have := PX.out; have := HL.out; omega); intro w21 ho hg; rw [← Ny424.out] at ho; have n0_ := Aside0.mk (blk_grown (g := gb422) (o := .cells #[.string ((rd_T53 l0 x16_1).f0), .slice A421_1 ((rd_T53 l0 x16_1).f1).length c421_1] 53 (0, 0)) (by (with_reducible repeat (first | refine blk_drewN ?_ _ | refine blk_drew ?_ | refine blk_alloc ?_ _)); exact BK422.out) hg (by have := NG422.out; simpa using Ne.symm this)); have n1_ := Aside0.mk (pw_below_grown (by repeat (first | (with_reducible first | exact HB.out | apply below_alloc | apply pw_below_drewN | apply below_drew1 | refine below_set ?_ GE422.out) | exact HB.out)) (some gm) (below_size (by repeat (first | (with_reducible first | exact HB.out | apply below_alloc | apply pw_below_drewN | apply below_drew1 | refine below_set ?_ GE422.out) | exact HB.out))) hg (fun k_ hk_ => by cases hk_; exact GM.out)); have n2_ := Aside0.mk (show sig_Check.M _ gm y424 from ho); clear BK422; clear HB; clear HO_3; have BK422 := n0_; have HB := n1_; have HO426 := n2_; clear n0_ n1_ n2_; clear ho hg; have hcz22_0 : w21.cell? ⟨gb422, 0, none⟩ = some (.string ((rd_T53 l0 x16_1).f0)) := (blk_cell BK422.out 0).trans rfl; have hcz22_1 : w21.cell? ⟨gb422, 1, none⟩ = some (.slice A421_1 ((rd_T53 l0 x16_1).f1).length c421_1) := (blk_cell BK422.out 1).trans rfl; have hfz22_0 := blk_frozen BK422.out 0; have hfz22_1 := blk_frozen BK422.out 1))
                        go_loopg [48] kj7 (fun kq v48 w' => ∃ (x48_3 : Int), v48 = .int .i64 x48_3 ∧ Aside0 (sig_Check.l1 kq y424 l0 (l0.length : Int) x16_1 ((rd_T53 l0 x16_1).f1) (((rd_T53 l0 x16_1).f1).length : Int) x48_3 = some r) ∧ Aside0 (kq ≤ kj7) ∧ Aside0 (sig_Check.M w' gm y424) ∧ Aside0 (w'.heap[gb422]? = some (.cells #[.string ((rd_T53 l0 x16_1).f0), (.slice A421_1 ((rd_T53 l0 x16_1).f1).length c421_1)] 53 (0, 0))) ∧ Aside0 (Below w.heap.size w w'))
                        case atStart => exact ⟨(0), (by first | rfl | (simp; done) | (simp [*]; done)), H', ⟨Nat.le_refl _⟩, ⟨(by repeat (first | (with_reducible first | exact HO426.out | apply HasKeys.alloc | apply HasKeys.drewN | apply HasKeys.drew | refine HasKeys.set ?_ NG422.out _) | exact HO426.out))⟩, ⟨by (with_reducible repeat (first | refine blk_drewN ?_ _ | refine blk_drew ?_ | refine blk_alloc ?_ _)); exact BK422.out⟩, ⟨by repeat (first | (with_reducible first | exact HB.out | apply below_alloc | apply pw_below_drewN | apply below_drew1 | refine below_set ?_ GE422.out) | exact HB.out)⟩⟩
                        case round =>
                          clear H'
                          try clear c1
                          try clear c2
                          try clear c2b0
                          try clear c2b1
                          try clear p2
                          try clear c4
                          try clear p4
                          try clear q4
                          try clear hx4
                          try clear c5
                          try clear c5b0
                          try clear c6
                          try clear c6b0
                          try clear c7
                          try clear c7b0
                          try clear c11
                          try clear c11b0
                          try clear c11b1
                          try clear c14
                          try clear c15
                          try clear c16
                          try clear c16b0
                          try clear c16b1
                          try clear hcz10_0
                          try clear hcz10_1
                          try clear hcz13_0
                          try clear hcz13_1
                          try clear hcz17_0
                          try clear hcz17_1
                          try clear hcz19_0
                          try clear hcz19_1
                          try clear hcz20_0
                          try clear hcz20_1
                          try clear hcz22_0
                          try clear hcz22_1
                          try clear hfz10_0
                          try clear hfz10_1
                          try clear hfz13_0
                          try clear hfz13_1
                          try clear hfz17_0
                          try clear hfz17_1
                          try clear hfz19_0
                          try clear hfz19_1
                          try clear hfz20_0
                          try clear hfz20_1
                          try clear hfz22_0
                          try clear hfz22_1
                          try clear hx421_0
                          try clear hx421_1
                          try clear p2
                          try clear p4
                          try clear p421
                          try clear q4
                          try clear q421
                          obtain ⟨x48_3, rfl, HA, HK3, HO_3, BK422, HB⟩ := hrel
                          cases gk with
                          | zero => exact absurd HA.out (by simp [sig_Check.l1])
                          | succ k3 =>
                            have H := HA.out
                            clear HA
                            simp only [sig_Check.l1] at H
                            by_cases c23 : x48_3 < (((rd_T53 l0 x16_1).f1).length : Int)
                            · rw [if_pos c23] at H
                              have c23b0 : decide (x48_3 < (((rd_T53 l0 x16_1).f1).length : Int)) = true := decide_eq_true c23
                              clear c23
                              by_cases c24 : 0 ≤ x48_3
                              · rw [if_pos c24] at H
                                have c24b0 : decide (0 ≤ x48_3) = true := decide_eq_true c24
                                clear c24
                                by_cases c25 : x48_3 < (((rd_T53 l0 x16_1).f1).length : Int)
                                · rw [if_pos c25] at H
                                  have c25b0 : decide (x48_3 < (((rd_T53 l0 x16_1).f1).length : Int)) = true := decide_eq_true c25
                                  clear c25
                                  by_cases c26 : (rd ((rd_T53 l0 x16_1).f1) x48_3) = 1
                                  · rw [if_pos c26] at H
                                    have c26b0 : ((rd ((rd_T53 l0 x16_1).f1) x48_3) == 1) = true := beq_iff_eq.mpr c26
                                    have c26b1 : ((rd ((rd_T53 l0 x16_1).f1) x48_3) != 1) = false := bne_eq_false_iff_eq.mpr c26
                                    clear c26
                                    have H' := Aside0.mk H
                                    clear H
                                    have p427 : 0 ≤ (x48_3 : Int) := of_decide_eq_true (by first | (with_reducible assumption) | assumption)
                                    have q427 : x48_3 < (((rd_T53 l0 x16_1).f1).length : Int) := of_decide_eq_true (by first | (with_reducible assumption) | assumption)
                                    obtain ⟨ad427, e427, hx427_0⟩ := Kd.at_int HR421_1.out x48_3 p427 q427
                                    cases e427
                                    replace hx427_0 := (HB.out.cell (World.block_lt_of_cell? w _ hx427_0)).trans hx427_0
                                    replace p427 := eq_true p427
                                    replace q427 := eq_true q427
                                    go_wp2
                                    go_roundg k3
                                    case measure => have := HK1.out; have := HJ7.out; have := HK3.out; omega
                                    case rel => exact ⟨(wrap64 (x48_3 + 1)), (by first | rfl | (simp; done) | (simp [*]; done)), H', ⟨by have := HK1.out; have := HJ7.out; have := HK3.out; omega⟩, ⟨(by repeat (first | (with_reducible first | exact HO_3.out | apply HasKeys.alloc | apply HasKeys.drewN | apply HasKeys.drew | refine HasKeys.set ?_ NG422.out _) | exact HO_3.out))⟩, ⟨by (with_reducible repeat (first | refine blk_drewN ?_ _ | refine blk_drew ?_ | refine blk_alloc ?_ _)); exact BK422.out⟩, ⟨by repeat (first | (with_reducible first | exact HB.out | apply below_alloc | apply pw_below_drewN | apply below_drew1 | refine below_set ?_ GE422.out) | exact HB.out)⟩⟩
                                  · rw [if_neg c26] at H
                                    have c26b0 : ((rd ((rd_T53 l0 x16_1).f1) x48_3) == 1) = false := beq_eq_false_iff_ne.mpr c26
                                    have c26b1 : ((rd ((rd_T53 l0 x16_1).f1) x48_3) != 1) = true := bne_iff_ne.mpr c26
                                    by_cases c27 : (rd ((rd_T53 l0 x16_1).f1) x48_3) = 2
                                    · rw [if_pos c27] at H
                                      have c27b0 : ((rd ((rd_T53 l0 x16_1).f1) x48_3) == 2) = true := beq_iff_eq.mpr c27
                                      have c27b1 : ((rd ((rd_T53 l0 x16_1).f1) x48_3) != 2) = false := bne_eq_false_iff_eq.mpr c27
                                      clear c27
                                      have H' := Aside0.mk H
                                      clear H
                                      have p427 : 0 ≤ (x48_3 : Int) := of_decide_eq_true (by first | (with_reducible assumption) | assumption)
                                      have q427 : x48_3 < (((rd_T53 l0 x16_1).f1).length : Int) := of_decide_eq_true (by first | (with_reducible assumption) | assumption)
                                      obtain ⟨ad427, e427, hx427_0⟩ := Kd.at_int HR421_1.out x48_3 p427 q427
                                      cases e427
                                      replace hx427_0 := (HB.out.cell (World.block_lt_of_cell? w _ hx427_0)).trans hx427_0
                                      replace p427 := eq_true p427
                                      replace q427 := eq_true q427
                                      go_wp2
                                      go_roundg k3
                                      case measure => have := HK1.out; have := HJ7.out; have := HK3.out; omega
                                      case rel => exact ⟨(wrap64 (x48_3 + 1)), (by first | rfl | (simp; done) | (simp [*]; done)), H', ⟨by have := HK1.out; have := HJ7.out; have := HK3.out; omega⟩, ⟨(by repeat (first | (with_reducible first | exact HO_3.out | apply HasKeys.alloc | apply HasKeys.drewN | apply HasKeys.drew | refine HasKeys.set ?_ NG422.out _) | exact HO_3.out))⟩, ⟨by (with_reducible repeat (first | refine blk_drewN ?_ _ | refine blk_drew ?_ | refine blk_alloc ?_ _)); exact BK422.out⟩, ⟨by repeat (first | (with_reducible first | exact HB.out | apply below_alloc | apply pw_below_drewN | apply below_drew1 | refine below_set ?_ GE422.out) | exact HB.out)⟩⟩
                                    · rw [if_neg c27] at H
                                      have c27b0 : ((rd ((rd_T53 l0 x16_1).f1) x48_3) == 2) = false := beq_eq_false_iff_ne.mpr c27
                                      have c27b1 : ((rd ((rd_T53 l0 x16_1).f1) x48_3) != 2) = true := bne_iff_ne.mpr c27
                                      obtain rfl := Option.some.inj H
                                      have p427 : 0 ≤ (x48_3 : Int) := of_decide_eq_true (by first | (with_reducible assumption) | assumption)
                                      have q427 : x48_3 < (((rd_T53 l0 x16_1).f1).length : Int) := of_decide_eq_true (by first | (with_reducible assumption) | assumption)
                                      obtain ⟨ad427, e427, hx427_0⟩ := Kd.at_int HR421_1.out x48_3 p427 q427
                                      cases e427
                                      replace hx427_0 := (HB.out.cell (World.block_lt_of_cell? w _ hx427_0)).trans hx427_0
                                      replace p427 := eq_true p427
                                      replace q427 := eq_true q427
                                      go_wp2
                                      go_ret
                                      exact ⟨by first | rfl | (simp [errW_none, errW_some] <;> rfl) | (simp [*, errW_none, errW_some] <;> rfl), by repeat (first | (with_reducible first | exact HB.out | apply below_alloc | apply pw_below_drewN | apply below_drew1 | refine below_set ?_ GE422.out) | exact HB.out)⟩
                                · rw [if_neg c25] at H
                                  exact absurd H (by simp)
                              · rw [if_neg c24] at H
                                exact absurd H (by simp)
                            · rw [if_neg c23] at H
                              have c23b0 : decide (x48_3 < (((rd_T53 l0 x16_1).f1).length : Int)) = false := decide_eq_false c23
                              clear c23
                              have H' := Aside0.mk H
                              clear H
                              go_wp2
                              go_roundg k3
                              case measure => have := HK1.out; have := HJ7.out; have := HK3.out; omega
                              case rel => exact ⟨(y424), (wrap64 (x16_1 + 1)), (by first | rfl | (simp; done) | (simp [*]; done)), H', ⟨by have := HK1.out; have := HJ7.out; have := HK3.out; omega⟩, ⟨(by repeat (first | (with_reducible first | exact HO_3.out | apply HasKeys.alloc | apply HasKeys.drewN | apply HasKeys.drew | refine HasKeys.set ?_ NG422.out _) | exact HO_3.out))⟩, ⟨by repeat (first | (with_reducible first | exact HB.out | apply below_alloc | apply pw_below_drewN | apply below_drew1 | refine below_set ?_ GE422.out) | exact HB.out)⟩⟩
                    · rw [if_neg c15] at H
                      exact absurd H (by simp)
            · rw [if_neg c7] at H
              exact absurd H (by simp)
          · rw [if_neg c6] at H
            exact absurd H (by simp)
        · rw [if_neg c5] at H
          have c5b0 : decide (x16_1 < (l0.length : Int)) = false := decide_eq_false c5
          clear c5
          obtain rfl := Option.some.inj H
          go_wp2
          go_ret
          exact ⟨by first | rfl | (simp [errW_none, errW_some] <;> rfl) | (simp [*, errW_none, errW_some] <;> rfl), by repeat (first | (with_reducible first | exact HB.out | apply below_alloc | apply pw_below_drewN | apply below_drew1) | exact HB.out)⟩
end

/-! ### trace_arg: function 72 -/
mutual
def trace_arg.j0 : Nat → Int → Bool → Int → Int → ByteArray → Option (Int)
 | 0, _, _, _, _, _ => none
 | k + 1, x0, x10, x111000, x111001, x111002 => if x10 = true then (trace_arg.j1 k x10 x111000 x111001 x111002) else (if x0 = 2 then (trace_arg.j1 k (x111001 != 0) x111000 x111001 x111002) else (trace_arg.j1 k false x111000 x111001 x111002))
def trace_arg.j1 : Nat → Bool → Int → Int → ByteArray → Option (Int)
 | 0, _, _, _, _ => none
 | k + 1, x10, x111000, x111001, x111002 => if x10 = true then (some 1) else (if (x111002.size : Int) > 200 then (some 6) else (some 0))
end
def trace_arg.f (k : Nat) (a0 : Int) (a1_0 : Int) (a1_1 : Int) (a1_2 : ByteArray) : Option (Int) := if a1_0 = a0 then (if a0 = 1 then (trace_arg.j0 k a0 (a1_2.toList != ([] : List UInt8)) a1_0 a1_1 a1_2) else (trace_arg.j0 k a0 false a1_0 a1_1 a1_2)) else (some 7)
theorem trace_arg.mono_l : ∀ k, (∀ y0 y1 y2 y3 y4, LeO (trace_arg.j0 k y0 y1 y2 y3 y4) (trace_arg.j0 (k + 1) y0 y1 y2 y3 y4)) ∧ (∀ y0 y1 y2 y3, LeO (trace_arg.j1 k y0 y1 y2 y3) (trace_arg.j1 (k + 1) y0 y1 y2 y3))
 | 0 => ⟨fun _ _ _ _ _ r h => by simp [trace_arg.j0] at h, fun _ _ _ _ r h => by simp [trace_arg.j1] at h⟩
 | k + 1 => by
  obtain ⟨ih0, ih1⟩ := trace_arg.mono_l k
  refine ⟨?_, ?_⟩
  ·intro y0 y1 y2 y3 y4
   unfold trace_arg.j0
   repeat' first
   | (with_reducible exact ih0 _ _ _ _ _)
   | (with_reducible exact ih1 _ _ _ _)
   | (with_reducible exact LeO.refl _)
   | (with_reducible exact LeO.none _)
   | (with_reducible refine LeO.ite ?_ ?_)
   | (with_reducible refine LeO.bind ?_ (fun _ => ?_))
   | exact ih0 _ _ _ _ _
   | exact ih1 _ _ _ _
   | exact LeO.none _
   | refine LeO.ite ?_ ?_
   | refine LeO.bind ?_ (fun _ => ?_)
  ·intro y0 y1 y2 y3
   unfold trace_arg.j1
   repeat' first
   | (with_reducible exact ih0 _ _ _ _ _)
   | (with_reducible exact ih1 _ _ _ _)
   | (with_reducible exact LeO.refl _)
   | (with_reducible exact LeO.none _)
   | (with_reducible refine LeO.ite ?_ ?_)
   | (with_reducible refine LeO.bind ?_ (fun _ => ?_))
   | exact ih0 _ _ _ _ _
   | exact ih1 _ _ _ _
   | exact LeO.none _
   | refine LeO.ite ?_ ?_
   | refine LeO.bind ?_ (fun _ => ?_)
theorem trace_arg.mono : ∀ a0 a1 a2 a3 k, LeO (trace_arg.f k a0 a1 a2 a3) (trace_arg.f (k + 1) a0 a1 a2 a3) := by
 intro a0 a1 a2 a3 k
 obtain ⟨ih0, ih1⟩ := trace_arg.mono_l k
 unfold trace_arg.f
 repeat' first
   | (with_reducible exact ih0 _ _ _ _ _)
   | (with_reducible exact ih1 _ _ _ _)
   | (with_reducible exact LeO.refl _)
   | (with_reducible exact LeO.none _)
   | (with_reducible refine LeO.ite ?_ ?_)
   | (with_reducible refine LeO.bind ?_ (fun _ => ?_))
   | exact ih0 _ _ _ _ _
   | exact ih1 _ _ _ _
   | exact LeO.none _
   | refine LeO.ite ?_ ?_
   | refine LeO.bind ?_ (fun _ => ?_)
set_option maxHeartbeats 8000000 in
set_option maxRecDepth 100000 in
theorem trace_arg.calls (k : Nat) (a0 : Int) (a1_0 : Int) (a1_1 : Int) (a1_2 : ByteArray) (r : Int) (w : World) (h : trace_arg.f k a0 a1_0 a1_1 a1_2 = some r) :
  Calls Try.prog 72 #[.int .i64 a0,.agg #[.int .i64 a1_0,.int .i64 a1_1,.string a1_2]] w fun e w' => e = .returned (.int .i64 r) ∧ Below w.heap.size w w':=by
 have hu61:=Try.underlying61
 have HB:=Aside0.mk (Below.refl w.heap.size w)
 have H : (if a1_0 = a0 then (if a0 = 1 then (trace_arg.j0 k a0 (a1_2.toList != ([] : List UInt8)) a1_0 a1_1 a1_2) else (trace_arg.j0 k a0 false a1_0 a1_1 a1_2)) else (some 7)) = some r:=h
 clear h
 by_cases c3 : a1_0 = a0
 ·rw [if_pos c3] at H
  have c3b0 : (a1_0 == a0) = true:=beq_iff_eq.mpr c3
  have c3b1 : (a1_0 != a0) = false:=bne_eq_false_iff_eq.mpr c3
  clear c3
  have HC4:=Aside0.mk H
  clear H
  go_enter Try.func72,Try.ntmps72
  go_upto_region 3 with (first | ((with_reducible refine gate_dst (N:=3) rfl ?_);refine box_event ?hg (N:=3) ?hd (cs:=#[.int .i64 a1_0,.int .i64 a1_1,.string a1_2]) (t:=61) ?hr ?_;(case hd => rfl);(case hg => rfl);(case hr => first | (go_simp;done) | (go_simp;rfl));intro gb110 hg w5 hbox hb;have n0_:=Aside0.mk (below_step (by repeat (first | (with_reducible first | exact HB.out | apply below_alloc | apply pw_below_drewN | apply below_drew1) | exact HB.out)) hb);have n1_:=Aside0.mk (hbox);have n2_:=Aside0.mk ((by rw [hg];exact (below_size (by repeat (first | (with_reducible first | exact HB.out | apply below_alloc | apply pw_below_drewN | apply below_drew1) | exact HB.out))) : w.heap.size ≤ gb110));have n3_:=Aside0.mk ((by rw [hg];exact (below_size (by repeat (first | (with_reducible first | exact HB.out | apply below_alloc | apply pw_below_drewN | apply below_drew1) | exact HB.out))) : w.heap.size ≤ gb110));clear HB;have HB:=n0_;have BK110:=n1_;have GW110:=n2_;have GE110:=n3_;clear n0_ n1_ n2_ n3_;clear hb hbox hg;have hcz6_0 : w5.cell? ⟨gb110,0,none⟩ = some (.int .i64 a1_0):=(blk_cell BK110.out 0).trans rfl;have hcz6_1 : w5.cell? ⟨gb110,1,none⟩ = some (.int .i64 a1_1):=(blk_cell BK110.out 1).trans rfl;have hcz6_2 : w5.cell? ⟨gb110,2,none⟩ = some (.string a1_2):=(blk_cell BK110.out 2).trans rfl;have hfz6_0:=blk_frozen BK110.out 0;have hfz6_1:=blk_frozen BK110.out 1;have hfz6_2:=blk_frozen BK110.out 2))
  (try simp only [Act.put,List.setIfInBounds_toArray,List.set_cons_zero,List.set_cons_succ])
  go_cut [10] (fun v10 wc => ∃ (kq : Nat) (x10_3 : Bool),v10 = .bool x10_3 ∧ Aside0 (trace_arg.j0 kq a0 x10_3 a1_0 a1_1 a1_2 = some r) ∧ Aside0 (kq ≤ k) ∧ Aside0 (wc.heap[gb110]? = some (.cells #[.int .i64 a1_0,.int .i64 a1_1,.string a1_2] 61 (0,0))) ∧ Aside0 (Below w.heap.size w wc))
  case first =>
   have H:=HC4.out
   clear HC4
   by_cases c7 : a0 = 1
   ·rw [if_pos c7] at H
    have c7b0 : (a0 == 1) = true:=beq_iff_eq.mpr c7
    have c7b1 : (a0 != 1) = false:=bne_eq_false_iff_eq.mpr c7
    clear c7
    (first | rw [c7b0] | (simp only [i64_w,i32_w];rw [c7b0]) | skip)
    have H':=Aside0.mk H
    clear H
    have hcz8_0 : w5.cell? ⟨gb110,0,none⟩ = some (.int .i64 a1_0):=(blk_cell BK110.out 0).trans rfl
    have hcz8_1 : w5.cell? ⟨gb110,1,none⟩ = some (.int .i64 a1_1):=(blk_cell BK110.out 1).trans rfl
    have hcz8_2 : w5.cell? ⟨gb110,2,none⟩ = some (.string a1_2):=(blk_cell BK110.out 2).trans rfl
    have hfz8_0:=blk_frozen BK110.out 0
    have hfz8_1:=blk_frozen BK110.out 1
    have hfz8_2:=blk_frozen BK110.out 2
    go_wp2
    go_meet
    case rel => exact ⟨_,((a1_2.toList != ([] : List UInt8))),(by first | rfl | (simp;done) | (simp [*];done) | exact congrArg Value.bool (Go.Proofs.YtmmfakdncjeoeaaAid.ne_empty _) | exact congrArg Value.bool (Go.Proofs.YtmmfakdncjeoeaaAid.eq_empty _)),H',⟨by first | omega | exact Nat.le_refl _⟩,⟨by (with_reducible repeat (first | refine blk_drewN ?_ _ | refine blk_drew ?_ | refine blk_alloc ?_ _));exact BK110.out⟩,⟨by repeat (first | (with_reducible first | exact HB.out | apply below_alloc | apply pw_below_drewN | apply below_drew1 | refine below_set ?_ GE110.out) | exact HB.out)⟩⟩
   ·rw [if_neg c7] at H
    have c7b0 : (a0 == 1) = false:=beq_eq_false_iff_ne.mpr c7
    have c7b1 : (a0 != 1) = true:=bne_iff_ne.mpr c7
    (first | rw [c7b0] | (simp only [i64_w,i32_w];rw [c7b0]) | skip)
    have H':=Aside0.mk H
    clear H
    go_wp2
    go_meet
    case rel => exact ⟨_,(false),(by first | rfl | (simp;done) | (simp [*];done)),H',⟨by first | omega | exact Nat.le_refl _⟩,⟨by (with_reducible repeat (first | refine blk_drewN ?_ _ | refine blk_drew ?_ | refine blk_alloc ?_ _));exact BK110.out⟩,⟨by repeat (first | (with_reducible first | exact HB.out | apply below_alloc | apply pw_below_drewN | apply below_drew1 | refine below_set ?_ GE110.out) | exact HB.out)⟩⟩
  case rest =>
   clear HC4
   try clear p2
   try clear c3
   try clear c3b0
   try clear c3b1
   try clear c7
   try clear c7b0
   try clear c7b1
   try clear hcz6_0
   try clear hcz6_1
   try clear hcz6_2
   try clear hcz8_0
   try clear hcz8_1
   try clear hcz8_2
   try clear hfz6_0
   try clear hfz6_1
   try clear hfz6_2
   try clear hfz8_0
   try clear hfz8_1
   try clear hfz8_2
   obtain ⟨kq,x10_3,rfl,HA,HJ3,BK110,HB⟩:=hcut
   cases kq with
   | zero => exact absurd HA.out (by simp [trace_arg.j0])
   | succ kj3 =>
    have H:=HA.out
    clear HA
    simp only [trace_arg.j0] at H
    have HC9:=Aside0.mk H
    clear H
    go_upto_if 10 with (fail)
    go_cut [10] (fun v10 wc => ∃ (kq : Nat) (x10_8 : Bool),v10 = .bool x10_8 ∧ Aside0 (trace_arg.j1 kq x10_8 a1_0 a1_1 a1_2 = some r) ∧ Aside0 (kq ≤ kj3) ∧ Aside0 (wc.heap[gb110]? = some (.cells #[.int .i64 a1_0,.int .i64 a1_1,.string a1_2] 61 (0,0))) ∧ Aside0 (Below w.heap.size w wc))
    case first =>
     have H:=HC9.out
     clear HC9
     by_cases c10 : x10_3 = true
     ·subst c10
      have H1 : (trace_arg.j1 kj3 true a1_0 a1_1 a1_2) = some r:=by rw [if_pos rfl] at H;exact H
      clear H
      have H:=H1
      clear H1
      have H':=Aside0.mk H
      clear H
      go_wp2
      go_meet
      case rel => exact ⟨_,(true),(by first | rfl | (simp;done) | (simp [*];done)),H',⟨by have:=HJ3.out;first | omega | exact Nat.le_refl _⟩,⟨by (with_reducible repeat (first | refine blk_drewN ?_ _ | refine blk_drew ?_ | refine blk_alloc ?_ _));exact BK110.out⟩,⟨by repeat (first | (with_reducible first | exact HB.out | apply below_alloc | apply pw_below_drewN | apply below_drew1 | refine below_set ?_ GE110.out) | exact HB.out)⟩⟩
     ·replace c10:=Bool.eq_false_iff.mpr c10
      subst c10
      have H1 : (if a0 = 2 then (trace_arg.j1 kj3 (a1_1 != 0) a1_0 a1_1 a1_2) else (trace_arg.j1 kj3 false a1_0 a1_1 a1_2)) = some r:=by rw [if_neg (show ¬ (false = true) by decide)] at H;exact H
      clear H
      have H:=H1
      clear H1
      by_cases c11 : a0 = 2
      ·rw [if_pos c11] at H
       have c11b0 : (a0 == 2) = true:=beq_iff_eq.mpr c11
       have c11b1 : (a0 != 2) = false:=bne_eq_false_iff_eq.mpr c11
       clear c11
       (first | rw [c11b0] | (simp only [i64_w,i32_w];rw [c11b0]) | skip)
       have H':=Aside0.mk H
       clear H
       have hcz12_0 : wc.cell? ⟨gb110,0,none⟩ = some (.int .i64 a1_0):=(blk_cell BK110.out 0).trans rfl
       have hcz12_1 : wc.cell? ⟨gb110,1,none⟩ = some (.int .i64 a1_1):=(blk_cell BK110.out 1).trans rfl
       have hcz12_2 : wc.cell? ⟨gb110,2,none⟩ = some (.string a1_2):=(blk_cell BK110.out 2).trans rfl
       have hfz12_0:=blk_frozen BK110.out 0
       have hfz12_1:=blk_frozen BK110.out 1
       have hfz12_2:=blk_frozen BK110.out 2
       go_wp2
       go_meet
       case rel => exact ⟨_,((a1_1 != 0)),(by first | rfl | (simp;done) | (simp [*];done)),H',⟨by have:=HJ3.out;first | omega | exact Nat.le_refl _⟩,⟨by (with_reducible repeat (first | refine blk_drewN ?_ _ | refine blk_drew ?_ | refine blk_alloc ?_ _));exact BK110.out⟩,⟨by repeat (first | (with_reducible first | exact HB.out | apply below_alloc | apply pw_below_drewN | apply below_drew1 | refine below_set ?_ GE110.out) | exact HB.out)⟩⟩
      ·rw [if_neg c11] at H
       have c11b0 : (a0 == 2) = false:=beq_eq_false_iff_ne.mpr c11
       have c11b1 : (a0 != 2) = true:=bne_iff_ne.mpr c11
       (first | rw [c11b0] | (simp only [i64_w,i32_w];rw [c11b0]) | skip)
       have H':=Aside0.mk H
       clear H
       go_wp2
       go_meet
       case rel => exact ⟨_,(false),(by first | rfl | (simp;done) | (simp [*];done)),H',⟨by have:=HJ3.out;first | omega | exact Nat.le_refl _⟩,⟨by (with_reducible repeat (first | refine blk_drewN ?_ _ | refine blk_drew ?_ | refine blk_alloc ?_ _));exact BK110.out⟩,⟨by repeat (first | (with_reducible first | exact HB.out | apply below_alloc | apply pw_below_drewN | apply below_drew1 | refine below_set ?_ GE110.out) | exact HB.out)⟩⟩
    case rest =>
     clear HC9
     try clear c1
     try clear p2
     try clear c3
     try clear c3b0
     try clear c3b1
     try clear c7
     try clear c7b0
     try clear c7b1
     try clear c10
     try clear c11
     try clear c11b0
     try clear c11b1
     try clear hcz12_0
     try clear hcz12_1
     try clear hcz12_2
     try clear hcz6_0
     try clear hcz6_1
     try clear hcz6_2
     try clear hcz8_0
     try clear hcz8_1
     try clear hcz8_2
     try clear hfz12_0
     try clear hfz12_1
     try clear hfz12_2
     try clear hfz6_0
     try clear hfz6_1
     try clear hfz6_2
     try clear hfz8_0
     try clear hfz8_1
     try clear hfz8_2
     try clear p2
     obtain ⟨kq,x10_8,rfl,HA,HJ8,BK110,HB⟩:=hcut
     cases kq with
     | zero => exact absurd HA.out (by simp [trace_arg.j1])
     | succ kj8 =>
      have H:=HA.out
      clear HA
      simp only [trace_arg.j1] at H
      by_cases c13 : x10_8 = true
      ·subst c13
       have H1 : (some 1) = some r:=by rw [if_pos rfl] at H;exact H
       clear H
       have H:=H1
       clear H1
       obtain rfl:=Option.some.inj H
       go_wp2
       go_ret
       exact ⟨by first | rfl | (simp [errW_none,errW_some] <;> rfl) | (simp [*,errW_none,errW_some] <;> rfl),by repeat (first | (with_reducible first | exact HB.out | apply below_alloc | apply pw_below_drewN | apply below_drew1 | refine below_set ?_ GE110.out) | exact HB.out)⟩
      ·replace c13:=Bool.eq_false_iff.mpr c13
       subst c13
       have H1 : (if (a1_2.size : Int) > 200 then (some 6) else (some 0)) = some r:=by rw [if_neg (show ¬ (false = true) by decide)] at H;exact H
       clear H
       have H:=H1
       clear H1
       by_cases c14 : (a1_2.size : Int) > 200
       ·rw [if_pos c14] at H
        have c14b0 : decide (200 < (a1_2.size : Int)) = true:=decide_eq_true c14
        have c14b1 : decide (200 < a1_2.size) = true:=decide_eq_true (by omega)
        clear c14
        obtain rfl:=Option.some.inj H
        have hcz15_0 : wc.cell? ⟨gb110,0,none⟩ = some (.int .i64 a1_0):=(blk_cell BK110.out 0).trans rfl
        have hcz15_1 : wc.cell? ⟨gb110,1,none⟩ = some (.int .i64 a1_1):=(blk_cell BK110.out 1).trans rfl
        have hcz15_2 : wc.cell? ⟨gb110,2,none⟩ = some (.string a1_2):=(blk_cell BK110.out 2).trans rfl
        have hfz15_0:=blk_frozen BK110.out 0
        have hfz15_1:=blk_frozen BK110.out 1
        have hfz15_2:=blk_frozen BK110.out 2
        go_wp2
        go_ret
        exact ⟨by first | rfl | (simp [errW_none,errW_some] <;> rfl) | (simp [*,errW_none,errW_some] <;> rfl),by repeat (first | (with_reducible first | exact HB.out | apply below_alloc | apply pw_below_drewN | apply below_drew1 | refine below_set ?_ GE110.out) | exact HB.out)⟩
       ·rw [if_neg c14] at H
        have c14b0 : decide (200 < (a1_2.size : Int)) = false:=decide_eq_false c14
        have c14b1 : decide (200 < a1_2.size) = false:=decide_eq_false (by omega)
        clear c14
        obtain rfl:=Option.some.inj H
        have hcz16_0 : wc.cell? ⟨gb110,0,none⟩ = some (.int .i64 a1_0):=(blk_cell BK110.out 0).trans rfl
        have hcz16_1 : wc.cell? ⟨gb110,1,none⟩ = some (.int .i64 a1_1):=(blk_cell BK110.out 1).trans rfl
        have hcz16_2 : wc.cell? ⟨gb110,2,none⟩ = some (.string a1_2):=(blk_cell BK110.out 2).trans rfl
        have hfz16_0:=blk_frozen BK110.out 0
        have hfz16_1:=blk_frozen BK110.out 1
        have hfz16_2:=blk_frozen BK110.out 2
        go_wp2
        go_ret
        exact ⟨by first | rfl | (simp [errW_none,errW_some] <;> rfl) | (simp [*,errW_none,errW_some] <;> rfl),by repeat (first | (with_reducible first | exact HB.out | apply below_alloc | apply pw_below_drewN | apply below_drew1 | refine below_set ?_ GE110.out) | exact HB.out)⟩
 ·rw [if_neg c3] at H
  have c3b0 : (a1_0 == a0) = false:=beq_eq_false_iff_ne.mpr c3
  have c3b1 : (a1_0 != a0) = true:=bne_iff_ne.mpr c3
  obtain rfl:=Option.some.inj H
  go_enter Try.func72,Try.ntmps72
  go_wp2_with (first | ((with_reducible refine gate_dst (N:=3) rfl ?_);refine box_event ?hg (N:=3) ?hd (cs:=#[.int .i64 a1_0,.int .i64 a1_1,.string a1_2]) (t:=61) ?hr ?_;(case hd => rfl);(case hg => rfl);(case hr => first | (go_simp;done) | (go_simp;rfl));intro gb110 hg w17 hbox hb;have n0_:=Aside0.mk (below_step (by repeat (first | (with_reducible first | exact HB.out | apply below_alloc | apply pw_below_drewN | apply below_drew1) | exact HB.out)) hb);have n1_:=Aside0.mk (hbox);have n2_:=Aside0.mk ((by rw [hg];exact (below_size (by repeat (first | (with_reducible first | exact HB.out | apply below_alloc | apply pw_below_drewN | apply below_drew1) | exact HB.out))) : w.heap.size ≤ gb110));have n3_:=Aside0.mk ((by rw [hg];exact (below_size (by repeat (first | (with_reducible first | exact HB.out | apply below_alloc | apply pw_below_drewN | apply below_drew1) | exact HB.out))) : w.heap.size ≤ gb110));clear HB;have HB:=n0_;have BK110:=n1_;have GW110:=n2_;have GE110:=n3_;clear n0_ n1_ n2_ n3_;clear hb hbox hg;have hcz18_0 : w17.cell? ⟨gb110,0,none⟩ = some (.int .i64 a1_0):=(blk_cell BK110.out 0).trans rfl;have hcz18_1 : w17.cell? ⟨gb110,1,none⟩ = some (.int .i64 a1_1):=(blk_cell BK110.out 1).trans rfl;have hcz18_2 : w17.cell? ⟨gb110,2,none⟩ = some (.string a1_2):=(blk_cell BK110.out 2).trans rfl;have hfz18_0:=blk_frozen BK110.out 0;have hfz18_1:=blk_frozen BK110.out 1;have hfz18_2:=blk_frozen BK110.out 2))
  go_ret
  exact ⟨by first | rfl | (simp [errW_none,errW_some] <;> rfl) | (simp [*,errW_none,errW_some] <;> rfl),by repeat (first | (with_reducible first | exact HB.out | apply below_alloc | apply pw_below_drewN | apply below_drew1 | refine below_set ?_ GE110.out) | exact HB.out)⟩

end Go.Proofs.Ytmmfakdncjeoeaa.PC
