-- Contracts of Go functions, each with its plain Lean function: written by wip/tools/myprint.py of this work (the kit's print, with contracts proved by hand spliced in).
import Derived.Test.YtjfklfmfeghjnaaPSx0
import Derived.Test.YtjfklfmfeghjnaaPSx1
import Derived.Test.YtjfklfmfeghjnaaPSx2
namespace Go.Proofs.Ytjfklfmfeghjnaa.PS
open Go.RowKit Go.Proofs.YtjfklfmfeghjnaaW.PrintWords Go.Proofs.YtjfklfmfeghjnaaW.PrintLast Go.Proofs.YtjfklfmfeghjnaaW.PrintMore
attribute [local go_sem] max2_int min2_int max_two min_two max_three min_three max_four min_four   -- for this text's walks alone
set_option linter.unusedVariables false
set_option linter.unusedSimpArgs false

attribute [local go_sem high] eqA110
/-! ### sig_Check: function 54 -/
section
open Go.Proofs.YtjfklfmfeghjnaaAid Go.Maps
theorem sig_Check.keyOf (s : ByteArray) (hs : s.size ≤ 9223372036854775807) : Go.keyOf Try.prog 110 (.agg #[.string s]) = some (.string (keyBytes [.string s.data.toList])) := by
  have h1 : Try.prog.keyType 110 = true := by kernel_rfl
  have h2 : Try.prog.cellsOf 110 = 1 := by kernel_rfl
  have h3 : Try.prog.cellsOf 9 = 1 := by kernel_rfl
  have h4 : (Value.agg #[.string s]).formed Try.prog 110 = true := by simp [Value.formed, Try.underlying110, h2]
  have h6 : Try.prog.types.size + 1 = (Try.prog.types.size - 1) + 1 + 1 := by
    have : 0 < Try.prog.types.size := of_decide_eq_true (by kernel_rfl)
    omega
  have h5 : Try.prog.keyLits (Try.prog.types.size + 1) 110 [.string s] = some [.string s.data.toList] := by
    rw [h6]
    generalize Try.prog.types.size - 1 = m
    unfold Program.keyLits
    rw [Try.underlying110]
    simp only [h2, List.length_cons, List.length_nil]
    unfold Program.keyLits
    simp [Try.underlying9, h3, maxLen, hs]
  unfold Go.keyOf
  rw [Try.underlying110]
  simp only [h1, h4, Bool.and_self, if_true]
  show (Try.prog.keyLits (Try.prog.types.size + 1) 110 [.string s]).map _ = _
  rw [h5]
  rfl
def sig_Check.ok (s : ByteArray) : Prop := s.size ≤ 9223372036854775807
def sig_Check.kl (s : ByteArray) : Lit := .string (keyBytes [.string s.data.toList])
theorem sig_Check.keyAs : KeyAs Try.prog 110 sig_Check.ok (fun s => .agg #[.string s]) sig_Check.kl where
  K := Keyed.of_law (deep_law_gate (by kernel_rfl) (of_decide_eq_true (by kernel_rfl)) (of_decide_eq_true (by kernel_rfl)) (by kernel_rfl) (by kernel_rfl))
  key := sig_Check.keyOf
  inj := fun x y h => by
    injection h with h
    injection h with h
    injection h with h
    injection h
abbrev sig_Check.M (w : World) (b : Nat) (acc : List ByteArray) : Prop := HasKeys Try.prog 110 3 sig_Check.ok sig_Check.kl w b acc
mutual
def sig_Check.l0 : Nat → List ByteArray → List (S92) → Int → Int → Option (Int)
  | 0, _, _, _, _ => none
  | k + 1, x3, x14, x15, x16 => if x16 < x15 then (if 0 ≤ x16 then (if x16 < (x14.length : Int) then (if ((rd_T92 x14 x16).f0).size ≤ 9223372036854775807 then (if ((rd_T92 x14 x16).f0) ∈ x3 then (sig_Check.j1 k x3 x14 x15 x16 true ((rd_T92 x14 x16).f0) ((rd_T92 x14 x16).f1)) else ((sig_Name.f k ((rd_T92 x14 x16).f0)).bind fun t423 => (sig_Check.j1 k x3 x14 x15 x16 (!t423) ((rd_T92 x14 x16).f0) ((rd_T92 x14 x16).f1)))) else (none)) else (none)) else (none)) else (some 0)
def sig_Check.j1 : Nat → List ByteArray → List (S92) → Int → Int → Bool → ByteArray → List Int → Option (Int)
  | 0, _, _, _, _, _, _, _ => none
  | k + 1, x3, x14, x15, x16, x35, x423000, x423001 => if x35 = true then (some 9) else (if x3.length < 8796093022208 then (if (x423001.length : Int) > 8 then (some 6) else (sig_Check.l1 k (x3 ++ [x423000]) x14 x15 x16 x423001 (x423001.length : Int) 0)) else (none))
def sig_Check.l1 : Nat → List ByteArray → List (S92) → Int → Int → List Int → Int → Int → Option (Int)
  | 0, _, _, _, _, _, _, _ => none
  | k + 1, x3, x14, x15, x16, x46, x47, x48 => if x48 < x47 then (if 0 ≤ x48 then (if x48 < (x46.length : Int) then (if (rd x46 x48) = 1 then (sig_Check.l1 k x3 x14 x15 x16 x46 x47 (wrap64 (x48 + 1))) else (if (rd x46 x48) = 2 then (sig_Check.l1 k x3 x14 x15 x16 x46 x47 (wrap64 (x48 + 1))) else (some 7))) else (none)) else (none)) else (sig_Check.l0 k x3 x14 x15 (wrap64 (x16 + 1)))
end
def sig_Check.f (k : Nat) (l0 : List (S92)) : Option (Int) := if (l0.length : Int) > 64 then (some 6) else (sig_Check.l0 k (([] : List ByteArray)) l0 (l0.length : Int) 0)
theorem sig_Check.mono_l : ∀ k, (∀ y0 y1 y2 y3, LeO (sig_Check.l0 k y0 y1 y2 y3) (sig_Check.l0 (k + 1) y0 y1 y2 y3)) ∧ (∀ y0 y1 y2 y3 y4 y5 y6, LeO (sig_Check.j1 k y0 y1 y2 y3 y4 y5 y6) (sig_Check.j1 (k + 1) y0 y1 y2 y3 y4 y5 y6)) ∧ (∀ y0 y1 y2 y3 y4 y5 y6, LeO (sig_Check.l1 k y0 y1 y2 y3 y4 y5 y6) (sig_Check.l1 (k + 1) y0 y1 y2 y3 y4 y5 y6))
  | 0 => ⟨fun _ _ _ _ r h => by simp [sig_Check.l0] at h, fun _ _ _ _ _ _ _ r h => by simp [sig_Check.j1] at h, fun _ _ _ _ _ _ _ r h => by simp [sig_Check.l1] at h⟩
  | k + 1 => by
    obtain ⟨ih0, ih1, ih2⟩ := sig_Check.mono_l k
    refine ⟨?_, ?_, ?_⟩
    · intro y0 y1 y2 y3
      unfold sig_Check.l0
      repeat' first
      | (with_reducible exact ih0 _ _ _ _)
      | (with_reducible exact ih1 _ _ _ _ _ _ _)
      | (with_reducible exact ih2 _ _ _ _ _ _ _)
      | (with_reducible exact sig_Name.mono _ _)
      | (with_reducible exact LeO.refl _)
      | (with_reducible exact LeO.none _)
      | (with_reducible refine LeO.ite ?_ ?_)
      | (with_reducible refine LeO.bind ?_ (fun _ => ?_))
      | exact ih0 _ _ _ _
      | exact ih1 _ _ _ _ _ _ _
      | exact ih2 _ _ _ _ _ _ _
      | exact sig_Name.mono _ _
      | exact LeO.none _
      | refine LeO.ite ?_ ?_
      | refine LeO.bind ?_ (fun _ => ?_)
    · intro y0 y1 y2 y3 y4 y5 y6
      unfold sig_Check.j1
      repeat' first
      | (with_reducible exact ih0 _ _ _ _)
      | (with_reducible exact ih1 _ _ _ _ _ _ _)
      | (with_reducible exact ih2 _ _ _ _ _ _ _)
      | (with_reducible exact sig_Name.mono _ _)
      | (with_reducible exact LeO.refl _)
      | (with_reducible exact LeO.none _)
      | (with_reducible refine LeO.ite ?_ ?_)
      | (with_reducible refine LeO.bind ?_ (fun _ => ?_))
      | exact ih0 _ _ _ _
      | exact ih1 _ _ _ _ _ _ _
      | exact ih2 _ _ _ _ _ _ _
      | exact sig_Name.mono _ _
      | exact LeO.none _
      | refine LeO.ite ?_ ?_
      | refine LeO.bind ?_ (fun _ => ?_)
    · intro y0 y1 y2 y3 y4 y5 y6
      unfold sig_Check.l1
      repeat' first
      | (with_reducible exact ih0 _ _ _ _)
      | (with_reducible exact ih1 _ _ _ _ _ _ _)
      | (with_reducible exact ih2 _ _ _ _ _ _ _)
      | (with_reducible exact sig_Name.mono _ _)
      | (with_reducible exact LeO.refl _)
      | (with_reducible exact LeO.none _)
      | (with_reducible refine LeO.ite ?_ ?_)
      | (with_reducible refine LeO.bind ?_ (fun _ => ?_))
      | exact ih0 _ _ _ _
      | exact ih1 _ _ _ _ _ _ _
      | exact ih2 _ _ _ _ _ _ _
      | exact sig_Name.mono _ _
      | exact LeO.none _
      | refine LeO.ite ?_ ?_
      | refine LeO.bind ?_ (fun _ => ?_)
theorem sig_Check.mono : ∀ a0 k, LeO (sig_Check.f k a0) (sig_Check.f (k + 1) a0) := by
  intro a0 k
  obtain ⟨ih0, ih1, ih2⟩ := sig_Check.mono_l k
  unfold sig_Check.f
  repeat' first
      | (with_reducible exact ih0 _ _ _ _)
      | (with_reducible exact ih1 _ _ _ _ _ _ _)
      | (with_reducible exact ih2 _ _ _ _ _ _ _)
      | (with_reducible exact sig_Name.mono _ _)
      | (with_reducible exact LeO.refl _)
      | (with_reducible exact LeO.none _)
      | (with_reducible refine LeO.ite ?_ ?_)
      | (with_reducible refine LeO.bind ?_ (fun _ => ?_))
      | exact ih0 _ _ _ _
      | exact ih1 _ _ _ _ _ _ _
      | exact ih2 _ _ _ _ _ _ _
      | exact sig_Name.mono _ _
      | exact LeO.none _
      | refine LeO.ite ?_ ?_
      | refine LeO.bind ?_ (fun _ => ?_)
set_option maxHeartbeats 8000000 in
set_option maxRecDepth 100000 in
theorem sig_Check.calls (k : Nat) (A0 : Option Addr) (c0 : Nat) (l0 : List (S92)) (r : Int) (w : World) (hr0 : Kd.C k92 w A0 l0.length l0) (hc0 : l0.length ≤ c0) (h : sig_Check.f k l0 = some r) :
    Calls Try.prog 54 #[.slice A0 l0.length c0] w fun e w' => e = .returned (.int .i64 r) ∧ Below w.heap.size w w' := by
  have hu92 := Try.underlying92
  have HR0 := Aside0.mk hr0
  have HC0 := Aside0.mk hc0
  clear hr0 hc0
  have HB := Aside0.mk (Below.refl w.heap.size w)
  have H : (if (l0.length : Int) > 64 then (some 6) else (sig_Check.l0 k (([] : List ByteArray)) l0 (l0.length : Int) 0)) = some r := h
  clear h
  by_cases c2 : (l0.length : Int) > 64
  · rw [if_pos c2] at H
    have c2b0 : decide (64 < (l0.length : Int)) = true := decide_eq_true c2
    have c2b1 : decide (64 < l0.length) = true := decide_eq_true (by omega)
    clear c2
    obtain rfl := Option.some.inj H
    go_enter Try.func54, Try.ntmps54
    go_wp2
    go_ret
    exact ⟨by first | rfl | (simp [errW_none, errW_some] <;> rfl) | (simp [*, errW_none, errW_some] <;> rfl), by repeat (first | (with_reducible first | exact HB.out | apply below_alloc | apply pw_below_drewN | apply below_drew1) | exact HB.out)⟩
  · rw [if_neg c2] at H
    have c2b0 : decide (64 < (l0.length : Int)) = false := decide_eq_false c2
    have c2b1 : decide (64 < l0.length) = false := decide_eq_false (by omega)
    have HL := Aside0.mk (show l0.length ≤ 64 by omega)
    clear c2
    obtain ⟨y418, hy418⟩ : ∃ y_ : List ByteArray, y_ = (([] : List ByteArray)) := ⟨_, rfl⟩
    replace H : (sig_Check.l0 k y418 l0 (l0.length : Int) 0) = some r := by first | (rw [hy418]; with_reducible exact H) | (have H2_ := (Option.bind_some _ _).symm.trans H; rw [hy418]; with_reducible exact H2_) | (have H2_ := (Option.bind_some _ _).symm.trans H; with_reducible exact H2_) | with_reducible exact H | (rw [hy418]; exact H) | exact H
    have Ny418 := Aside0.mk hy418
    clear hy418
    have H' := Aside0.mk H
    clear H
    go_enter Try.func54, Try.ntmps54
    go_wp2_with (first | ((with_reducible refine gate_dst (N := 13) rfl ?_); refine map_event (k := 110) (e := 3) (ok := sig_Check.ok) (kl := sig_Check.kl) rfl (N := 13) rfl 111 rfl ?_; intro gm w3 hgm ho4 hb hg_; clear hg_; rw [← Ny418.out] at ho4; have n0_ := Aside0.mk (show sig_Check.M _ gm y418 from ho4.keys); have n1_ := Aside0.mk (below_step (by repeat (first | (with_reducible first | exact HB.out | apply below_alloc | apply pw_below_drewN | apply below_drew1) | exact HB.out)) hb); have n2_ := Aside0.mk ((by rw [hgm]; exact (below_size (by repeat (first | (with_reducible first | exact HB.out | apply below_alloc | apply pw_below_drewN | apply below_drew1) | exact HB.out)))) : w.heap.size ≤ gm); clear HB; have HO420 := n0_; have HB := n1_; have GM := n2_; clear n0_ n1_ n2_; clear hb ho4 hgm))
    go_loopg [16] k (fun kq v16 w' => ∃ (x3_1 : List ByteArray) (x16_1 : Int), v16 = .int .i64 x16_1 ∧ Aside0 (sig_Check.l0 kq x3_1 l0 (l0.length : Int) x16_1 = some r) ∧ Aside0 (kq ≤ k) ∧ Aside0 (sig_Check.M w' gm x3_1) ∧ Aside0 (Below w.heap.size w w'))
    case atStart => exact ⟨(y418), (0), (by first | rfl | (simp; done) | (simp [*]; done)), H', ⟨Nat.le_refl _⟩, ⟨(by repeat (first | (with_reducible first | exact HO420.out | apply HasKeys.alloc | apply HasKeys.drewN | apply HasKeys.drew) | exact HO420.out))⟩, ⟨by repeat (first | (with_reducible first | exact HB.out | apply below_alloc | apply pw_below_drewN | apply below_drew1) | exact HB.out)⟩⟩
    case round =>
      clear H'
      try clear c2
      try clear c2b0
      try clear c2b1
      try clear p2
      obtain ⟨x3_1, x16_1, rfl, HA, HK1, HO_3, HB⟩ := hrel
      cases gk with
      | zero => exact absurd HA.out (by simp [sig_Check.l0])
      | succ k1 =>
        have H := HA.out
        clear HA
        simp only [sig_Check.l0] at H
        by_cases c5 : x16_1 < (l0.length : Int)
        · rw [if_pos c5] at H
          have c5b0 : decide (x16_1 < (l0.length : Int)) = true := decide_eq_true c5
          clear c5
          by_cases c6 : 0 ≤ x16_1
          · rw [if_pos c6] at H
            have c6b0 : decide (0 ≤ x16_1) = true := decide_eq_true c6
            clear c6
            by_cases c7 : x16_1 < (l0.length : Int)
            · rw [if_pos c7] at H
              have c7b0 : decide (x16_1 < (l0.length : Int)) = true := decide_eq_true c7
              clear c7
              have cs : ((rd_T92 l0 x16_1).f0).size ≤ 9223372036854775807 := Decidable.byContradiction (fun hc_ => by rw [if_neg hc_] at H; exact absurd H (by simp))
              rw [if_pos cs] at H
              have CS := Aside0.mk cs
              clear cs
              have HC8 := Aside0.mk H
              clear H
              have p421 : 0 ≤ (x16_1 : Int) := of_decide_eq_true (by first | (with_reducible assumption) | assumption)
              have q421 : x16_1 < (l0.length : Int) := of_decide_eq_true (by first | (with_reducible assumption) | assumption)
              obtain ⟨ad421, A421_1, c421_1, e421, hx421_0, hx421_1, hl421_1, hi421_1⟩ := at_T92 HR0.out x16_1 p421 q421
              cases e421
              replace hx421_0 := (HB.out.cell (World.block_lt_of_cell? w _ hx421_0)).trans hx421_0
              replace hx421_1 := (HB.out.cell (World.block_lt_of_cell? w _ hx421_1)).trans hx421_1
              have HR421_1 := Aside0.mk hi421_1
              have HC421_1 := Aside0.mk hl421_1
              clear hi421_1 hl421_1
              have PX := Aside0.mk (⟨p421, q421⟩ : 0 ≤ (x16_1 : Int) ∧ (x16_1 : Int) < l0.length)
              replace p421 := eq_true p421
              replace q421 := eq_true q421
              go_upto_region 8 with (first | ((with_reducible refine gate_dst (N := 5) rfl ?_); refine box_event ?hg (N := 5) ?hd (cs := #[.string (⟨#[]⟩ : ByteArray), .slice none 0 0]) (t := 92) ?hr ?_; (case hd => rfl); (case hg => rfl); (case hr => first | (go_simp; done) | (go_simp; rfl)); intro gb422 hg w9 hbox hb; have n0_ := Aside0.mk (HasKeys.below (by repeat (first | (with_reducible first | exact HO_3.out | apply HasKeys.alloc | apply HasKeys.drewN | apply HasKeys.drew) | exact HO_3.out)) hb (Nat.le_refl _)); have n1_ := Aside0.mk (below_step (by repeat (first | (with_reducible first | exact HB.out | apply below_alloc | apply pw_below_drewN | apply below_drew1) | exact HB.out)) hb); have n2_ := Aside0.mk (hbox); have n3_ := Aside0.mk ((by rw [hg]; exact (below_size (by repeat (first | (with_reducible first | exact HB.out | apply below_alloc | apply pw_below_drewN | apply below_drew1) | exact HB.out))) : w.heap.size ≤ gb422)); have n4_ := Aside0.mk ((by rw [hg]; exact (below_size (by repeat (first | (with_reducible first | exact HB.out | apply below_alloc | apply pw_below_drewN | apply below_drew1) | exact HB.out))) : w.heap.size ≤ gb422)); clear HO_3; clear HB; have HO_3 := n0_; have HB := n1_; have BK422 := n2_; have GW422 := n3_; have GE422 := n4_; clear n0_ n1_ n2_ n3_ n4_; clear hb hbox hg; have NG422 := Aside0.mk (HasKeys.ne HO_3.out BK422.out); have hcz10_0 : w9.cell? ⟨gb422, 0, none⟩ = some (.string (⟨#[]⟩ : ByteArray)) := (blk_cell BK422.out 0).trans rfl; have hcz10_1 : w9.cell? ⟨gb422, 1, none⟩ = some (.slice none 0 0) := (blk_cell BK422.out 1).trans rfl; have hfz10_0 := blk_frozen BK422.out 0; have hfz10_1 := blk_frozen BK422.out 1) | (at_lookup; refine has_event sig_Check.keyAs rfl _ _ 111 rfl Try.underlying111 Try.underlying3 ?hz (b := gm) (acc := x3_1) rfl ?how ((rd_T92 l0 x16_1).f0) CS.out rfl ?_; (case hz => kernel_rfl); (case how => exact (by repeat (first | (with_reducible first | exact HO_3.out | apply HasKeys.alloc | apply HasKeys.drewN | apply HasKeys.drew | refine HasKeys.set ?_ NG422.out _) | exact HO_3.out))); intro cv_))
              (try simp only [Act.put, List.setIfInBounds_toArray, List.set_cons_zero, List.set_cons_succ])
              go_cut [7, 35] (fun v7 v35 wc => ∃ (kq : Nat) (x35_7 : Bool), v35 = .bool x35_7 ∧ Aside0 (sig_Check.j1 kq x3_1 l0 (l0.length : Int) x16_1 x35_7 ((rd_T92 l0 x16_1).f0) ((rd_T92 l0 x16_1).f1) = some r) ∧ Aside0 (kq ≤ k1) ∧ Aside0 (sig_Check.M wc gm x3_1) ∧ Aside0 (wc.heap[gb422]? = some (.cells #[.string ((rd_T92 l0 x16_1).f0), (.slice A421_1 ((rd_T92 l0 x16_1).f1).length c421_1)] 92 (0, 0))) ∧ Aside0 (Below w.heap.size w wc))
              case first =>
                have H := HC8.out
                clear HC8
                by_cases c11 : ((rd_T92 l0 x16_1).f0) ∈ x3_1
                · rw [if_pos c11] at H
                  have c11b0 : decide (((rd_T92 l0 x16_1).f0) ∈ x3_1) = true := decide_eq_true c11
                  clear c11
                  (first | rw [c11b0] | (simp only [i64_w, i32_w]; rw [c11b0]) | skip)
                  have H' := Aside0.mk H
                  clear H
                  go_wp2
                  go_meet
                  case rel => exact ⟨_, (true), (by first | rfl | (simp; done) | (simp [*]; done)), H', ⟨by have := HK1.out; first | omega | exact Nat.le_refl _⟩, ⟨(by repeat (first | (with_reducible first | exact HO_3.out | apply HasKeys.alloc | apply HasKeys.drewN | apply HasKeys.drew | refine HasKeys.set ?_ NG422.out _) | exact HO_3.out))⟩, ⟨by (with_reducible repeat (first | refine blk_drewN ?_ _ | refine blk_drew ?_ | refine blk_alloc ?_ _)); refine blk_put (cs := #[.string ((rd_T92 l0 x16_1).f0), .slice none 0 0]) ?_ 1 _ rfl; (with_reducible repeat (first | refine blk_drewN ?_ _ | refine blk_drew ?_ | refine blk_alloc ?_ _)); refine blk_put (cs := #[.string (⟨#[]⟩ : ByteArray), .slice none 0 0]) ?_ 0 _ rfl; (with_reducible repeat (first | refine blk_drewN ?_ _ | refine blk_drew ?_ | refine blk_alloc ?_ _)); exact BK422.out⟩, ⟨by repeat (first | (with_reducible first | exact HB.out | apply below_alloc | apply pw_below_drewN | apply below_drew1 | refine below_set ?_ GE422.out) | exact HB.out)⟩⟩
                · rw [if_neg c11] at H
                  have c11b0 : decide (((rd_T92 l0 x16_1).f0) ∈ x3_1) = false := decide_eq_false c11
                  (first | rw [c11b0] | (simp only [i64_w, i32_w]; rw [c11b0]) | skip)
                  replace H := Option.bind_eq_some_iff.mp H
                  obtain ⟨t423, A120, H⟩ := H
                  replace H : (sig_Check.j1 k1 x3_1 l0 (l0.length : Int) x16_1 (!t423) ((rd_T92 l0 x16_1).f0) ((rd_T92 l0 x16_1).f1)) = some r := H
                  have A12 := Aside0.mk A120
                  clear A120
                  have H' := Aside0.mk H
                  clear H
                  have hcz13_0 : w9.cell? ⟨gb422, 0, none⟩ = some (.string (⟨#[]⟩ : ByteArray)) := (blk_cell BK422.out 0).trans rfl
                  have hcz13_1 : w9.cell? ⟨gb422, 1, none⟩ = some (.slice none 0 0) := (blk_cell BK422.out 1).trans rfl
                  have hfz13_0 := blk_frozen BK422.out 0
                  have hfz13_1 := blk_frozen BK422.out 1
                  go_wp2_with (first | (go_at_call 56; (with_reducible refine (sig_Name.calls k1 ((rd_T92 l0 x16_1).f0) t423 _ A12.out).mono ?_); rintro e w' ⟨rfl, ⟨nd, rfl⟩⟩))
                  go_meet
                  case rel => exact ⟨_, (!t423), (by first | rfl | (simp; done) | (simp [*]; done)), H', ⟨by have := HK1.out; first | omega | exact Nat.le_refl _⟩, ⟨(by repeat (first | (with_reducible first | exact HO_3.out | apply HasKeys.alloc | apply HasKeys.drewN | apply HasKeys.drew | refine HasKeys.set ?_ NG422.out _) | exact HO_3.out))⟩, ⟨by (with_reducible repeat (first | refine blk_drewN ?_ _ | refine blk_drew ?_ | refine blk_alloc ?_ _)); refine blk_put (cs := #[.string ((rd_T92 l0 x16_1).f0), .slice none 0 0]) ?_ 1 _ rfl; (with_reducible repeat (first | refine blk_drewN ?_ _ | refine blk_drew ?_ | refine blk_alloc ?_ _)); refine blk_put (cs := #[.string (⟨#[]⟩ : ByteArray), .slice none 0 0]) ?_ 0 _ rfl; (with_reducible repeat (first | refine blk_drewN ?_ _ | refine blk_drew ?_ | refine blk_alloc ?_ _)); exact BK422.out⟩, ⟨by repeat (first | (with_reducible first | exact HB.out | apply below_alloc | apply pw_below_drewN | apply below_drew1 | refine below_set ?_ GE422.out) | exact HB.out)⟩⟩
              case rest =>
                clear HC8
                try clear c1
                try clear c2
                try clear c2b0
                try clear c2b1
                try clear p2
                try clear c4
                try clear p4
                try clear q4
                try clear hx4
                try clear c5
                try clear c5b0
                try clear c6
                try clear c6b0
                try clear c7
                try clear c7b0
                try clear c11
                try clear c11b0
                try clear c11b1
                try clear hcz10_0
                try clear hcz10_1
                try clear hcz13_0
                try clear hcz13_1
                try clear hfz10_0
                try clear hfz10_1
                try clear hfz13_0
                try clear hfz13_1
                try clear hx421_0
                try clear hx421_1
                try clear p2
                try clear p421
                try clear q421
                obtain ⟨kq, x35_7, rfl, HA, HJ7, HO_3, BK422, HB⟩ := hcut
                cases kq with
                | zero => exact absurd HA.out (by simp [sig_Check.j1])
                | succ kj7 =>
                  have H := HA.out
                  clear HA
                  simp only [sig_Check.j1] at H
                  by_cases c14 : x35_7 = true
                  · subst c14
                    have H1 : (some 9) = some r := by rw [if_pos rfl] at H; exact H
                    clear H
                    have H := H1
                    clear H1
                    obtain rfl := Option.some.inj H
                    go_wp2
                    go_ret
                    exact ⟨by first | rfl | (simp [errW_none, errW_some] <;> rfl) | (simp [*, errW_none, errW_some] <;> rfl), by repeat (first | (with_reducible first | exact HB.out | apply below_alloc | apply pw_below_drewN | apply below_drew1 | refine below_set ?_ GE422.out) | exact HB.out)⟩
                  · replace c14 := Bool.eq_false_iff.mpr c14
                    subst c14
                    have H1 : (if x3_1.length < 8796093022208 then (if (((rd_T92 l0 x16_1).f1).length : Int) > 8 then (some 6) else (sig_Check.l1 kj7 (x3_1 ++ [((rd_T92 l0 x16_1).f0)]) l0 (l0.length : Int) x16_1 ((rd_T92 l0 x16_1).f1) (((rd_T92 l0 x16_1).f1).length : Int) 0)) else (none)) = some r := by rw [if_neg (show ¬ (false = true) by decide)] at H; exact H
                    clear H
                    have H := H1
                    clear H1
                    by_cases c15 : x3_1.length < 8796093022208
                    · rw [if_pos c15] at H
                      have LMc15 := Aside0.mk c15
                      clear c15
                      obtain ⟨y424, hy424⟩ : ∃ y_ : List ByteArray, y_ = (x3_1 ++ [((rd_T92 l0 x16_1).f0)]) := ⟨_, rfl⟩
                      replace H : (if (((rd_T92 l0 x16_1).f1).length : Int) > 8 then (some 6) else (sig_Check.l1 kj7 y424 l0 (l0.length : Int) x16_1 ((rd_T92 l0 x16_1).f1) (((rd_T92 l0 x16_1).f1).length : Int) 0)) = some r := by first | (rw [hy424]; with_reducible exact H) | (have H2_ := (Option.bind_some _ _).symm.trans H; rw [hy424]; with_reducible exact H2_) | (have H2_ := (Option.bind_some _ _).symm.trans H; with_reducible exact H2_) | with_reducible exact H | (rw [hy424]; exact H) | exact H
                      have Ny424 := Aside0.mk hy424
                      clear hy424
                      by_cases c16 : (((rd_T92 l0 x16_1).f1).length : Int) > 8
                      · rw [if_pos c16] at H
                        have c16b0 : decide (8 < (((rd_T92 l0 x16_1).f1).length : Int)) = true := decide_eq_true c16
                        have c16b1 : decide (8 < ((rd_T92 l0 x16_1).f1).length) = true := decide_eq_true (by omega)
                        clear c16
                        obtain rfl := Option.some.inj H
                        have hcz17_0 : wc.cell? ⟨gb422, 0, none⟩ = some (.string ((rd_T92 l0 x16_1).f0)) := (blk_cell BK422.out 0).trans rfl
                        have hcz17_1 : wc.cell? ⟨gb422, 1, none⟩ = some (.slice A421_1 ((rd_T92 l0 x16_1).f1).length c421_1) := (blk_cell BK422.out 1).trans rfl
                        have hfz17_0 := blk_frozen BK422.out 0
                        have hfz17_1 := blk_frozen BK422.out 1
                        go_wp2_with (first | (at_mapUpdate; refine put_event sig_Check.keyAs rfl _ _ _ 111 rfl Try.underlying111 Try.underlying3 (b := gm) (acc := x3_1) rfl ?how ?hn ((rd_T92 l0 x16_1).f0) CS.out rfl x16_1 rfl ?hc ?_; (case how => exact (by repeat (first | (with_reducible first | exact HO_3.out | apply HasKeys.alloc | apply HasKeys.drewN | apply HasKeys.drew | refine HasKeys.set ?_ NG422.out _) | exact HO_3.out))); (case hn => have := LMc15.out; omega); (case hc => have := PX.out; have := HL.out; omega); intro w18 ho hg; rw [← Ny424.out] at ho; have n0_ := Aside0.mk (blk_grown (g := gb422) (o := .cells #[.string ((rd_T92 l0 x16_1).f0), .slice A421_1 ((rd_T92 l0 x16_1).f1).length c421_1] 92 (0, 0)) (by (with_reducible repeat (first | refine blk_drewN ?_ _ | refine blk_drew ?_ | refine blk_alloc ?_ _)); exact BK422.out) hg (by have := NG422.out; simpa using Ne.symm this)); have n1_ := Aside0.mk (pw_below_grown (by repeat (first | (with_reducible first | exact HB.out | apply below_alloc | apply pw_below_drewN | apply below_drew1 | refine below_set ?_ GE422.out) | exact HB.out)) (some gm) (below_size (by repeat (first | (with_reducible first | exact HB.out | apply below_alloc | apply pw_below_drewN | apply below_drew1 | refine below_set ?_ GE422.out) | exact HB.out))) hg (fun k_ hk_ => by cases hk_; exact GM.out)); have n2_ := Aside0.mk (show sig_Check.M _ gm y424 from ho); clear BK422; clear HB; clear HO_3; have BK422 := n0_; have HB := n1_; have HO426 := n2_; clear n0_ n1_ n2_; clear ho hg; have hcz19_0 : w18.cell? ⟨gb422, 0, none⟩ = some (.string ((rd_T92 l0 x16_1).f0)) := (blk_cell BK422.out 0).trans rfl; have hcz19_1 : w18.cell? ⟨gb422, 1, none⟩ = some (.slice A421_1 ((rd_T92 l0 x16_1).f1).length c421_1) := (blk_cell BK422.out 1).trans rfl; have hfz19_0 := blk_frozen BK422.out 0; have hfz19_1 := blk_frozen BK422.out 1))
                        go_ret
                        exact ⟨by first | rfl | (simp [errW_none, errW_some] <;> rfl) | (simp [*, errW_none, errW_some] <;> rfl), by repeat (first | (with_reducible first | exact HB.out | apply below_alloc | apply pw_below_drewN | apply below_drew1 | refine below_set ?_ GE422.out) | exact HB.out)⟩
                      · rw [if_neg c16] at H
                        have c16b0 : decide (8 < (((rd_T92 l0 x16_1).f1).length : Int)) = false := decide_eq_false c16
                        have c16b1 : decide (8 < ((rd_T92 l0 x16_1).f1).length) = false := decide_eq_false (by omega)
                        clear c16
                        have H' := Aside0.mk H
                        clear H
                        have hcz20_0 : wc.cell? ⟨gb422, 0, none⟩ = some (.string ((rd_T92 l0 x16_1).f0)) := (blk_cell BK422.out 0).trans rfl
                        have hcz20_1 : wc.cell? ⟨gb422, 1, none⟩ = some (.slice A421_1 ((rd_T92 l0 x16_1).f1).length c421_1) := (blk_cell BK422.out 1).trans rfl
                        have hfz20_0 := blk_frozen BK422.out 0
                        have hfz20_1 := blk_frozen BK422.out 1
                        go_wp2_with (first | (at_mapUpdate; refine put_event sig_Check.keyAs rfl _ _ _ 111 rfl Try.underlying111 Try.underlying3 (b := gm) (acc := x3_1) rfl ?how ?hn ((rd_T92 l0 x16_1).f0) CS.out rfl x16_1 rfl ?hc ?_; (case how => exact (by repeat (first | (with_reducible first | exact HO_3.out | apply HasKeys.alloc | apply HasKeys.drewN | apply HasKeys.drew | refine HasKeys.set ?_ NG422.out _) | exact HO_3.out))); (case hn => have := LMc15.out; omega); (case hc => have := PX.out; have := HL.out; omega); intro w21 ho hg; rw [← Ny424.out] at ho; have n0_ := Aside0.mk (blk_grown (g := gb422) (o := .cells #[.string ((rd_T92 l0 x16_1).f0), .slice A421_1 ((rd_T92 l0 x16_1).f1).length c421_1] 92 (0, 0)) (by (with_reducible repeat (first | refine blk_drewN ?_ _ | refine blk_drew ?_ | refine blk_alloc ?_ _)); exact BK422.out) hg (by have := NG422.out; simpa using Ne.symm this)); have n1_ := Aside0.mk (pw_below_grown (by repeat (first | (with_reducible first | exact HB.out | apply below_alloc | apply pw_below_drewN | apply below_drew1 | refine below_set ?_ GE422.out) | exact HB.out)) (some gm) (below_size (by repeat (first | (with_reducible first | exact HB.out | apply below_alloc | apply pw_below_drewN | apply below_drew1 | refine below_set ?_ GE422.out) | exact HB.out))) hg (fun k_ hk_ => by cases hk_; exact GM.out)); have n2_ := Aside0.mk (show sig_Check.M _ gm y424 from ho); clear BK422; clear HB; clear HO_3; have BK422 := n0_; have HB := n1_; have HO426 := n2_; clear n0_ n1_ n2_; clear ho hg; have hcz22_0 : w21.cell? ⟨gb422, 0, none⟩ = some (.string ((rd_T92 l0 x16_1).f0)) := (blk_cell BK422.out 0).trans rfl; have hcz22_1 : w21.cell? ⟨gb422, 1, none⟩ = some (.slice A421_1 ((rd_T92 l0 x16_1).f1).length c421_1) := (blk_cell BK422.out 1).trans rfl; have hfz22_0 := blk_frozen BK422.out 0; have hfz22_1 := blk_frozen BK422.out 1))
                        go_loopg [48] kj7 (fun kq v48 w' => ∃ (x48_3 : Int), v48 = .int .i64 x48_3 ∧ Aside0 (sig_Check.l1 kq y424 l0 (l0.length : Int) x16_1 ((rd_T92 l0 x16_1).f1) (((rd_T92 l0 x16_1).f1).length : Int) x48_3 = some r) ∧ Aside0 (kq ≤ kj7) ∧ Aside0 (sig_Check.M w' gm y424) ∧ Aside0 (w'.heap[gb422]? = some (.cells #[.string ((rd_T92 l0 x16_1).f0), (.slice A421_1 ((rd_T92 l0 x16_1).f1).length c421_1)] 92 (0, 0))) ∧ Aside0 (Below w.heap.size w w'))
                        case atStart => exact ⟨(0), (by first | rfl | (simp; done) | (simp [*]; done)), H', ⟨Nat.le_refl _⟩, ⟨(by repeat (first | (with_reducible first | exact HO426.out | apply HasKeys.alloc | apply HasKeys.drewN | apply HasKeys.drew | refine HasKeys.set ?_ NG422.out _) | exact HO426.out))⟩, ⟨by (with_reducible repeat (first | refine blk_drewN ?_ _ | refine blk_drew ?_ | refine blk_alloc ?_ _)); exact BK422.out⟩, ⟨by repeat (first | (with_reducible first | exact HB.out | apply below_alloc | apply pw_below_drewN | apply below_drew1 | refine below_set ?_ GE422.out) | exact HB.out)⟩⟩
                        case round =>
                          clear H'
                          try clear c1
                          try clear c2
                          try clear c2b0
                          try clear c2b1
                          try clear p2
                          try clear c4
                          try clear p4
                          try clear q4
                          try clear hx4
                          try clear c5
                          try clear c5b0
                          try clear c6
                          try clear c6b0
                          try clear c7
                          try clear c7b0
                          try clear c11
                          try clear c11b0
                          try clear c11b1
                          try clear c14
                          try clear c15
                          try clear c16
                          try clear c16b0
                          try clear c16b1
                          try clear hcz10_0
                          try clear hcz10_1
                          try clear hcz13_0
                          try clear hcz13_1
                          try clear hcz17_0
                          try clear hcz17_1
                          try clear hcz19_0
                          try clear hcz19_1
                          try clear hcz20_0
                          try clear hcz20_1
                          try clear hcz22_0
                          try clear hcz22_1
                          try clear hfz10_0
                          try clear hfz10_1
                          try clear hfz13_0
                          try clear hfz13_1
                          try clear hfz17_0
                          try clear hfz17_1
                          try clear hfz19_0
                          try clear hfz19_1
                          try clear hfz20_0
                          try clear hfz20_1
                          try clear hfz22_0
                          try clear hfz22_1
                          try clear hx421_0
                          try clear hx421_1
                          try clear p2
                          try clear p4
                          try clear p421
                          try clear q4
                          try clear q421
                          obtain ⟨x48_3, rfl, HA, HK3, HO_3, BK422, HB⟩ := hrel
                          cases gk with
                          | zero => exact absurd HA.out (by simp [sig_Check.l1])
                          | succ k3 =>
                            have H := HA.out
                            clear HA
                            simp only [sig_Check.l1] at H
                            by_cases c23 : x48_3 < (((rd_T92 l0 x16_1).f1).length : Int)
                            · rw [if_pos c23] at H
                              have c23b0 : decide (x48_3 < (((rd_T92 l0 x16_1).f1).length : Int)) = true := decide_eq_true c23
                              clear c23
                              by_cases c24 : 0 ≤ x48_3
                              · rw [if_pos c24] at H
                                have c24b0 : decide (0 ≤ x48_3) = true := decide_eq_true c24
                                clear c24
                                by_cases c25 : x48_3 < (((rd_T92 l0 x16_1).f1).length : Int)
                                · rw [if_pos c25] at H
                                  have c25b0 : decide (x48_3 < (((rd_T92 l0 x16_1).f1).length : Int)) = true := decide_eq_true c25
                                  clear c25
                                  by_cases c26 : (rd ((rd_T92 l0 x16_1).f1) x48_3) = 1
                                  · rw [if_pos c26] at H
                                    have c26b0 : ((rd ((rd_T92 l0 x16_1).f1) x48_3) == 1) = true := beq_iff_eq.mpr c26
                                    have c26b1 : ((rd ((rd_T92 l0 x16_1).f1) x48_3) != 1) = false := bne_eq_false_iff_eq.mpr c26
                                    clear c26
                                    have H' := Aside0.mk H
                                    clear H
                                    have p427 : 0 ≤ (x48_3 : Int) := of_decide_eq_true (by first | (with_reducible assumption) | assumption)
                                    have q427 : x48_3 < (((rd_T92 l0 x16_1).f1).length : Int) := of_decide_eq_true (by first | (with_reducible assumption) | assumption)
                                    obtain ⟨ad427, e427, hx427_0⟩ := Kd.at_int HR421_1.out x48_3 p427 q427
                                    cases e427
                                    replace hx427_0 := (HB.out.cell (World.block_lt_of_cell? w _ hx427_0)).trans hx427_0
                                    replace p427 := eq_true p427
                                    replace q427 := eq_true q427
                                    go_wp2
                                    go_roundg k3
                                    case measure => have := HK1.out; have := HJ7.out; have := HK3.out; omega
                                    case rel => exact ⟨(wrap64 (x48_3 + 1)), (by first | rfl | (simp; done) | (simp [*]; done)), H', ⟨by have := HK1.out; have := HJ7.out; have := HK3.out; omega⟩, ⟨(by repeat (first | (with_reducible first | exact HO_3.out | apply HasKeys.alloc | apply HasKeys.drewN | apply HasKeys.drew | refine HasKeys.set ?_ NG422.out _) | exact HO_3.out))⟩, ⟨by (with_reducible repeat (first | refine blk_drewN ?_ _ | refine blk_drew ?_ | refine blk_alloc ?_ _)); exact BK422.out⟩, ⟨by repeat (first | (with_reducible first | exact HB.out | apply below_alloc | apply pw_below_drewN | apply below_drew1 | refine below_set ?_ GE422.out) | exact HB.out)⟩⟩
                                  · rw [if_neg c26] at H
                                    have c26b0 : ((rd ((rd_T92 l0 x16_1).f1) x48_3) == 1) = false := beq_eq_false_iff_ne.mpr c26
                                    have c26b1 : ((rd ((rd_T92 l0 x16_1).f1) x48_3) != 1) = true := bne_iff_ne.mpr c26
                                    by_cases c27 : (rd ((rd_T92 l0 x16_1).f1) x48_3) = 2
                                    · rw [if_pos c27] at H
                                      have c27b0 : ((rd ((rd_T92 l0 x16_1).f1) x48_3) == 2) = true := beq_iff_eq.mpr c27
                                      have c27b1 : ((rd ((rd_T92 l0 x16_1).f1) x48_3) != 2) = false := bne_eq_false_iff_eq.mpr c27
                                      clear c27
                                      have H' := Aside0.mk H
                                      clear H
                                      have p427 : 0 ≤ (x48_3 : Int) := of_decide_eq_true (by first | (with_reducible assumption) | assumption)
                                      have q427 : x48_3 < (((rd_T92 l0 x16_1).f1).length : Int) := of_decide_eq_true (by first | (with_reducible assumption) | assumption)
                                      obtain ⟨ad427, e427, hx427_0⟩ := Kd.at_int HR421_1.out x48_3 p427 q427
                                      cases e427
                                      replace hx427_0 := (HB.out.cell (World.block_lt_of_cell? w _ hx427_0)).trans hx427_0
                                      replace p427 := eq_true p427
                                      replace q427 := eq_true q427
                                      go_wp2
                                      go_roundg k3
                                      case measure => have := HK1.out; have := HJ7.out; have := HK3.out; omega
                                      case rel => exact ⟨(wrap64 (x48_3 + 1)), (by first | rfl | (simp; done) | (simp [*]; done)), H', ⟨by have := HK1.out; have := HJ7.out; have := HK3.out; omega⟩, ⟨(by repeat (first | (with_reducible first | exact HO_3.out | apply HasKeys.alloc | apply HasKeys.drewN | apply HasKeys.drew | refine HasKeys.set ?_ NG422.out _) | exact HO_3.out))⟩, ⟨by (with_reducible repeat (first | refine blk_drewN ?_ _ | refine blk_drew ?_ | refine blk_alloc ?_ _)); exact BK422.out⟩, ⟨by repeat (first | (with_reducible first | exact HB.out | apply below_alloc | apply pw_below_drewN | apply below_drew1 | refine below_set ?_ GE422.out) | exact HB.out)⟩⟩
                                    · rw [if_neg c27] at H
                                      have c27b0 : ((rd ((rd_T92 l0 x16_1).f1) x48_3) == 2) = false := beq_eq_false_iff_ne.mpr c27
                                      have c27b1 : ((rd ((rd_T92 l0 x16_1).f1) x48_3) != 2) = true := bne_iff_ne.mpr c27
                                      obtain rfl := Option.some.inj H
                                      have p427 : 0 ≤ (x48_3 : Int) := of_decide_eq_true (by first | (with_reducible assumption) | assumption)
                                      have q427 : x48_3 < (((rd_T92 l0 x16_1).f1).length : Int) := of_decide_eq_true (by first | (with_reducible assumption) | assumption)
                                      obtain ⟨ad427, e427, hx427_0⟩ := Kd.at_int HR421_1.out x48_3 p427 q427
                                      cases e427
                                      replace hx427_0 := (HB.out.cell (World.block_lt_of_cell? w _ hx427_0)).trans hx427_0
                                      replace p427 := eq_true p427
                                      replace q427 := eq_true q427
                                      go_wp2
                                      go_ret
                                      exact ⟨by first | rfl | (simp [errW_none, errW_some] <;> rfl) | (simp [*, errW_none, errW_some] <;> rfl), by repeat (first | (with_reducible first | exact HB.out | apply below_alloc | apply pw_below_drewN | apply below_drew1 | refine below_set ?_ GE422.out) | exact HB.out)⟩
                                · rw [if_neg c25] at H
                                  exact absurd H (by simp)
                              · rw [if_neg c24] at H
                                exact absurd H (by simp)
                            · rw [if_neg c23] at H
                              have c23b0 : decide (x48_3 < (((rd_T92 l0 x16_1).f1).length : Int)) = false := decide_eq_false c23
                              clear c23
                              have H' := Aside0.mk H
                              clear H
                              go_wp2
                              go_roundg k3
                              case measure => have := HK1.out; have := HJ7.out; have := HK3.out; omega
                              case rel => exact ⟨(y424), (wrap64 (x16_1 + 1)), (by first | rfl | (simp; done) | (simp [*]; done)), H', ⟨by have := HK1.out; have := HJ7.out; have := HK3.out; omega⟩, ⟨(by repeat (first | (with_reducible first | exact HO_3.out | apply HasKeys.alloc | apply HasKeys.drewN | apply HasKeys.drew | refine HasKeys.set ?_ NG422.out _) | exact HO_3.out))⟩, ⟨by repeat (first | (with_reducible first | exact HB.out | apply below_alloc | apply pw_below_drewN | apply below_drew1 | refine below_set ?_ GE422.out) | exact HB.out)⟩⟩
                    · rw [if_neg c15] at H
                      exact absurd H (by simp)
            · rw [if_neg c7] at H
              exact absurd H (by simp)
          · rw [if_neg c6] at H
            exact absurd H (by simp)
        · rw [if_neg c5] at H
          have c5b0 : decide (x16_1 < (l0.length : Int)) = false := decide_eq_false c5
          clear c5
          obtain rfl := Option.some.inj H
          go_wp2
          go_ret
          exact ⟨by first | rfl | (simp [errW_none, errW_some] <;> rfl) | (simp [*, errW_none, errW_some] <;> rfl), by repeat (first | (with_reducible first | exact HB.out | apply below_alloc | apply pw_below_drewN | apply below_drew1) | exact HB.out)⟩
end

/-! ### tachographlaw09_fixed: function 51 -/
def tachographlaw09_fixed.f (k : Nat)  : Option (Bool) := (sig_Check.f k (([(⟨(⟨#[112]⟩ : ByteArray), (([1] : List Int))⟩ : S92), (⟨(⟨#[113]⟩ : ByteArray), (([1] : List Int))⟩ : S92)] : List (S92)))).bind fun t113 => (if t113 = 0 then ((sig_Check.f k (([(⟨(⟨#[112]⟩ : ByteArray), ([] : List Int)⟩ : S92), (⟨(⟨#[112]⟩ : ByteArray), ([] : List Int)⟩ : S92)] : List (S92)))).bind fun t117 => (some (t117 == 9))) else (some false))
theorem tachographlaw09_fixed.mono : ∀ k, LeO (tachographlaw09_fixed.f k ) (tachographlaw09_fixed.f (k + 1) ) := by
  intro  k
  unfold tachographlaw09_fixed.f
  repeat' first
      | (with_reducible exact sig_Check.mono _ _)
      | (with_reducible exact LeO.refl _)
      | (with_reducible exact LeO.none _)
      | (with_reducible refine LeO.ite ?_ ?_)
      | (with_reducible refine LeO.bind ?_ (fun _ => ?_))
      | exact sig_Check.mono _ _
      | exact LeO.none _
      | refine LeO.ite ?_ ?_
      | refine LeO.bind ?_ (fun _ => ?_)
set_option maxHeartbeats 8000000 in
set_option maxRecDepth 100000 in
theorem tachographlaw09_fixed.calls (k : Nat)  (r : Bool) (w : World) (h : tachographlaw09_fixed.f k  = some r) :
    Calls Try.prog 51 #[] w fun e w' => e = .returned (.bool r) ∧ Below w.heap.size w w' := by
  have hu92 := Try.underlying92
  have HB := Aside0.mk (Below.refl w.heap.size w)
  have H : ((sig_Check.f k (([(⟨(⟨#[112]⟩ : ByteArray), (([1] : List Int))⟩ : S92), (⟨(⟨#[113]⟩ : ByteArray), (([1] : List Int))⟩ : S92)] : List (S92)))).bind fun t113 => (if t113 = 0 then ((sig_Check.f k (([(⟨(⟨#[112]⟩ : ByteArray), ([] : List Int)⟩ : S92), (⟨(⟨#[112]⟩ : ByteArray), ([] : List Int)⟩ : S92)] : List (S92)))).bind fun t117 => (some (t117 == 9))) else (some false))) = some r := h
  clear h
  obtain ⟨y104, hy104⟩ : ∃ y_ : List Int, y_ = (([1] : List Int)) := ⟨_, rfl⟩
  replace H : ((sig_Check.f k (([(⟨(⟨#[112]⟩ : ByteArray), y104⟩ : S92), (⟨(⟨#[113]⟩ : ByteArray), (([1] : List Int))⟩ : S92)] : List (S92)))).bind fun t113 => (if t113 = 0 then ((sig_Check.f k (([(⟨(⟨#[112]⟩ : ByteArray), ([] : List Int)⟩ : S92), (⟨(⟨#[112]⟩ : ByteArray), ([] : List Int)⟩ : S92)] : List (S92)))).bind fun t117 => (some (t117 == 9))) else (some false))) = some r := by first | (rw [hy104]; with_reducible exact H) | (have H2_ := (Option.bind_some _ _).symm.trans H; rw [hy104]; with_reducible exact H2_) | (have H2_ := (Option.bind_some _ _).symm.trans H; with_reducible exact H2_) | with_reducible exact H | (rw [hy104]; exact H) | exact H
  have Ny104 := Aside0.mk hy104
  clear hy104
  obtain ⟨y107, hy107⟩ : ∃ y_ : List Int, y_ = (([1] : List Int)) := ⟨_, rfl⟩
  replace H : ((sig_Check.f k (([(⟨(⟨#[112]⟩ : ByteArray), y104⟩ : S92), (⟨(⟨#[113]⟩ : ByteArray), y107⟩ : S92)] : List (S92)))).bind fun t113 => (if t113 = 0 then ((sig_Check.f k (([(⟨(⟨#[112]⟩ : ByteArray), ([] : List Int)⟩ : S92), (⟨(⟨#[112]⟩ : ByteArray), ([] : List Int)⟩ : S92)] : List (S92)))).bind fun t117 => (some (t117 == 9))) else (some false))) = some r := by first | (rw [hy107]; with_reducible exact H) | (have H2_ := (Option.bind_some _ _).symm.trans H; rw [hy107]; with_reducible exact H2_) | (have H2_ := (Option.bind_some _ _).symm.trans H; with_reducible exact H2_) | with_reducible exact H | (rw [hy107]; exact H) | exact H
  have Ny107 := Aside0.mk hy107
  clear hy107
  obtain ⟨y110, hy110⟩ : ∃ y_ : List (S92), y_ = (([(⟨(⟨#[112]⟩ : ByteArray), y104⟩ : S92), (⟨(⟨#[113]⟩ : ByteArray), y107⟩ : S92)] : List (S92))) := ⟨_, rfl⟩
  replace H : ((sig_Check.f k y110).bind fun t113 => (if t113 = 0 then ((sig_Check.f k (([(⟨(⟨#[112]⟩ : ByteArray), ([] : List Int)⟩ : S92), (⟨(⟨#[112]⟩ : ByteArray), ([] : List Int)⟩ : S92)] : List (S92)))).bind fun t117 => (some (t117 == 9))) else (some false))) = some r := by first | (rw [hy110]; with_reducible exact H) | (have H2_ := (Option.bind_some _ _).symm.trans H; rw [hy110]; with_reducible exact H2_) | (have H2_ := (Option.bind_some _ _).symm.trans H; with_reducible exact H2_) | with_reducible exact H | (rw [hy110]; exact H) | exact H
  have Ny110 := Aside0.mk hy110
  clear hy110
  replace H := Option.bind_eq_some_iff.mp H
  obtain ⟨t113, A10, H⟩ := H
  replace H : (if t113 = 0 then ((sig_Check.f k (([(⟨(⟨#[112]⟩ : ByteArray), ([] : List Int)⟩ : S92), (⟨(⟨#[112]⟩ : ByteArray), ([] : List Int)⟩ : S92)] : List (S92)))).bind fun t117 => (some (t117 == 9))) else (some false)) = some r := H
  have A1 := Aside0.mk A10
  clear A10
  by_cases c2 : t113 = 0
  · rw [if_pos c2] at H
    have c2b0 : (t113 == 0) = true := beq_iff_eq.mpr c2
    have c2b1 : (t113 != 0) = false := bne_eq_false_iff_eq.mpr c2
    clear c2
    obtain ⟨y114, hy114⟩ : ∃ y_ : List (S92), y_ = (([(⟨(⟨#[112]⟩ : ByteArray), ([] : List Int)⟩ : S92), (⟨(⟨#[112]⟩ : ByteArray), ([] : List Int)⟩ : S92)] : List (S92))) := ⟨_, rfl⟩
    replace H : ((sig_Check.f k y114).bind fun t117 => (some (t117 == 9))) = some r := by first | (rw [hy114]; with_reducible exact H) | (have H2_ := (Option.bind_some _ _).symm.trans H; rw [hy114]; with_reducible exact H2_) | (have H2_ := (Option.bind_some _ _).symm.trans H; with_reducible exact H2_) | with_reducible exact H | (rw [hy114]; exact H) | exact H
    have Ny114 := Aside0.mk hy114
    clear hy114
    replace H := Option.bind_eq_some_iff.mp H
    obtain ⟨t117, A30, H⟩ := H
    replace H : (some (t117 == 9)) = some r := H
    have A3 := Aside0.mk A30
    clear A30
    obtain rfl := Option.some.inj H
    go_enter Try.func51, Try.ntmps51
    go_wp2_with (first | ((with_reducible refine gate_dst (N := 1) rfl ?_); (try (refine gate_guard (by rfl) ?_; dsimp only)); refine Kd.R_lit (Kd.int .i64) _ 3 ?hg (N := 1) ?hd (xs := ([1] : List Int)) (inner := [.int .i64 1]) (ok := fun _ => True) (okp := fun _ => True) ?hr ?hp (fun _ hk => hk) trivial (Below.refl _ _) (Nat.le_refl _) (by simp) ?_; (case hd => rfl); (case hg => rfl); (case hr => first | (go_simp; done) | (go_simp; rfl)); (case hp => exact (Reps.one (show Kd.M (Kd.int .i64) _ _ _ 1 [.int .i64 1] from rfl) (Reps.none _ _))); intro v105 w4 ho5 hb hg_ hnew_; clear hg_ hnew_; (first | rw [← Ny104.out] at ho5 | (simp only [Int.reduceToNat] at ho5; rw [← Ny104.out] at ho5)); have n0_ := Aside0.mk (Kd.R_lower ho5 (below_size (by repeat (first | (with_reducible first | exact HB.out | apply below_alloc | apply pw_below_drewN | apply below_drew1) | exact HB.out)))); have n1_ := Aside0.mk (below_step (by repeat (first | (with_reducible first | exact HB.out | apply below_alloc | apply pw_below_drewN | apply below_drew1) | exact HB.out)) hb); clear HB; have HO106 := n0_; have HB := n1_; clear n0_ n1_; clear hb ho5; obtain ⟨Ao6, co6, eo6⟩ := Kd.R_slice HO106.out; subst eo6) | ((with_reducible refine gate_dst (N := 3) rfl ?_); (try (refine gate_guard (by rfl) ?_; dsimp only)); refine Kd.R_lit (Kd.int .i64) _ 3 ?hg (N := 3) ?hd (xs := ([1] : List Int)) (inner := [.int .i64 1]) (ok := fun _ => True) (okp := fun _ => True) ?hr ?hp (fun _ hk => hk) trivial (Below.refl _ _) (Nat.le_refl _) (by simp) ?_; (case hd => rfl); (case hg => rfl); (case hr => first | (go_simp; done) | (go_simp; rfl)); (case hp => exact (Reps.one (show Kd.M (Kd.int .i64) _ _ _ 1 [.int .i64 1] from rfl) (Reps.none _ _))); intro v108 w7 ho8 hb hg_ hnew_; clear hg_ hnew_; (first | rw [← Ny107.out] at ho8 | (simp only [Int.reduceToNat] at ho8; rw [← Ny107.out] at ho8)); have n0_ := Aside0.mk (Kd.R_elder' (by (with_reducible repeat (first | apply Kd.R_alloc | apply Kd.R_drewN | apply Kd.R_drew)); exact HO106.out) (Kd.R_base ho8) hb); have n1_ := Aside0.mk (Kd.R_lower (Kd.R_new' ho8 (Kd.R_lt (by (with_reducible repeat (first | apply Kd.R_alloc | apply Kd.R_drewN | apply Kd.R_drew)); exact HO106.out))) (below_size (by repeat (first | (with_reducible first | exact HB.out | apply below_alloc | apply pw_below_drewN | apply below_drew1) | exact HB.out)))); have n2_ := Aside0.mk (below_step (by repeat (first | (with_reducible first | exact HB.out | apply below_alloc | apply pw_below_drewN | apply below_drew1) | exact HB.out)) hb); clear HO106; clear HB; have HO106 := n0_; have HO109 := n1_; have HB := n2_; clear n0_ n1_ n2_; clear hb ho8; obtain ⟨Ao9, co9, eo9⟩ := Kd.R_slice HO109.out; subst eo9) | ((with_reducible refine gate_dst (N := 5) rfl ?_); (try (refine gate_guard (by rfl) ?_; dsimp only)); refine Kd.N_lit k92 _ 92 ?hg (N' := 5) ?hd (xs := ([(⟨(⟨#[112]⟩ : ByteArray), y104⟩ : S92), (⟨(⟨#[113]⟩ : ByteArray), y107⟩ : S92)] : List (S92))) (inner := [.string (⟨#[112]⟩ : ByteArray), .slice Ao6 y104.length co6, .string (⟨#[113]⟩ : ByteArray), .slice Ao9 y107.length co9]) (ok := (fun _ => True)) (okp := (fun _ => True)) ?hr ?hp (fun _ hk => hk) ((show ∀ k_, w7.heap.size ≤ k_ → (fun _ => True) k_ from fun k_ hk => trivial) _ (Nat.le_refl _)) (Below.refl _ _) (Nat.le_refl _) (by simp) ?_; (case hd => rfl); (case hg => rfl); (case hr => first | (go_simp; done) | (go_simp; rfl)); (case hp => exact (Reps.c2 (show Kd.FK k92 _ _ (⟨(⟨#[112]⟩ : ByteArray), y104⟩ : S92) [.string (⟨#[112]⟩ : ByteArray), .slice Ao6 y104.length co6] from (k92_mkF _ _ (⟨(⟨#[112]⟩ : ByteArray), y104⟩ : S92) (Kd.R_reads' (Kd.R_mono (ok' := (fun _ => True)) (HO106.out) (fun k_ hk => trivial))).2.1 (Kd.R_F (Kd.R_mono (ok' := (fun _ => True)) (HO106.out) (fun k_ hk => trivial))))) (Reps.c2 (show Kd.FK k92 _ _ (⟨(⟨#[113]⟩ : ByteArray), y107⟩ : S92) [.string (⟨#[113]⟩ : ByteArray), .slice Ao9 y107.length co9] from (k92_mkF _ _ (⟨(⟨#[113]⟩ : ByteArray), y107⟩ : S92) (Kd.R_reads' (Kd.R_mono (ok' := (fun _ => True)) (HO109.out) (fun k_ hk => trivial))).2.1 (Kd.R_F (Kd.R_mono (ok' := (fun _ => True)) (HO109.out) (fun k_ hk => trivial))))) (Reps.none _ _)))); intro v111 w10 ho11 hb hg_ hnew_; clear hg_ hnew_; (first | rw [← Ny110.out] at ho11 | (simp only [Int.reduceToNat] at ho11; rw [← Ny110.out] at ho11)); have n0_ := Aside0.mk (Kd.N_lower ho11 (below_size (by repeat (first | (with_reducible first | exact HB.out | apply below_alloc | apply pw_below_drewN | apply below_drew1) | exact HB.out)))); have n1_ := Aside0.mk (below_step (by repeat (first | (with_reducible first | exact HB.out | apply below_alloc | apply pw_below_drewN | apply below_drew1) | exact HB.out)) hb); clear HB; clear HO106; clear HO109; have HO112 := n0_; have HB := n1_; clear n0_ n1_; clear hb ho11; obtain ⟨Ao12, co12, eo12⟩ := Kd.N_slice HO112.out; subst eo12) | ((with_reducible refine gate_callee (f := 54) rfl ?_); refine goesL_ (some 6) rfl rfl Try.func54 (by kernel_rfl) rfl #[.slice Ao12 y110.length co12] rfl (by (try simp only [List.map_toArray, List.map_cons, List.map_nil]); first | done | rfl | (simp only [List.length_drop, List.length_take]; rfl) | (refine congrArg (fun z_ => #[z_]) (congrArg (Value.int IntKind.u64) (Eq.symm (Go.Proofs.YtjfklfmfeghjnaaAid.wrap_len _ (by omega)))))) ?_; (with_reducible refine (sig_Check.calls k _ _ y110 t113 _ ?side1 ?side2 A1.out).mono ?_); (case side1 => repeat (first | exact (Kd.N_reads' HO112.out).2.2 | (with_reducible refine Kd.C_alloc ?_ _) | (with_reducible refine Kd.C_drewN ?_ _) | (with_reducible refine Kd.C_drew ?_))); (case side2 => exact (Kd.N_reads' HO112.out).2.1); rintro e w13 ⟨rfl, hb⟩; refine ⟨_, rfl, ?_⟩; have n0_ := Aside0.mk (Kd.N_below (by (with_reducible repeat (first | apply Kd.N_alloc | apply Kd.N_drewN | apply Kd.N_drew)); exact HO112.out) hb); have n1_ := Aside0.mk (below_step (by repeat (first | (with_reducible first | exact HB.out | apply below_alloc | apply pw_below_drewN | apply below_drew1) | exact HB.out)) hb); clear HO112; clear HB; have HO112 := n0_; have HB := n1_; clear n0_ n1_; (try clear hb); (try clear hb2); (try clear hk); (try clear hi)) | ((with_reducible refine gate_dst (N := 11) rfl ?_); (try (refine gate_guard (by rfl) ?_; dsimp only)); refine Kd.N_lit k92 _ 92 ?hg (N' := 11) ?hd (xs := ([(⟨(⟨#[112]⟩ : ByteArray), ([] : List Int)⟩ : S92), (⟨(⟨#[112]⟩ : ByteArray), ([] : List Int)⟩ : S92)] : List (S92))) (inner := [.string (⟨#[112]⟩ : ByteArray), .slice none 0 0, .string (⟨#[112]⟩ : ByteArray), .slice none 0 0]) (ok := (fun k_ => some k_ ≠ (.slice Ao12 y110.length co12 : Value).ownBlock)) (okp := (fun k_ => some k_ ≠ (.slice Ao12 y110.length co12 : Value).ownBlock)) ?hr ?hp (fun _ hk => hk) ((show ∀ k_, w13.heap.size ≤ k_ → (fun k_ => some k_ ≠ (.slice Ao12 y110.length co12 : Value).ownBlock) k_ from fun k_ hk => Kd.fresh' (Kd.N_lt (by (with_reducible repeat (first | apply Kd.N_alloc | apply Kd.N_drewN | apply Kd.N_drew)); exact HO112.out)) k_ hk) _ (Nat.le_refl _)) (Below.refl _ _) (Nat.le_refl _) (by simp) ?_; (case hd => rfl); (case hg => rfl); (case hr => first | (go_simp; done) | (go_simp; rfl)); (case hp => exact (Reps.c2 (show Kd.FK k92 _ _ (⟨(⟨#[112]⟩ : ByteArray), ([] : List Int)⟩ : S92) [.string (⟨#[112]⟩ : ByteArray), .slice none 0 0] from (k92_mkF _ _ (⟨(⟨#[112]⟩ : ByteArray), ([] : List Int)⟩ : S92) (Nat.le_refl _) (Kd.F_nil _ _ _))) (Reps.c2 (show Kd.FK k92 _ _ (⟨(⟨#[112]⟩ : ByteArray), ([] : List Int)⟩ : S92) [.string (⟨#[112]⟩ : ByteArray), .slice none 0 0] from (k92_mkF _ _ (⟨(⟨#[112]⟩ : ByteArray), ([] : List Int)⟩ : S92) (Nat.le_refl _) (Kd.F_nil _ _ _))) (Reps.none _ _)))); intro v115 w14 ho15 hb hg_ hnew_; clear hg_ hnew_; (first | rw [← Ny114.out] at ho15 | (simp only [Int.reduceToNat] at ho15; rw [← Ny114.out] at ho15)); have n0_ := Aside0.mk (Kd.N_elder' (by (with_reducible repeat (first | apply Kd.N_alloc | apply Kd.N_drewN | apply Kd.N_drew)); exact HO112.out) (Kd.N_base ho15) hb); have n1_ := Aside0.mk (Kd.N_lower ho15 (below_size (by repeat (first | (with_reducible first | exact HB.out | apply below_alloc | apply pw_below_drewN | apply below_drew1) | exact HB.out)))); have n2_ := Aside0.mk (below_step (by repeat (first | (with_reducible first | exact HB.out | apply below_alloc | apply pw_below_drewN | apply below_drew1) | exact HB.out)) hb); clear HO112; clear HB; have HO112 := n0_; have HO116 := n1_; have HB := n2_; clear n0_ n1_ n2_; clear hb ho15; obtain ⟨Ao16, co16, eo16⟩ := Kd.N_slice HO116.out; subst eo16) | (go_at_call 54; (with_reducible refine (sig_Check.calls k _ _ y114 t117 _ ?side1 ?side2 A3.out).mono ?_); (case side1 => repeat (first | exact (Kd.N_reads' HO116.out).2.2 | (with_reducible refine Kd.C_alloc ?_ _) | (with_reducible refine Kd.C_drewN ?_ _) | (with_reducible refine Kd.C_drew ?_))); (case side2 => exact (Kd.N_reads' HO116.out).2.1); rintro e w17 ⟨rfl, hb⟩; have n0_ := Aside0.mk (Kd.N_below (by (with_reducible repeat (first | apply Kd.N_alloc | apply Kd.N_drewN | apply Kd.N_drew)); exact HO112.out) hb); have n1_ := Aside0.mk (Kd.N_below (by (with_reducible repeat (first | apply Kd.N_alloc | apply Kd.N_drewN | apply Kd.N_drew)); exact HO116.out) hb); have n2_ := Aside0.mk (below_step (by repeat (first | (with_reducible first | exact HB.out | apply below_alloc | apply pw_below_drewN | apply below_drew1) | exact HB.out)) hb); clear HO112; clear HO116; clear HB; have HO112 := n0_; have HO116 := n1_; have HB := n2_; clear n0_ n1_ n2_; (try clear hb); (try clear hb2); (try clear hk); (try clear hi)))
    go_ret
    exact ⟨by first | rfl | (simp [errW_none, errW_some] <;> rfl) | (simp [*, errW_none, errW_some] <;> rfl), by repeat (first | (with_reducible first | exact HB.out | apply below_alloc | apply pw_below_drewN | apply below_drew1) | exact HB.out)⟩
  · rw [if_neg c2] at H
    have c2b0 : (t113 == 0) = false := beq_eq_false_iff_ne.mpr c2
    have c2b1 : (t113 != 0) = true := bne_iff_ne.mpr c2
    obtain rfl := Option.some.inj H
    go_enter Try.func51, Try.ntmps51
    go_wp2_with (first | ((with_reducible refine gate_dst (N := 1) rfl ?_); (try (refine gate_guard (by rfl) ?_; dsimp only)); refine Kd.R_lit (Kd.int .i64) _ 3 ?hg (N := 1) ?hd (xs := ([1] : List Int)) (inner := [.int .i64 1]) (ok := fun _ => True) (okp := fun _ => True) ?hr ?hp (fun _ hk => hk) trivial (Below.refl _ _) (Nat.le_refl _) (by simp) ?_; (case hd => rfl); (case hg => rfl); (case hr => first | (go_simp; done) | (go_simp; rfl)); (case hp => exact (Reps.one (show Kd.M (Kd.int .i64) _ _ _ 1 [.int .i64 1] from rfl) (Reps.none _ _))); intro v105 w18 ho19 hb hg_ hnew_; clear hg_ hnew_; (first | rw [← Ny104.out] at ho19 | (simp only [Int.reduceToNat] at ho19; rw [← Ny104.out] at ho19)); have n0_ := Aside0.mk (Kd.R_lower ho19 (below_size (by repeat (first | (with_reducible first | exact HB.out | apply below_alloc | apply pw_below_drewN | apply below_drew1) | exact HB.out)))); have n1_ := Aside0.mk (below_step (by repeat (first | (with_reducible first | exact HB.out | apply below_alloc | apply pw_below_drewN | apply below_drew1) | exact HB.out)) hb); clear HB; have HO106 := n0_; have HB := n1_; clear n0_ n1_; clear hb ho19; obtain ⟨Ao20, co20, eo20⟩ := Kd.R_slice HO106.out; subst eo20) | ((with_reducible refine gate_dst (N := 3) rfl ?_); (try (refine gate_guard (by rfl) ?_; dsimp only)); refine Kd.R_lit (Kd.int .i64) _ 3 ?hg (N := 3) ?hd (xs := ([1] : List Int)) (inner := [.int .i64 1]) (ok := fun _ => True) (okp := fun _ => True) ?hr ?hp (fun _ hk => hk) trivial (Below.refl _ _) (Nat.le_refl _) (by simp) ?_; (case hd => rfl); (case hg => rfl); (case hr => first | (go_simp; done) | (go_simp; rfl)); (case hp => exact (Reps.one (show Kd.M (Kd.int .i64) _ _ _ 1 [.int .i64 1] from rfl) (Reps.none _ _))); intro v108 w21 ho22 hb hg_ hnew_; clear hg_ hnew_; (first | rw [← Ny107.out] at ho22 | (simp only [Int.reduceToNat] at ho22; rw [← Ny107.out] at ho22)); have n0_ := Aside0.mk (Kd.R_elder' (by (with_reducible repeat (first | apply Kd.R_alloc | apply Kd.R_drewN | apply Kd.R_drew)); exact HO106.out) (Kd.R_base ho22) hb); have n1_ := Aside0.mk (Kd.R_lower (Kd.R_new' ho22 (Kd.R_lt (by (with_reducible repeat (first | apply Kd.R_alloc | apply Kd.R_drewN | apply Kd.R_drew)); exact HO106.out))) (below_size (by repeat (first | (with_reducible first | exact HB.out | apply below_alloc | apply pw_below_drewN | apply below_drew1) | exact HB.out)))); have n2_ := Aside0.mk (below_step (by repeat (first | (with_reducible first | exact HB.out | apply below_alloc | apply pw_below_drewN | apply below_drew1) | exact HB.out)) hb); clear HO106; clear HB; have HO106 := n0_; have HO109 := n1_; have HB := n2_; clear n0_ n1_ n2_; clear hb ho22; obtain ⟨Ao23, co23, eo23⟩ := Kd.R_slice HO109.out; subst eo23) | ((with_reducible refine gate_dst (N := 5) rfl ?_); (try (refine gate_guard (by rfl) ?_; dsimp only)); refine Kd.N_lit k92 _ 92 ?hg (N' := 5) ?hd (xs := ([(⟨(⟨#[112]⟩ : ByteArray), y104⟩ : S92), (⟨(⟨#[113]⟩ : ByteArray), y107⟩ : S92)] : List (S92))) (inner := [.string (⟨#[112]⟩ : ByteArray), .slice Ao20 y104.length co20, .string (⟨#[113]⟩ : ByteArray), .slice Ao23 y107.length co23]) (ok := (fun _ => True)) (okp := (fun _ => True)) ?hr ?hp (fun _ hk => hk) ((show ∀ k_, w21.heap.size ≤ k_ → (fun _ => True) k_ from fun k_ hk => trivial) _ (Nat.le_refl _)) (Below.refl _ _) (Nat.le_refl _) (by simp) ?_; (case hd => rfl); (case hg => rfl); (case hr => first | (go_simp; done) | (go_simp; rfl)); (case hp => exact (Reps.c2 (show Kd.FK k92 _ _ (⟨(⟨#[112]⟩ : ByteArray), y104⟩ : S92) [.string (⟨#[112]⟩ : ByteArray), .slice Ao20 y104.length co20] from (k92_mkF _ _ (⟨(⟨#[112]⟩ : ByteArray), y104⟩ : S92) (Kd.R_reads' (Kd.R_mono (ok' := (fun _ => True)) (HO106.out) (fun k_ hk => trivial))).2.1 (Kd.R_F (Kd.R_mono (ok' := (fun _ => True)) (HO106.out) (fun k_ hk => trivial))))) (Reps.c2 (show Kd.FK k92 _ _ (⟨(⟨#[113]⟩ : ByteArray), y107⟩ : S92) [.string (⟨#[113]⟩ : ByteArray), .slice Ao23 y107.length co23] from (k92_mkF _ _ (⟨(⟨#[113]⟩ : ByteArray), y107⟩ : S92) (Kd.R_reads' (Kd.R_mono (ok' := (fun _ => True)) (HO109.out) (fun k_ hk => trivial))).2.1 (Kd.R_F (Kd.R_mono (ok' := (fun _ => True)) (HO109.out) (fun k_ hk => trivial))))) (Reps.none _ _)))); intro v111 w24 ho25 hb hg_ hnew_; clear hg_ hnew_; (first | rw [← Ny110.out] at ho25 | (simp only [Int.reduceToNat] at ho25; rw [← Ny110.out] at ho25)); have n0_ := Aside0.mk (Kd.N_lower ho25 (below_size (by repeat (first | (with_reducible first | exact HB.out | apply below_alloc | apply pw_below_drewN | apply below_drew1) | exact HB.out)))); have n1_ := Aside0.mk (below_step (by repeat (first | (with_reducible first | exact HB.out | apply below_alloc | apply pw_below_drewN | apply below_drew1) | exact HB.out)) hb); clear HB; clear HO106; clear HO109; have HO112 := n0_; have HB := n1_; clear n0_ n1_; clear hb ho25; obtain ⟨Ao26, co26, eo26⟩ := Kd.N_slice HO112.out; subst eo26) | ((with_reducible refine gate_callee (f := 54) rfl ?_); refine goesL_ (some 6) rfl rfl Try.func54 (by kernel_rfl) rfl #[.slice Ao26 y110.length co26] rfl (by (try simp only [List.map_toArray, List.map_cons, List.map_nil]); first | done | rfl | (simp only [List.length_drop, List.length_take]; rfl) | (refine congrArg (fun z_ => #[z_]) (congrArg (Value.int IntKind.u64) (Eq.symm (Go.Proofs.YtjfklfmfeghjnaaAid.wrap_len _ (by omega)))))) ?_; (with_reducible refine (sig_Check.calls k _ _ y110 t113 _ ?side1 ?side2 A1.out).mono ?_); (case side1 => repeat (first | exact (Kd.N_reads' HO112.out).2.2 | (with_reducible refine Kd.C_alloc ?_ _) | (with_reducible refine Kd.C_drewN ?_ _) | (with_reducible refine Kd.C_drew ?_))); (case side2 => exact (Kd.N_reads' HO112.out).2.1); rintro e w27 ⟨rfl, hb⟩; refine ⟨_, rfl, ?_⟩; have n0_ := Aside0.mk (Kd.N_below (by (with_reducible repeat (first | apply Kd.N_alloc | apply Kd.N_drewN | apply Kd.N_drew)); exact HO112.out) hb); have n1_ := Aside0.mk (below_step (by repeat (first | (with_reducible first | exact HB.out | apply below_alloc | apply pw_below_drewN | apply below_drew1) | exact HB.out)) hb); clear HO112; clear HB; have HO112 := n0_; have HB := n1_; clear n0_ n1_; (try clear hb); (try clear hb2); (try clear hk); (try clear hi)))
    go_ret
    exact ⟨by first | rfl | (simp [errW_none, errW_some] <;> rfl) | (simp [*, errW_none, errW_some] <;> rfl), by repeat (first | (with_reducible first | exact HB.out | apply below_alloc | apply pw_below_drewN | apply below_drew1) | exact HB.out)⟩

/-! ### sig_Find: function 52 -/
def sig_Find.l0 : Nat → ByteArray → List (S92) → Int → Int → Option (Int × Bool)
  | 0, _, _, _, _ => none
  | k + 1, x1, x8, x9, x10 => if x10 < x9 then (if 0 ≤ x10 then (if x10 < (x8.length : Int) then (if ((((rd_T92 x8 x10).f0).toList) == x1.toList) = true then (some (x10, true)) else (sig_Find.l0 k x1 x8 x9 (wrap64 (x10 + 1)))) else (none)) else (none)) else (some (0, false))
def sig_Find.f (k : Nat) (l0 : List (S92)) (a1 : ByteArray) : Option (Int × Bool) := sig_Find.l0 k a1 l0 (l0.length : Int) 0
theorem sig_Find.mono_l : ∀ k, (∀ y0 y1 y2 y3, LeO (sig_Find.l0 k y0 y1 y2 y3) (sig_Find.l0 (k + 1) y0 y1 y2 y3))
  | 0 => fun _ _ _ _ r h => by simp [sig_Find.l0] at h
  | k + 1 => by
    have ih0 := sig_Find.mono_l k
    · intro y0 y1 y2 y3
      unfold sig_Find.l0
      repeat' first
      | (with_reducible exact ih0 _ _ _ _)
      | (with_reducible exact LeO.refl _)
      | (with_reducible exact LeO.none _)
      | (with_reducible refine LeO.ite ?_ ?_)
      | (with_reducible refine LeO.bind ?_ (fun _ => ?_))
      | exact ih0 _ _ _ _
      | exact LeO.none _
      | refine LeO.ite ?_ ?_
      | refine LeO.bind ?_ (fun _ => ?_)
theorem sig_Find.mono : ∀ a0 a1 k, LeO (sig_Find.f k a0 a1) (sig_Find.f (k + 1) a0 a1) := by
  intro a0 a1 k
  have ih0 := sig_Find.mono_l k
  unfold sig_Find.f
  repeat' first
      | (with_reducible exact ih0 _ _ _ _)
      | (with_reducible exact LeO.refl _)
      | (with_reducible exact LeO.none _)
      | (with_reducible refine LeO.ite ?_ ?_)
      | (with_reducible refine LeO.bind ?_ (fun _ => ?_))
      | exact ih0 _ _ _ _
      | exact LeO.none _
      | refine LeO.ite ?_ ?_
      | refine LeO.bind ?_ (fun _ => ?_)
set_option maxHeartbeats 8000000 in
set_option maxRecDepth 100000 in
theorem sig_Find.calls (k : Nat) (A0 : Option Addr) (c0 : Nat) (l0 : List (S92)) (a1 : ByteArray) (r1 : Int) (r2 : Bool) (w : World) (hr0 : Kd.C k92 w A0 l0.length l0) (hc0 : l0.length ≤ c0) (h : sig_Find.f k l0 a1 = some (r1, r2)) :
    Calls Try.prog 52 #[.slice A0 l0.length c0, .string a1] w fun e w' => e = .returned (.tuple #[.int .i64 r1, .bool r2]) ∧ Below w.heap.size w w' := by
  have hu92 := Try.underlying92
  have hu110 := Try.underlying110
  have HR0 := Aside0.mk hr0
  have HC0 := Aside0.mk hc0
  clear hr0 hc0
  have HB := Aside0.mk (Below.refl w.heap.size w)
  have H : (sig_Find.l0 k a1 l0 (l0.length : Int) 0) = some (r1, r2) := h
  clear h
  have H' := Aside0.mk H
  clear H
  go_enter Try.func52, Try.ntmps52
  go_wp2
  go_loopg [10] k (fun kq v10 w' => ∃ (x10_1 : Int), v10 = .int .i64 x10_1 ∧ Aside0 (sig_Find.l0 kq a1 l0 (l0.length : Int) x10_1 = some (r1, r2)) ∧ Aside0 (kq ≤ k) ∧ Aside0 (Below w.heap.size w w'))
  case atStart => exact ⟨(0), (by first | rfl | (simp; done) | (simp [*]; done)), H', ⟨Nat.le_refl _⟩, ⟨by repeat (first | (with_reducible first | exact HB.out | apply below_alloc | apply pw_below_drewN | apply below_drew1) | exact HB.out)⟩⟩
  case round =>
    clear H'
    try clear p2
    obtain ⟨x10_1, rfl, HA, HK1, HB⟩ := hrel
    cases gk with
    | zero => exact absurd HA.out (by simp [sig_Find.l0])
    | succ k1 =>
      have H := HA.out
      clear HA
      simp only [sig_Find.l0] at H
      by_cases c3 : x10_1 < (l0.length : Int)
      · rw [if_pos c3] at H
        have c3b0 : decide (x10_1 < (l0.length : Int)) = true := decide_eq_true c3
        clear c3
        by_cases c4 : 0 ≤ x10_1
        · rw [if_pos c4] at H
          have c4b0 : decide (0 ≤ x10_1) = true := decide_eq_true c4
          clear c4
          by_cases c5 : x10_1 < (l0.length : Int)
          · rw [if_pos c5] at H
            have c5b0 : decide (x10_1 < (l0.length : Int)) = true := decide_eq_true c5
            clear c5
            by_cases c6 : ((((rd_T92 l0 x10_1).f0).toList) == a1.toList) = true
            · rw [if_pos c6] at H
              have c6b0 : ((((rd_T92 l0 x10_1).f0).toList) == a1.toList) = true := c6
              (try (have c6b1 : decide ((((rd_T92 l0 x10_1).f0).toList) = a1.toList) = true := by simpa using c6))
              (try (have c6b2 : ((((rd_T92 l0 x10_1).f0).toList) == a1.toList) = true := by simpa using c6))
              clear c6
              simp only [Option.some.injEq, Prod.mk.injEq] at H
              obtain ⟨rfl, rfl⟩ := H
              have p118 : 0 ≤ (x10_1 : Int) := of_decide_eq_true (by first | (with_reducible assumption) | assumption)
              have q118 : x10_1 < (l0.length : Int) := of_decide_eq_true (by first | (with_reducible assumption) | assumption)
              obtain ⟨ad118, A118_1, c118_1, e118, hx118_0, hx118_1, hl118_1, hi118_1⟩ := at_T92 HR0.out x10_1 p118 q118
              cases e118
              replace hx118_0 := (HB.out.cell (World.block_lt_of_cell? w _ hx118_0)).trans hx118_0
              replace hx118_1 := (HB.out.cell (World.block_lt_of_cell? w _ hx118_1)).trans hx118_1
              have HR118_1 := Aside0.mk hi118_1
              have HC118_1 := Aside0.mk hl118_1
              clear hi118_1 hl118_1
              replace p118 := eq_true p118
              replace q118 := eq_true q118
              go_wp2_with (first | ((with_reducible refine gate_dst (N := 7) rfl ?_); refine box_event ?hg (N := 7) ?hd (cs := #[.string (⟨#[]⟩ : ByteArray), .slice none 0 0]) (t := 92) ?hr ?_; (case hd => rfl); (case hg => rfl); (case hr => first | (go_simp; done) | (go_simp; rfl)); intro gb119 hg w7 hbox hb; have n0_ := Aside0.mk (below_step (by repeat (first | (with_reducible first | exact HB.out | apply below_alloc | apply pw_below_drewN | apply below_drew1) | exact HB.out)) hb); have n1_ := Aside0.mk (hbox); have n2_ := Aside0.mk ((by rw [hg]; exact (below_size (by repeat (first | (with_reducible first | exact HB.out | apply below_alloc | apply pw_below_drewN | apply below_drew1) | exact HB.out))) : w.heap.size ≤ gb119)); have n3_ := Aside0.mk ((by rw [hg]; exact (below_size (by repeat (first | (with_reducible first | exact HB.out | apply below_alloc | apply pw_below_drewN | apply below_drew1) | exact HB.out))) : w.heap.size ≤ gb119)); clear HB; have HB := n0_; have BK119 := n1_; have GW119 := n2_; have GE119 := n3_; clear n0_ n1_ n2_ n3_; clear hb hbox hg; have hcz8_0 : w7.cell? ⟨gb119, 0, none⟩ = some (.string (⟨#[]⟩ : ByteArray)) := (blk_cell BK119.out 0).trans rfl; have hcz8_1 : w7.cell? ⟨gb119, 1, none⟩ = some (.slice none 0 0) := (blk_cell BK119.out 1).trans rfl; have hfz8_0 := blk_frozen BK119.out 0; have hfz8_1 := blk_frozen BK119.out 1))
              go_ret2
              exact ⟨by first | rfl | (simp [errW_none, errW_some] <;> rfl) | (simp [*, errW_none, errW_some] <;> rfl), by repeat (first | (with_reducible first | exact HB.out | apply below_alloc | apply pw_below_drewN | apply below_drew1 | refine below_set ?_ GE119.out) | exact HB.out)⟩
            · rw [if_neg c6] at H
              have c6b0 : ((((rd_T92 l0 x10_1).f0).toList) == a1.toList) = false := by simpa using c6
              (try (have c6b1 : decide ((((rd_T92 l0 x10_1).f0).toList) = a1.toList) = false := by simpa using c6))
              (try (have c6b2 : ((((rd_T92 l0 x10_1).f0).toList) == a1.toList) = false := by simpa using c6))
              (try (have c6b3 : ¬ ((((rd_T92 l0 x10_1).f0).toList) = a1.toList) := by simpa using c6))
              clear c6
              have H' := Aside0.mk H
              clear H
              have p118 : 0 ≤ (x10_1 : Int) := of_decide_eq_true (by first | (with_reducible assumption) | assumption)
              have q118 : x10_1 < (l0.length : Int) := of_decide_eq_true (by first | (with_reducible assumption) | assumption)
              obtain ⟨ad118, A118_1, c118_1, e118, hx118_0, hx118_1, hl118_1, hi118_1⟩ := at_T92 HR0.out x10_1 p118 q118
              cases e118
              replace hx118_0 := (HB.out.cell (World.block_lt_of_cell? w _ hx118_0)).trans hx118_0
              replace hx118_1 := (HB.out.cell (World.block_lt_of_cell? w _ hx118_1)).trans hx118_1
              have HR118_1 := Aside0.mk hi118_1
              have HC118_1 := Aside0.mk hl118_1
              clear hi118_1 hl118_1
              replace p118 := eq_true p118
              replace q118 := eq_true q118
              go_wp2_with (first | ((with_reducible refine gate_dst (N := 7) rfl ?_); refine box_event ?hg (N := 7) ?hd (cs := #[.string (⟨#[]⟩ : ByteArray), .slice none 0 0]) (t := 92) ?hr ?_; (case hd => rfl); (case hg => rfl); (case hr => first | (go_simp; done) | (go_simp; rfl)); intro gb119 hg w9 hbox hb; have n0_ := Aside0.mk (below_step (by repeat (first | (with_reducible first | exact HB.out | apply below_alloc | apply pw_below_drewN | apply below_drew1) | exact HB.out)) hb); have n1_ := Aside0.mk (hbox); have n2_ := Aside0.mk ((by rw [hg]; exact (below_size (by repeat (first | (with_reducible first | exact HB.out | apply below_alloc | apply pw_below_drewN | apply below_drew1) | exact HB.out))) : w.heap.size ≤ gb119)); have n3_ := Aside0.mk ((by rw [hg]; exact (below_size (by repeat (first | (with_reducible first | exact HB.out | apply below_alloc | apply pw_below_drewN | apply below_drew1) | exact HB.out))) : w.heap.size ≤ gb119)); clear HB; have HB := n0_; have BK119 := n1_; have GW119 := n2_; have GE119 := n3_; clear n0_ n1_ n2_ n3_; clear hb hbox hg; have hcz10_0 : w9.cell? ⟨gb119, 0, none⟩ = some (.string (⟨#[]⟩ : ByteArray)) := (blk_cell BK119.out 0).trans rfl; have hcz10_1 : w9.cell? ⟨gb119, 1, none⟩ = some (.slice none 0 0) := (blk_cell BK119.out 1).trans rfl; have hfz10_0 := blk_frozen BK119.out 0; have hfz10_1 := blk_frozen BK119.out 1))
              go_roundg k1
              case measure => have := HK1.out; omega
              case rel => exact ⟨(wrap64 (x10_1 + 1)), (by first | rfl | (simp; done) | (simp [*]; done)), H', ⟨by have := HK1.out; omega⟩, ⟨by repeat (first | (with_reducible first | exact HB.out | apply below_alloc | apply pw_below_drewN | apply below_drew1 | refine below_set ?_ GE119.out) | exact HB.out)⟩⟩
          · rw [if_neg c5] at H
            exact absurd H (by simp)
        · rw [if_neg c4] at H
          exact absurd H (by simp)
      · rw [if_neg c3] at H
        have c3b0 : decide (x10_1 < (l0.length : Int)) = false := decide_eq_false c3
        clear c3
        simp only [Option.some.injEq, Prod.mk.injEq] at H
        obtain ⟨rfl, rfl⟩ := H
        go_wp2
        go_ret2
        exact ⟨by first | rfl | (simp [errW_none, errW_some] <;> rfl) | (simp [*, errW_none, errW_some] <;> rfl), by repeat (first | (with_reducible first | exact HB.out | apply below_alloc | apply pw_below_drewN | apply below_drew1) | exact HB.out)⟩

/-! ### tachographref09_Find: function 53 -/
def tachographref09_Find.l0 : Nat → List (S92) → ByteArray → Int → Option (Int)
  | 0, _, _, _ => none
  | k + 1, x0, x1, x5 => if x5 < (x0.length : Int) then (if 0 ≤ x5 then (if ((rd_T92 x0 x5).f0).toList = x1.toList then (some x5) else (tachographref09_Find.l0 k x0 x1 (wrap64 (x5 + 1)))) else (none)) else (some (-1))
def tachographref09_Find.f (k : Nat) (l0 : List (S92)) (a1 : ByteArray) : Option (Int) := tachographref09_Find.l0 k l0 a1 0
theorem tachographref09_Find.mono_l : ∀ k, (∀ y0 y1 y2, LeO (tachographref09_Find.l0 k y0 y1 y2) (tachographref09_Find.l0 (k + 1) y0 y1 y2))
  | 0 => fun _ _ _ r h => by simp [tachographref09_Find.l0] at h
  | k + 1 => by
    have ih0 := tachographref09_Find.mono_l k
    · intro y0 y1 y2
      unfold tachographref09_Find.l0
      repeat' first
      | (with_reducible exact ih0 _ _ _)
      | (with_reducible exact LeO.refl _)
      | (with_reducible exact LeO.none _)
      | (with_reducible refine LeO.ite ?_ ?_)
      | (with_reducible refine LeO.bind ?_ (fun _ => ?_))
      | exact ih0 _ _ _
      | exact LeO.none _
      | refine LeO.ite ?_ ?_
      | refine LeO.bind ?_ (fun _ => ?_)
theorem tachographref09_Find.mono : ∀ a0 a1 k, LeO (tachographref09_Find.f k a0 a1) (tachographref09_Find.f (k + 1) a0 a1) := by
  intro a0 a1 k
  have ih0 := tachographref09_Find.mono_l k
  unfold tachographref09_Find.f
  repeat' first
      | (with_reducible exact ih0 _ _ _)
      | (with_reducible exact LeO.refl _)
      | (with_reducible exact LeO.none _)
      | (with_reducible refine LeO.ite ?_ ?_)
      | (with_reducible refine LeO.bind ?_ (fun _ => ?_))
      | exact ih0 _ _ _
      | exact LeO.none _
      | refine LeO.ite ?_ ?_
      | refine LeO.bind ?_ (fun _ => ?_)
set_option maxHeartbeats 8000000 in
set_option maxRecDepth 100000 in
theorem tachographref09_Find.calls (k : Nat) (A0 : Option Addr) (c0 : Nat) (l0 : List (S92)) (a1 : ByteArray) (r : Int) (w : World) (hr0 : Kd.C k92 w A0 l0.length l0) (hc0 : l0.length ≤ c0) (h : tachographref09_Find.f k l0 a1 = some r) :
    Calls Try.prog 53 #[.slice A0 l0.length c0, .string a1] w fun e w' => e = .returned (.int .i64 r) ∧ Drawn0 w w' := by
  have HR0 := Aside0.mk hr0
  have HC0 := Aside0.mk hc0
  clear hr0 hc0
  have H : (tachographref09_Find.l0 k l0 a1 0) = some r := h
  clear h
  have H' := Aside0.mk H
  clear H
  go_enter Try.func53, Try.ntmps53
  go_wp2
  go_loopg [5] k (fun kq v5 w' => ∃ (x5_1 : Int), v5 = .int .i64 x5_1 ∧ Aside0 (tachographref09_Find.l0 kq l0 a1 x5_1 = some r) ∧ Aside0 (kq ≤ k) ∧ Drawn0 w w')
  case atStart => exact ⟨(0), (by first | rfl | (simp; done) | (simp [*]; done)), H', ⟨Nat.le_refl _⟩, by repeat (first | exact Drawn0.refl _ | apply Drawn0.step)⟩
  case round =>
    clear H'
    try clear p2
    obtain ⟨x5_1, rfl, HA, HK1, ⟨m1, rfl⟩⟩ := hrel
    cases gk with
    | zero => exact absurd HA.out (by simp [tachographref09_Find.l0])
    | succ k1 =>
      have H := HA.out
      clear HA
      simp only [tachographref09_Find.l0] at H
      by_cases c3 : x5_1 < (l0.length : Int)
      · rw [if_pos c3] at H
        have c3b0 : decide (x5_1 < (l0.length : Int)) = true := decide_eq_true c3
        clear c3
        by_cases c4 : 0 ≤ x5_1
        · rw [if_pos c4] at H
          have c4b0 : decide (0 ≤ x5_1) = true := decide_eq_true c4
          clear c4
          by_cases c5 : ((rd_T92 l0 x5_1).f0).toList = a1.toList
          · rw [if_pos c5] at H
            have c5b0 : (((rd_T92 l0 x5_1).f0).toList == a1.toList) = true := beq_iff_eq.mpr c5
            have c5b1 : (((rd_T92 l0 x5_1).f0).toList != a1.toList) = false := bne_eq_false_iff_eq.mpr c5
            clear c5
            obtain rfl := Option.some.inj H
            have p120 : 0 ≤ (x5_1 : Int) := of_decide_eq_true (by first | (with_reducible assumption) | assumption)
            have q120 : x5_1 < (l0.length : Int) := of_decide_eq_true (by first | (with_reducible assumption) | assumption)
            obtain ⟨ad120, A120_1, c120_1, e120, hx120_0, hx120_1, hl120_1, hi120_1⟩ := at_T92 HR0.out x5_1 p120 q120
            cases e120
            have HR120_1 := Aside0.mk hi120_1
            have HC120_1 := Aside0.mk hl120_1
            clear hi120_1 hl120_1
            replace p120 := eq_true p120
            replace q120 := eq_true q120
            go_wp2
            go_ret
            exact ⟨by first | rfl | (simp; done) | (simp [*]; done), by repeat (first | exact Drawn0.refl _ | apply Drawn0.step)⟩
          · rw [if_neg c5] at H
            have c5b0 : (((rd_T92 l0 x5_1).f0).toList == a1.toList) = false := beq_eq_false_iff_ne.mpr c5
            have c5b1 : (((rd_T92 l0 x5_1).f0).toList != a1.toList) = true := bne_iff_ne.mpr c5
            have H' := Aside0.mk H
            clear H
            have p120 : 0 ≤ (x5_1 : Int) := of_decide_eq_true (by first | (with_reducible assumption) | assumption)
            have q120 : x5_1 < (l0.length : Int) := of_decide_eq_true (by first | (with_reducible assumption) | assumption)
            obtain ⟨ad120, A120_1, c120_1, e120, hx120_0, hx120_1, hl120_1, hi120_1⟩ := at_T92 HR0.out x5_1 p120 q120
            cases e120
            have HR120_1 := Aside0.mk hi120_1
            have HC120_1 := Aside0.mk hl120_1
            clear hi120_1 hl120_1
            replace p120 := eq_true p120
            replace q120 := eq_true q120
            go_wp2
            go_roundg k1
            case measure => have := HK1.out; omega
            case rel => exact ⟨(wrap64 (x5_1 + 1)), (by first | rfl | (simp; done) | (simp [*]; done)), H', ⟨by have := HK1.out; omega⟩, by repeat (first | exact Drawn0.refl _ | apply Drawn0.step)⟩
        · rw [if_neg c4] at H
          exact absurd H (by simp)
      · rw [if_neg c3] at H
        have c3b0 : decide (x5_1 < (l0.length : Int)) = false := decide_eq_false c3
        clear c3
        obtain rfl := Option.some.inj H
        go_wp2
        go_ret
        exact ⟨by first | rfl | (simp; done) | (simp [*]; done), by repeat (first | exact Drawn0.refl _ | apply Drawn0.step)⟩

/-! ### tachographref09_in: function 71 -/
def tachographref09_in.f (a0 : Int) (a1 : Int) (a2 : Int) : Option (Bool) := if a0 ≥ a1 then (some (decide (a0 ≤ a2))) else (some false)
set_option maxHeartbeats 8000000 in
set_option maxRecDepth 100000 in
theorem tachographref09_in.calls (a0 : Int) (a1 : Int) (a2 : Int) (r : Bool) (w : World) (h : tachographref09_in.f a0 a1 a2 = some r) :
    Calls Try.prog 71 #[.int .u8 a0, .int .u8 a1, .int .u8 a2] w fun e w' => e = .returned (.bool r) ∧ Drawn0 w w' := by
  have H : (if a0 ≥ a1 then (some (decide (a0 ≤ a2))) else (some false)) = some r := h
  clear h
  by_cases c4 : a0 ≥ a1
  · rw [if_pos c4] at H
    have c4b0 : decide (a1 ≤ a0) = true := decide_eq_true c4
    clear c4
    obtain rfl := Option.some.inj H
    go_enter Try.func71, Try.ntmps71
    go_wp2
    go_ret
    exact ⟨by first | rfl | (simp; done) | (simp [*]; done), by repeat (first | exact Drawn0.refl _ | apply Drawn0.step)⟩
  · rw [if_neg c4] at H
    have c4b0 : decide (a1 ≤ a0) = false := decide_eq_false c4
    clear c4
    obtain rfl := Option.some.inj H
    go_enter Try.func71, Try.ntmps71
    go_wp2
    go_ret
    exact ⟨by first | rfl | (simp; done) | (simp [*]; done), by repeat (first | exact Drawn0.refl _ | apply Drawn0.step)⟩

end Go.Proofs.Ytjfklfmfeghjnaa.PS
