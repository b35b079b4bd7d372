-- Contracts of Go functions, each with its plain Lean function: written by wip/tools/myprint.py of this work (the kit's print, with contracts proved by hand spliced in).
import Derived.Test.YtjfklfmfeghjnabPTx0
import Derived.Test.YtjfklfmfeghjnabPTx2
import Derived.Test.YtjfklfmfeghjnabPTx4
import Derived.Test.YtjfklfmfeghjnabPTx5
import Derived.Test.YtjfklfmfeghjnabPTx6
import Derived.Test.YtjfklfmfeghjnabPTx7
namespace Go.Proofs.Ytjfklfmfeghjnab.PT
open Go.RowKit Go.Proofs.YtjfklfmfeghjnabW.PrintWords Go.Proofs.YtjfklfmfeghjnabW.PrintLast Go.Proofs.YtjfklfmfeghjnabW.PrintMore
attribute [local go_sem] max2_int min2_int max_two min_two max_three min_three max_four min_four   -- for this text's walks alone
set_option linter.unusedVariables false
set_option linter.unusedSimpArgs false

/-! ### tachographlaw12_TraceSame: function 7 -/
mutual
def tachographlaw12_TraceSame.j0 : Nat → List (S44) → List (S44) → Bool → Option (Bool)
  | 0, _, _, _ => none
  | k + 1, x0, x1, x15 => if x15 = true then ((tachographlaw12_fixed.f k).bind fun t171 => (some t171)) else ((trace_Clone.f k x0).bind fun t172 => ((trace_Clone.f k x0).bind fun t175 => ((trace_Same.f k x0 x1).bind fun t178 => ((tachographref12_Same.f k x0 x1).bind fun t179 => (if (t178 != t179) = true then (tachographlaw12_TraceSame.j1 k x0 t175 true) else ((trace_Same.f k x0 t172).bind fun t180 => (if t180 = true then ((tachographref12_Same.f k x0 t172).bind fun t181 => (tachographlaw12_TraceSame.j1 k x0 t175 (!t181))) else (tachographlaw12_TraceSame.j1 k x0 t175 true))))))))
def tachographlaw12_TraceSame.j1 : Nat → List (S44) → List (S44) → Bool → Option (Bool)
  | 0, _, _, _ => none
  | k + 1, x0, x6, x39 => if x39 = true then (some false) else ((tachographlaw12_fixed.f k).bind fun t182 => (if t182 = true then ((tachographref12_Same.f k x0 x6).bind fun t183 => (some t183)) else (some false)))
end
def tachographlaw12_TraceSame.f (k : Nat) (l0 : List (S44)) (l1 : List (S44)) : Option (Bool) := (tachographlaw12_Great.f k l0 3000).bind fun t169 => (if t169 = true then (tachographlaw12_TraceSame.j0 k l0 l1 true) else ((tachographlaw12_Great.f k l1 3000).bind fun t170 => (tachographlaw12_TraceSame.j0 k l0 l1 t170)))
theorem tachographlaw12_TraceSame.mono_l : ∀ k, (∀ y0 y1 y2, LeO (tachographlaw12_TraceSame.j0 k y0 y1 y2) (tachographlaw12_TraceSame.j0 (k + 1) y0 y1 y2)) ∧ (∀ y0 y1 y2, LeO (tachographlaw12_TraceSame.j1 k y0 y1 y2) (tachographlaw12_TraceSame.j1 (k + 1) y0 y1 y2))
  | 0 => ⟨fun _ _ _ r h => by simp [tachographlaw12_TraceSame.j0] at h, fun _ _ _ r h => by simp [tachographlaw12_TraceSame.j1] at h⟩
  | k + 1 => by
    obtain ⟨ih0, ih1⟩ := tachographlaw12_TraceSame.mono_l k
    refine ⟨?_, ?_⟩
    · intro y0 y1 y2
      unfold tachographlaw12_TraceSame.j0
      repeat' first
      | (with_reducible exact ih0 _ _ _)
      | (with_reducible exact ih1 _ _ _)
      | (with_reducible exact tachographlaw12_Great.mono _ _ _)
      | (with_reducible exact tachographlaw12_fixed.mono _)
      | (with_reducible exact tachographref12_Same.mono _ _ _)
      | (with_reducible exact trace_Clone.mono _ _)
      | (with_reducible exact trace_Same.mono _ _ _)
      | (with_reducible exact LeO.refl _)
      | (with_reducible exact LeO.none _)
      | (with_reducible refine LeO.ite ?_ ?_)
      | (with_reducible refine LeO.bind ?_ (fun _ => ?_))
      | exact ih0 _ _ _
      | exact ih1 _ _ _
      | exact tachographlaw12_Great.mono _ _ _
      | exact tachographlaw12_fixed.mono _
      | exact tachographref12_Same.mono _ _ _
      | exact trace_Clone.mono _ _
      | exact trace_Same.mono _ _ _
      | exact LeO.none _
      | refine LeO.ite ?_ ?_
      | refine LeO.bind ?_ (fun _ => ?_)
    · intro y0 y1 y2
      unfold tachographlaw12_TraceSame.j1
      repeat' first
      | (with_reducible exact ih0 _ _ _)
      | (with_reducible exact ih1 _ _ _)
      | (with_reducible exact tachographlaw12_Great.mono _ _ _)
      | (with_reducible exact tachographlaw12_fixed.mono _)
      | (with_reducible exact tachographref12_Same.mono _ _ _)
      | (with_reducible exact trace_Clone.mono _ _)
      | (with_reducible exact trace_Same.mono _ _ _)
      | (with_reducible exact LeO.refl _)
      | (with_reducible exact LeO.none _)
      | (with_reducible refine LeO.ite ?_ ?_)
      | (with_reducible refine LeO.bind ?_ (fun _ => ?_))
      | exact ih0 _ _ _
      | exact ih1 _ _ _
      | exact tachographlaw12_Great.mono _ _ _
      | exact tachographlaw12_fixed.mono _
      | exact tachographref12_Same.mono _ _ _
      | exact trace_Clone.mono _ _
      | exact trace_Same.mono _ _ _
      | exact LeO.none _
      | refine LeO.ite ?_ ?_
      | refine LeO.bind ?_ (fun _ => ?_)
theorem tachographlaw12_TraceSame.mono : ∀ a0 a1 k, LeO (tachographlaw12_TraceSame.f k a0 a1) (tachographlaw12_TraceSame.f (k + 1) a0 a1) := by
  intro a0 a1 k
  obtain ⟨ih0, ih1⟩ := tachographlaw12_TraceSame.mono_l k
  unfold tachographlaw12_TraceSame.f
  repeat' first
      | (with_reducible exact ih0 _ _ _)
      | (with_reducible exact ih1 _ _ _)
      | (with_reducible exact tachographlaw12_Great.mono _ _ _)
      | (with_reducible exact tachographlaw12_fixed.mono _)
      | (with_reducible exact tachographref12_Same.mono _ _ _)
      | (with_reducible exact trace_Clone.mono _ _)
      | (with_reducible exact trace_Same.mono _ _ _)
      | (with_reducible exact LeO.refl _)
      | (with_reducible exact LeO.none _)
      | (with_reducible refine LeO.ite ?_ ?_)
      | (with_reducible refine LeO.bind ?_ (fun _ => ?_))
      | exact ih0 _ _ _
      | exact ih1 _ _ _
      | exact tachographlaw12_Great.mono _ _ _
      | exact tachographlaw12_fixed.mono _
      | exact tachographref12_Same.mono _ _ _
      | exact trace_Clone.mono _ _
      | exact trace_Same.mono _ _ _
      | exact LeO.none _
      | refine LeO.ite ?_ ?_
      | refine LeO.bind ?_ (fun _ => ?_)
theorem ts_b44 {w : World} {base : Nat} {P : Nat → Prop} {v : Value} {xs : List S44} (h : Kd.R k44 44 w base P v xs) (i : Int) (h0 : 0 ≤ i) (h1 : i < xs.length) :
    ∃ g cap A1 c1 y, v = .slice (some ⟨g, 0, none⟩) xs.length cap ∧ P g ∧ w.cell? ⟨g, i.toNat * 2, none⟩ = some (.int .u64 y) ∧ w.cell? ⟨g, i.toNat * 2 + 1, none⟩ = some (.slice A1 (rd_T44 xs i).f1.length c1) ∧ Kd.R k61 61 w base P (.slice A1 (rd_T44 xs i).f1.length c1) (rd_T44 xs i).f1 := by
  obtain ⟨g, cap, c, rfl, hg, hM, hc⟩ := Go.Proofs.YtjfklfmfeghjnabAid.row_at h z44 i h0 h1
  obtain ⟨v1, rfl, hR⟩ := k44_openM hM
  obtain ⟨A1, c1, rfl⟩ := Kd.R_slice hR
  exact ⟨g, cap, A1, c1, _, rfl, hg, hc 0 _ rfl, hc 1 _ rfl, hR⟩
theorem ts_b61 {w : World} {base : Nat} {P : Nat → Prop} {v : Value} {xs : List S61} (h : Kd.R k61 61 w base P v xs) (i : Int) (h0 : 0 ≤ i) (h1 : i < xs.length) :
    ∃ g cap A1 c1 y, v = .slice (some ⟨g, 0, none⟩) xs.length cap ∧ P g ∧ w.cell? ⟨g, i.toNat * 2, none⟩ = some (.int .i64 y) ∧ w.cell? ⟨g, i.toNat * 2 + 1, none⟩ = some (.slice A1 (rd_T61 xs i).f1.length c1) ∧ Kd.R k70 70 w base P (.slice A1 (rd_T61 xs i).f1.length c1) (rd_T61 xs i).f1 := by
  obtain ⟨g, cap, c, rfl, hg, hM, hc⟩ := Go.Proofs.YtjfklfmfeghjnabAid.row_at h z61 i h0 h1
  obtain ⟨v1, rfl, hR⟩ := k61_openM hM
  obtain ⟨A1, c1, rfl⟩ := Kd.R_slice hR
  exact ⟨g, cap, A1, c1, _, rfl, hg, hc 0 _ rfl, hc 1 _ rfl, hR⟩
theorem ts_b70 {w : World} {base : Nat} {P : Nat → Prop} {v : Value} {xs : List S70} (h : Kd.R k70 70 w base P v xs) (i : Int) (h0 : 0 ≤ i) (h1 : i < xs.length) :
    ∃ g cap y, v = .slice (some ⟨g, 0, none⟩) xs.length cap ∧ P g ∧ w.cell? ⟨g, i.toNat * 3 + 1, none⟩ = some (.int .i64 y) := by
  obtain ⟨g, cap, c, rfl, hg, hM, hc⟩ := Go.Proofs.YtjfklfmfeghjnabAid.row_at h z70 i h0 h1
  obtain rfl := k70_openM hM
  exact ⟨g, cap, _, rfl, hg, hc 1 _ rfl⟩
set_option maxHeartbeats 8000000 in
set_option maxRecDepth 100000 in
theorem tachographlaw12_TraceSame.calls (k : Nat) (A0 : Option Addr) (c0 : Nat) (l0 : List (S44)) (A1 : Option Addr) (c1 : Nat) (l1 : List (S44)) (r : Bool) (w : World) (hr0 : Kd.C k44 w A0 l0.length l0) (hc0 : l0.length ≤ c0) (hr1 : Kd.C k44 w A1 l1.length l1) (hc1 : l1.length ≤ c1) (h : tachographlaw12_TraceSame.f k l0 l1 = some r) :
    Calls Try.prog 7 #[.slice A0 l0.length c0, .slice A1 l1.length c1] w fun e w' => e = .returned (.bool r) ∧ Below w.heap.size w w' := by
  have HR0 := Aside0.mk hr0
  have HC0 := Aside0.mk hc0
  clear hr0 hc0
  have HR1 := Aside0.mk hr1
  have HC1 := Aside0.mk hc1
  clear hr1 hc1
  have HB := Aside0.mk (Below.refl w.heap.size w)
  have H : ((tachographlaw12_Great.f k l0 3000).bind fun t169 => (if t169 = true then (tachographlaw12_TraceSame.j0 k l0 l1 true) else ((tachographlaw12_Great.f k l1 3000).bind fun t170 => (tachographlaw12_TraceSame.j0 k l0 l1 t170)))) = some r := h
  clear h
  have HC3 := Aside0.mk H
  clear H
  go_enter Try.func7, Try.ntmps7
  go_upto_region 1 with (fail)
  go_cut [15] (fun v15 wc => ∃ (kq : Nat) (x15_2 : Bool), v15 = .bool x15_2 ∧ Aside0 (tachographlaw12_TraceSame.j0 kq l0 l1 x15_2 = some r) ∧ Aside0 (kq ≤ k) ∧ Aside0 (Below w.heap.size w wc))
  case first =>
    have H := HC3.out
    clear HC3
    replace H := Option.bind_eq_some_iff.mp H
    obtain ⟨t169, A40, H⟩ := H
    replace H : (if t169 = true then (tachographlaw12_TraceSame.j0 k l0 l1 true) else ((tachographlaw12_Great.f k l1 3000).bind fun t170 => (tachographlaw12_TraceSame.j0 k l0 l1 t170))) = some r := H
    have A4 := Aside0.mk A40
    clear A40
    by_cases c5 : t169 = true
    · subst c5
      have H1 : (tachographlaw12_TraceSame.j0 k l0 l1 true) = some r := by rw [if_pos rfl] at H; exact H
      clear H
      have H := H1
      clear H1
      have H' := Aside0.mk H
      clear H
      go_wp2_with (first | ((with_reducible refine gate_callee (f := 24) rfl ?_); refine goesL_ (some 11) rfl rfl Try.func24 (by kernel_rfl) rfl #[.slice A0 l0.length c0, .int .i64 3000] rfl (by (try simp only [List.map_toArray, List.map_cons, List.map_nil]); first | done | rfl | (simp only [List.length_drop, List.length_take]; rfl) | (refine congrArg (fun z_ => #[z_]) (congrArg (Value.int IntKind.u64) (Eq.symm (Go.Proofs.YtjfklfmfeghjnabAid.wrap_len _ (by omega)))))) ?_; (with_reducible refine (tachographlaw12_Great.calls k _ _ l0 3000 true _ ?side1 ?side2 A4.out).mono ?_); (case side1 => repeat (first | exact (Kd.C_below HR0.out HB.out) | (with_reducible refine Kd.C_alloc ?_ _) | (with_reducible refine Kd.C_drewN ?_ _) | (with_reducible refine Kd.C_drew ?_))); (case side2 => exact HC0.out); rintro e w6 ⟨rfl, hb⟩; refine ⟨_, rfl, ?_⟩; have n0_ := Aside0.mk (below_step (by repeat (first | (with_reducible first | exact HB.out | apply below_alloc | apply pw_below_drewN | apply below_drew1) | exact HB.out)) hb); clear HB; have HB := n0_; clear n0_; (try clear hb); (try clear hb2); (try clear hk); (try clear hi)))
      go_meet
      case rel => exact ⟨_, (true), (by first | rfl | (simp; done) | (simp [*]; done)), H', ⟨by first | omega | exact Nat.le_refl _⟩, ⟨by repeat (first | (with_reducible first | exact HB.out | apply below_alloc | apply pw_below_drewN | apply below_drew1) | exact HB.out)⟩⟩
    · replace c5 := Bool.eq_false_iff.mpr c5
      subst c5
      have H1 : ((tachographlaw12_Great.f k l1 3000).bind fun t170 => (tachographlaw12_TraceSame.j0 k l0 l1 t170)) = some r := by rw [if_neg (show ¬ (false = true) by decide)] at H; exact H
      clear H
      have H := H1
      clear H1
      replace H := Option.bind_eq_some_iff.mp H
      obtain ⟨t170, A70, H⟩ := H
      replace H : (tachographlaw12_TraceSame.j0 k l0 l1 t170) = some r := H
      have A7 := Aside0.mk A70
      clear A70
      have H' := Aside0.mk H
      clear H
      go_wp2_with (first | ((with_reducible refine gate_callee (f := 24) rfl ?_); refine goesL_ (some 11) rfl rfl Try.func24 (by kernel_rfl) rfl #[.slice A0 l0.length c0, .int .i64 3000] rfl (by (try simp only [List.map_toArray, List.map_cons, List.map_nil]); first | done | rfl | (simp only [List.length_drop, List.length_take]; rfl) | (refine congrArg (fun z_ => #[z_]) (congrArg (Value.int IntKind.u64) (Eq.symm (Go.Proofs.YtjfklfmfeghjnabAid.wrap_len _ (by omega)))))) ?_; (with_reducible refine (tachographlaw12_Great.calls k _ _ l0 3000 false _ ?side1 ?side2 A4.out).mono ?_); (case side1 => repeat (first | exact (Kd.C_below HR0.out HB.out) | (with_reducible refine Kd.C_alloc ?_ _) | (with_reducible refine Kd.C_drewN ?_ _) | (with_reducible refine Kd.C_drew ?_))); (case side2 => exact HC0.out); rintro e w8 ⟨rfl, hb⟩; refine ⟨_, rfl, ?_⟩; have n0_ := Aside0.mk (below_step (by repeat (first | (with_reducible first | exact HB.out | apply below_alloc | apply pw_below_drewN | apply below_drew1) | exact HB.out)) hb); clear HB; have HB := n0_; clear n0_; (try clear hb); (try clear hb2); (try clear hk); (try clear hi)) | (go_at_call 24; (with_reducible refine (tachographlaw12_Great.calls k _ _ l1 3000 t170 _ ?side1 ?side2 A7.out).mono ?_); (case side1 => repeat (first | exact (Kd.C_below HR1.out HB.out) | (with_reducible refine Kd.C_alloc ?_ _) | (with_reducible refine Kd.C_drewN ?_ _) | (with_reducible refine Kd.C_drew ?_))); (case side2 => exact HC1.out); rintro e w9 ⟨rfl, hb⟩; have n0_ := Aside0.mk (below_step (by repeat (first | (with_reducible first | exact HB.out | apply below_alloc | apply pw_below_drewN | apply below_drew1) | exact HB.out)) hb); clear HB; have HB := n0_; clear n0_; (try clear hb); (try clear hb2); (try clear hk); (try clear hi)))
      go_meet
      case rel => exact ⟨_, (t170), (by first | rfl | (simp; done) | (simp [*]; done)), H', ⟨by first | omega | exact Nat.le_refl _⟩, ⟨by repeat (first | (with_reducible first | exact HB.out | apply below_alloc | apply pw_below_drewN | apply below_drew1) | exact HB.out)⟩⟩
  case rest =>
    clear HC3
    try clear c1
    try clear c2
    try clear p2
    try clear c5
    try clear c7
    obtain ⟨kq, x15_2, rfl, HA, HJ2, HB⟩ := hcut
    cases kq with
    | zero => exact absurd HA.out (by simp [tachographlaw12_TraceSame.j0])
    | succ kj2 =>
      have H := HA.out
      clear HA
      simp only [tachographlaw12_TraceSame.j0] at H
      by_cases c10 : x15_2 = true
      · subst c10
        have H1 : ((tachographlaw12_fixed.f kj2).bind fun t171 => (some t171)) = some r := by rw [if_pos rfl] at H; exact H
        clear H
        have H := H1
        clear H1
        replace H := Option.bind_eq_some_iff.mp H
        obtain ⟨t171, A110, H⟩ := H
        replace H : (some t171) = some r := H
        have A11 := Aside0.mk A110
        clear A110
        obtain rfl := Option.some.inj H
        go_wp2_with (first | ((with_reducible refine gate_callee (f := 30) rfl ?_); refine goesL_ (some 16) rfl rfl Try.func30 (by kernel_rfl) rfl #[] rfl (by (try simp only [List.map_toArray, List.map_cons, List.map_nil]); first | done | rfl | (simp only [List.length_drop, List.length_take]; rfl) | (refine congrArg (fun z_ => #[z_]) (congrArg (Value.int IntKind.u64) (Eq.symm (Go.Proofs.YtjfklfmfeghjnabAid.wrap_len _ (by omega)))))) ?_; (with_reducible refine (tachographlaw12_fixed.calls kj2  t171 _ A11.out).mono ?_); rintro e w12 ⟨rfl, hb⟩; refine ⟨_, rfl, ?_⟩; have n0_ := Aside0.mk (below_step (by repeat (first | (with_reducible first | exact HB.out | apply below_alloc | apply pw_below_drewN | apply below_drew1) | exact HB.out)) hb); clear HB; have HB := n0_; clear n0_; (try clear hb); (try clear hb2); (try clear hk); (try clear hi)))
        go_ret
        exact ⟨by first | rfl | (simp [errW_none, errW_some] <;> rfl) | (simp [*, errW_none, errW_some] <;> rfl), by repeat (first | (with_reducible first | exact HB.out | apply below_alloc | apply pw_below_drewN | apply below_drew1) | exact HB.out)⟩
      · replace c10 := Bool.eq_false_iff.mpr c10
        subst c10
        have H1 : ((trace_Clone.f kj2 l0).bind fun t172 => ((trace_Clone.f kj2 l0).bind fun t175 => ((trace_Same.f kj2 l0 l1).bind fun t178 => ((tachographref12_Same.f kj2 l0 l1).bind fun t179 => (if (t178 != t179) = true then (tachographlaw12_TraceSame.j1 kj2 l0 t175 true) else ((trace_Same.f kj2 l0 t172).bind fun t180 => (if t180 = true then ((tachographref12_Same.f kj2 l0 t172).bind fun t181 => (tachographlaw12_TraceSame.j1 kj2 l0 t175 (!t181))) else (tachographlaw12_TraceSame.j1 kj2 l0 t175 true)))))))) = some r := by rw [if_neg (show ¬ (false = true) by decide)] at H; exact H
        clear H
        have H := H1
        clear H1
        replace H := Option.bind_eq_some_iff.mp H
        obtain ⟨t172, A130, H⟩ := H
        replace H : ((trace_Clone.f kj2 l0).bind fun t175 => ((trace_Same.f kj2 l0 l1).bind fun t178 => ((tachographref12_Same.f kj2 l0 l1).bind fun t179 => (if (t178 != t179) = true then (tachographlaw12_TraceSame.j1 kj2 l0 t175 true) else ((trace_Same.f kj2 l0 t172).bind fun t180 => (if t180 = true then ((tachographref12_Same.f kj2 l0 t172).bind fun t181 => (tachographlaw12_TraceSame.j1 kj2 l0 t175 (!t181))) else (tachographlaw12_TraceSame.j1 kj2 l0 t175 true))))))) = some r := H
        have A13 := Aside0.mk A130
        clear A130
        replace H := Option.bind_eq_some_iff.mp H
        obtain ⟨t175, A140, H⟩ := H
        replace H : ((trace_Same.f kj2 l0 l1).bind fun t178 => ((tachographref12_Same.f kj2 l0 l1).bind fun t179 => (if (t178 != t179) = true then (tachographlaw12_TraceSame.j1 kj2 l0 t175 true) else ((trace_Same.f kj2 l0 t172).bind fun t180 => (if t180 = true then ((tachographref12_Same.f kj2 l0 t172).bind fun t181 => (tachographlaw12_TraceSame.j1 kj2 l0 t175 (!t181))) else (tachographlaw12_TraceSame.j1 kj2 l0 t175 true)))))) = some r := H
        have A14 := Aside0.mk A140
        clear A140
        have HC15 := Aside0.mk H
        clear H
        go_upto_region 4 with (first | ((with_reducible refine gate_callee (f := 37) rfl ?_); refine goesL_ (some 18) rfl rfl Try.func37 (by kernel_rfl) rfl #[.slice A0 l0.length c0] rfl (by (try simp only [List.map_toArray, List.map_cons, List.map_nil]); first | done | rfl | (simp only [List.length_drop, List.length_take]; rfl) | (refine congrArg (fun z_ => #[z_]) (congrArg (Value.int IntKind.u64) (Eq.symm (Go.Proofs.YtjfklfmfeghjnabAid.wrap_len _ (by omega)))))) ?_; (with_reducible refine (trace_Clone.calls kj2 _ _ l0 t172 _ ?side1 ?side2 A13.out).mono ?_); (case side1 => repeat (first | exact (Kd.C_below HR0.out HB.out) | (with_reducible refine Kd.C_alloc ?_ _) | (with_reducible refine Kd.C_drewN ?_ _) | (with_reducible refine Kd.C_drew ?_))); (case side2 => exact HC0.out); rintro e w16 ⟨v173, rfl, ho0, hb⟩; refine ⟨_, rfl, ?_⟩; have n0_ := Aside0.mk (Kd.R_lower ho0 (below_size (by repeat (first | (with_reducible first | exact HB.out | apply below_alloc | apply pw_below_drewN | apply below_drew1) | exact HB.out)))); have n1_ := Aside0.mk (below_step (by repeat (first | (with_reducible first | exact HB.out | apply below_alloc | apply pw_below_drewN | apply below_drew1) | exact HB.out)) hb); clear HB; have HO174 := n0_; have HB := n1_; clear n0_ n1_; (try clear hb); (try clear hb2); (try clear hk); (try clear hi); (try clear ho0)) | ((with_reducible refine gate_callee (f := 37) rfl ?_); refine goesL_ (some 20) rfl rfl Try.func37 (by kernel_rfl) rfl #[.slice A0 l0.length c0] rfl (by (try simp only [List.map_toArray, List.map_cons, List.map_nil]); first | done | rfl | (simp only [List.length_drop, List.length_take]; rfl) | (refine congrArg (fun z_ => #[z_]) (congrArg (Value.int IntKind.u64) (Eq.symm (Go.Proofs.YtjfklfmfeghjnabAid.wrap_len _ (by omega)))))) ?_; (with_reducible refine (trace_Clone.calls kj2 _ _ l0 t175 _ ?side1 ?side2 A14.out).mono ?_); (case side1 => repeat (first | exact (Kd.C_below HR0.out HB.out) | (with_reducible refine Kd.C_alloc ?_ _) | (with_reducible refine Kd.C_drewN ?_ _) | (with_reducible refine Kd.C_drew ?_))); (case side2 => exact HC0.out); rintro e w17 ⟨v176, rfl, ho0, hb⟩; refine ⟨_, rfl, ?_⟩; obtain ⟨lo_, hcl_, hdl_⟩ := Go.Proofs.YtjfklfmfeghjnabAid.two_clones (by (with_reducible repeat (first | apply Kd.R_alloc | apply Kd.R_drewN | apply Kd.R_drew)); exact HO174.out) ho0 hb; have n0_ := Aside0.mk hcl_; have n1_ := Aside0.mk hdl_; clear hcl_ hdl_; have n2_ := Aside0.mk (below_step (by repeat (first | (with_reducible first | exact HB.out | apply below_alloc | apply pw_below_drewN | apply below_drew1) | exact HB.out)) hb); clear HO174; clear HB; have HO174 := n0_; have HO177 := n1_; have HB := n2_; clear n0_ n1_ n2_; (try clear hb); (try clear hb2); (try clear hk); (try clear hi); (try clear ho0)))
        (try simp only [Act.put, List.setIfInBounds_toArray, List.set_cons_zero, List.set_cons_succ])
        go_cut [39] (fun v39 wc => ∃ (kq : Nat) (x39_14 : Bool), v39 = .bool x39_14 ∧ Aside0 (tachographlaw12_TraceSame.j1 kq l0 t175 x39_14 = some r) ∧ Aside0 (kq ≤ kj2) ∧ Aside0 (Kd.R k44 44 wc lo_ (fun _ => True) v176 t175) ∧ Aside0 (Kd.R k44 44 wc w.heap.size (fun k_ => k_ < lo_) v173 t172) ∧ Aside0 (Below w.heap.size w wc))
        case first =>
          have H := HC15.out
          clear HC15
          replace H := Option.bind_eq_some_iff.mp H
          obtain ⟨t178, A180, H⟩ := H
          replace H : ((tachographref12_Same.f kj2 l0 l1).bind fun t179 => (if (t178 != t179) = true then (tachographlaw12_TraceSame.j1 kj2 l0 t175 true) else ((trace_Same.f kj2 l0 t172).bind fun t180 => (if t180 = true then ((tachographref12_Same.f kj2 l0 t172).bind fun t181 => (tachographlaw12_TraceSame.j1 kj2 l0 t175 (!t181))) else (tachographlaw12_TraceSame.j1 kj2 l0 t175 true))))) = some r := H
          have A18 := Aside0.mk A180
          clear A180
          replace H := Option.bind_eq_some_iff.mp H
          obtain ⟨t179, A190, H⟩ := H
          replace H : (if (t178 != t179) = true then (tachographlaw12_TraceSame.j1 kj2 l0 t175 true) else ((trace_Same.f kj2 l0 t172).bind fun t180 => (if t180 = true then ((tachographref12_Same.f kj2 l0 t172).bind fun t181 => (tachographlaw12_TraceSame.j1 kj2 l0 t175 (!t181))) else (tachographlaw12_TraceSame.j1 kj2 l0 t175 true)))) = some r := H
          have A19 := Aside0.mk A190
          clear A190
          by_cases c20 : (t178 != t179) = true
          · rw [if_pos c20] at H
            have c20b0 : (t178 != t179) = true := c20
            (try (have c20b1 : decide (t178 = t179) = false := by simpa using c20))
            (try (have c20b2 : (t178 == t179) = false := by simpa using c20))
            (try (have c20b3 : ¬ (t178 = t179) := by simpa using c20))
            clear c20
            (first | rw [c20b0] | (simp only [i64_w, i32_w]; rw [c20b0]) | skip)
            have H' := Aside0.mk H
            clear H
            go_wp2_with (first | ((with_reducible refine gate_callee (f := 38) rfl ?_); refine goesL_ (some 23) rfl rfl Try.func38 (by kernel_rfl) rfl #[.slice A0 l0.length c0, .slice A1 l1.length c1] rfl (by (try simp only [List.map_toArray, List.map_cons, List.map_nil]); first | done | rfl | (simp only [List.length_drop, List.length_take]; rfl) | (refine congrArg (fun z_ => #[z_]) (congrArg (Value.int IntKind.u64) (Eq.symm (Go.Proofs.YtjfklfmfeghjnabAid.wrap_len _ (by omega)))))) ?_; (with_reducible refine (trace_Same.calls kj2 _ _ l0 _ _ l1 t178 _ ?side1 ?side2 ?side3 ?side4 A18.out).mono ?_); (case side1 => repeat (first | exact (Kd.C_below HR0.out HB.out) | (with_reducible refine Kd.C_alloc ?_ _) | (with_reducible refine Kd.C_drewN ?_ _) | (with_reducible refine Kd.C_drew ?_))); (case side2 => exact HC0.out); (case side3 => repeat (first | exact (Kd.C_below HR1.out HB.out) | (with_reducible refine Kd.C_alloc ?_ _) | (with_reducible refine Kd.C_drewN ?_ _) | (with_reducible refine Kd.C_drew ?_))); (case side4 => exact HC1.out); rintro e w21 ⟨rfl, hb⟩; refine ⟨_, rfl, ?_⟩; have n0_ := Aside0.mk (Kd.R_below (by (with_reducible repeat (first | apply Kd.R_alloc | apply Kd.R_drewN | apply Kd.R_drew)); exact HO174.out) hb); have n1_ := Aside0.mk (Kd.R_below (by (with_reducible repeat (first | apply Kd.R_alloc | apply Kd.R_drewN | apply Kd.R_drew)); exact HO177.out) hb); have n2_ := Aside0.mk (below_step (by repeat (first | (with_reducible first | exact HB.out | apply below_alloc | apply pw_below_drewN | apply below_drew1) | exact HB.out)) hb); clear HO174; clear HO177; clear HB; have HO174 := n0_; have HO177 := n1_; have HB := n2_; clear n0_ n1_ n2_; (try clear hb); (try clear hb2); (try clear hk); (try clear hi)) | ((with_reducible refine gate_callee (f := 39) rfl ?_); refine goesL_ (some 26) rfl rfl Try.func39 (by kernel_rfl) rfl #[.slice A0 l0.length c0, .slice A1 l1.length c1] rfl (by (try simp only [List.map_toArray, List.map_cons, List.map_nil]); first | done | rfl | (simp only [List.length_drop, List.length_take]; rfl) | (refine congrArg (fun z_ => #[z_]) (congrArg (Value.int IntKind.u64) (Eq.symm (Go.Proofs.YtjfklfmfeghjnabAid.wrap_len _ (by omega)))))) ?_; (with_reducible refine (tachographref12_Same.calls kj2 _ _ l0 _ _ l1 t179 _ ?side1 ?side2 ?side3 ?side4 A19.out).mono ?_); (case side1 => repeat (first | exact (Kd.C_below HR0.out HB.out) | (with_reducible refine Kd.C_alloc ?_ _) | (with_reducible refine Kd.C_drewN ?_ _) | (with_reducible refine Kd.C_drew ?_))); (case side2 => exact HC0.out); (case side3 => repeat (first | exact (Kd.C_below HR1.out HB.out) | (with_reducible refine Kd.C_alloc ?_ _) | (with_reducible refine Kd.C_drewN ?_ _) | (with_reducible refine Kd.C_drew ?_))); (case side4 => exact HC1.out); rintro e w22 ⟨rfl, hb⟩; refine ⟨_, rfl, ?_⟩; have n0_ := Aside0.mk (Kd.R_below (by (with_reducible repeat (first | apply Kd.R_alloc | apply Kd.R_drewN | apply Kd.R_drew)); exact HO174.out) hb); have n1_ := Aside0.mk (Kd.R_below (by (with_reducible repeat (first | apply Kd.R_alloc | apply Kd.R_drewN | apply Kd.R_drew)); exact HO177.out) hb); have n2_ := Aside0.mk (below_step (by repeat (first | (with_reducible first | exact HB.out | apply below_alloc | apply pw_below_drewN | apply below_drew1) | exact HB.out)) hb); clear HO174; clear HO177; clear HB; have HO174 := n0_; have HO177 := n1_; have HB := n2_; clear n0_ n1_ n2_; (try clear hb); (try clear hb2); (try clear hk); (try clear hi)))
            go_meet
            case rel => exact ⟨_, (true), (by first | rfl | (simp; done) | (simp [*]; done)), H', ⟨by have := HJ2.out; first | omega | exact Nat.le_refl _⟩, ⟨by (with_reducible repeat (first | apply Kd.R_alloc | apply Kd.R_drewN | apply Kd.R_drew)); exact Kd.R_mono HO177.out (fun _ hk => trivial)⟩, ⟨by (with_reducible repeat (first | apply Kd.R_alloc | apply Kd.R_drewN | apply Kd.R_drew)); exact HO174.out⟩, ⟨by repeat (first | (with_reducible first | exact HB.out | apply below_alloc | apply pw_below_drewN | apply below_drew1) | exact HB.out)⟩⟩
          · rw [if_neg c20] at H
            have c20b0 : (t178 != t179) = false := by simpa using c20
            (try (have c20b1 : decide (t178 = t179) = true := by simpa using c20))
            (try (have c20b2 : (t178 == t179) = true := by simpa using c20))
            clear c20
            (first | rw [c20b0] | (simp only [i64_w, i32_w]; rw [c20b0]) | skip)
            replace H := Option.bind_eq_some_iff.mp H
            obtain ⟨t180, A230, H⟩ := H
            replace H : (if t180 = true then ((tachographref12_Same.f kj2 l0 t172).bind fun t181 => (tachographlaw12_TraceSame.j1 kj2 l0 t175 (!t181))) else (tachographlaw12_TraceSame.j1 kj2 l0 t175 true)) = some r := H
            have A23 := Aside0.mk A230
            clear A230
            by_cases c24 : t180 = true
            · subst c24
              have H1 : ((tachographref12_Same.f kj2 l0 t172).bind fun t181 => (tachographlaw12_TraceSame.j1 kj2 l0 t175 (!t181))) = some r := by rw [if_pos rfl] at H; exact H
              clear H
              have H := H1
              clear H1
              replace H := Option.bind_eq_some_iff.mp H
              obtain ⟨t181, A250, H⟩ := H
              replace H : (tachographlaw12_TraceSame.j1 kj2 l0 t175 (!t181)) = some r := H
              have A25 := Aside0.mk A250
              clear A250
              have H' := Aside0.mk H
              clear H
              go_wp2_with (first | ((with_reducible refine gate_callee (f := 38) rfl ?_); refine goesL_ (some 23) rfl rfl Try.func38 (by kernel_rfl) rfl #[.slice A0 l0.length c0, .slice A1 l1.length c1] rfl (by (try simp only [List.map_toArray, List.map_cons, List.map_nil]); first | done | rfl | (simp only [List.length_drop, List.length_take]; rfl) | (refine congrArg (fun z_ => #[z_]) (congrArg (Value.int IntKind.u64) (Eq.symm (Go.Proofs.YtjfklfmfeghjnabAid.wrap_len _ (by omega)))))) ?_; (with_reducible refine (trace_Same.calls kj2 _ _ l0 _ _ l1 t178 _ ?side1 ?side2 ?side3 ?side4 A18.out).mono ?_); (case side1 => repeat (first | exact (Kd.C_below HR0.out HB.out) | (with_reducible refine Kd.C_alloc ?_ _) | (with_reducible refine Kd.C_drewN ?_ _) | (with_reducible refine Kd.C_drew ?_))); (case side2 => exact HC0.out); (case side3 => repeat (first | exact (Kd.C_below HR1.out HB.out) | (with_reducible refine Kd.C_alloc ?_ _) | (with_reducible refine Kd.C_drewN ?_ _) | (with_reducible refine Kd.C_drew ?_))); (case side4 => exact HC1.out); rintro e w26 ⟨rfl, hb⟩; refine ⟨_, rfl, ?_⟩; have n0_ := Aside0.mk (Kd.R_below (by (with_reducible repeat (first | apply Kd.R_alloc | apply Kd.R_drewN | apply Kd.R_drew)); exact HO174.out) hb); have n1_ := Aside0.mk (Kd.R_below (by (with_reducible repeat (first | apply Kd.R_alloc | apply Kd.R_drewN | apply Kd.R_drew)); exact HO177.out) hb); have n2_ := Aside0.mk (below_step (by repeat (first | (with_reducible first | exact HB.out | apply below_alloc | apply pw_below_drewN | apply below_drew1) | exact HB.out)) hb); clear HO174; clear HO177; clear HB; have HO174 := n0_; have HO177 := n1_; have HB := n2_; clear n0_ n1_ n2_; (try clear hb); (try clear hb2); (try clear hk); (try clear hi)) | ((with_reducible refine gate_callee (f := 39) rfl ?_); refine goesL_ (some 26) rfl rfl Try.func39 (by kernel_rfl) rfl #[.slice A0 l0.length c0, .slice A1 l1.length c1] rfl (by (try simp only [List.map_toArray, List.map_cons, List.map_nil]); first | done | rfl | (simp only [List.length_drop, List.length_take]; rfl) | (refine congrArg (fun z_ => #[z_]) (congrArg (Value.int IntKind.u64) (Eq.symm (Go.Proofs.YtjfklfmfeghjnabAid.wrap_len _ (by omega)))))) ?_; (with_reducible refine (tachographref12_Same.calls kj2 _ _ l0 _ _ l1 t179 _ ?side1 ?side2 ?side3 ?side4 A19.out).mono ?_); (case side1 => repeat (first | exact (Kd.C_below HR0.out HB.out) | (with_reducible refine Kd.C_alloc ?_ _) | (with_reducible refine Kd.C_drewN ?_ _) | (with_reducible refine Kd.C_drew ?_))); (case side2 => exact HC0.out); (case side3 => repeat (first | exact (Kd.C_below HR1.out HB.out) | (with_reducible refine Kd.C_alloc ?_ _) | (with_reducible refine Kd.C_drewN ?_ _) | (with_reducible refine Kd.C_drew ?_))); (case side4 => exact HC1.out); rintro e w27 ⟨rfl, hb⟩; refine ⟨_, rfl, ?_⟩; have n0_ := Aside0.mk (Kd.R_below (by (with_reducible repeat (first | apply Kd.R_alloc | apply Kd.R_drewN | apply Kd.R_drew)); exact HO174.out) hb); have n1_ := Aside0.mk (Kd.R_below (by (with_reducible repeat (first | apply Kd.R_alloc | apply Kd.R_drewN | apply Kd.R_drew)); exact HO177.out) hb); have n2_ := Aside0.mk (below_step (by repeat (first | (with_reducible first | exact HB.out | apply below_alloc | apply pw_below_drewN | apply below_drew1) | exact HB.out)) hb); clear HO174; clear HO177; clear HB; have HO174 := n0_; have HO177 := n1_; have HB := n2_; clear n0_ n1_ n2_; (try clear hb); (try clear hb2); (try clear hk); (try clear hi); obtain ⟨Ao28, co28, eo28⟩ := Kd.R_slice HO174.out; subst eo28) | (go_at_call 38; (with_reducible refine (trace_Same.calls kj2 _ _ l0 _ _ t172 true _ ?side1 ?side2 ?side3 ?side4 A23.out).mono ?_); (case side1 => repeat (first | exact (Kd.C_below HR0.out HB.out) | (with_reducible refine Kd.C_alloc ?_ _) | (with_reducible refine Kd.C_drewN ?_ _) | (with_reducible refine Kd.C_drew ?_))); (case side2 => exact HC0.out); (case side3 => repeat (first | exact (Kd.R_reads' HO174.out).2.2 | (with_reducible refine Kd.C_alloc ?_ _) | (with_reducible refine Kd.C_drewN ?_ _) | (with_reducible refine Kd.C_drew ?_))); (case side4 => exact (Kd.R_reads' HO174.out).2.1); rintro e w29 ⟨rfl, hb⟩; have n0_ := Aside0.mk (Kd.R_below (by (with_reducible repeat (first | apply Kd.R_alloc | apply Kd.R_drewN | apply Kd.R_drew)); exact HO174.out) hb); have n1_ := Aside0.mk (Kd.R_below (by (with_reducible repeat (first | apply Kd.R_alloc | apply Kd.R_drewN | apply Kd.R_drew)); exact HO177.out) hb); have n2_ := Aside0.mk (below_step (by repeat (first | (with_reducible first | exact HB.out | apply below_alloc | apply pw_below_drewN | apply below_drew1) | exact HB.out)) hb); clear HO174; clear HO177; clear HB; have HO174 := n0_; have HO177 := n1_; have HB := n2_; clear n0_ n1_ n2_; (try clear hb); (try clear hb2); (try clear hk); (try clear hi)) | (go_at_call 39; (with_reducible refine (tachographref12_Same.calls kj2 _ _ l0 _ _ t172 t181 _ ?side1 ?side2 ?side3 ?side4 A25.out).mono ?_); (case side1 => repeat (first | exact (Kd.C_below HR0.out HB.out) | (with_reducible refine Kd.C_alloc ?_ _) | (with_reducible refine Kd.C_drewN ?_ _) | (with_reducible refine Kd.C_drew ?_))); (case side2 => exact HC0.out); (case side3 => repeat (first | exact (Kd.R_reads' HO174.out).2.2 | (with_reducible refine Kd.C_alloc ?_ _) | (with_reducible refine Kd.C_drewN ?_ _) | (with_reducible refine Kd.C_drew ?_))); (case side4 => exact (Kd.R_reads' HO174.out).2.1); rintro e w30 ⟨rfl, hb⟩; have n0_ := Aside0.mk (Kd.R_below (by (with_reducible repeat (first | apply Kd.R_alloc | apply Kd.R_drewN | apply Kd.R_drew)); exact HO174.out) hb); have n1_ := Aside0.mk (Kd.R_below (by (with_reducible repeat (first | apply Kd.R_alloc | apply Kd.R_drewN | apply Kd.R_drew)); exact HO177.out) hb); have n2_ := Aside0.mk (below_step (by repeat (first | (with_reducible first | exact HB.out | apply below_alloc | apply pw_below_drewN | apply below_drew1) | exact HB.out)) hb); clear HO174; clear HO177; clear HB; have HO174 := n0_; have HO177 := n1_; have HB := n2_; clear n0_ n1_ n2_; (try clear hb); (try clear hb2); (try clear hk); (try clear hi)))
              go_meet
              case rel => exact ⟨_, (!t181), (by first | rfl | (simp; done) | (simp [*]; done)), H', ⟨by have := HJ2.out; first | omega | exact Nat.le_refl _⟩, ⟨by (with_reducible repeat (first | apply Kd.R_alloc | apply Kd.R_drewN | apply Kd.R_drew)); exact Kd.R_mono HO177.out (fun _ hk => trivial)⟩, ⟨by (with_reducible repeat (first | apply Kd.R_alloc | apply Kd.R_drewN | apply Kd.R_drew)); exact HO174.out⟩, ⟨by repeat (first | (with_reducible first | exact HB.out | apply below_alloc | apply pw_below_drewN | apply below_drew1) | exact HB.out)⟩⟩
            · replace c24 := Bool.eq_false_iff.mpr c24
              subst c24
              have H1 : (tachographlaw12_TraceSame.j1 kj2 l0 t175 true) = some r := by rw [if_neg (show ¬ (false = true) by decide)] at H; exact H
              clear H
              have H := H1
              clear H1
              have H' := Aside0.mk H
              clear H
              go_wp2_with (first | ((with_reducible refine gate_callee (f := 38) rfl ?_); refine goesL_ (some 23) rfl rfl Try.func38 (by kernel_rfl) rfl #[.slice A0 l0.length c0, .slice A1 l1.length c1] rfl (by (try simp only [List.map_toArray, List.map_cons, List.map_nil]); first | done | rfl | (simp only [List.length_drop, List.length_take]; rfl) | (refine congrArg (fun z_ => #[z_]) (congrArg (Value.int IntKind.u64) (Eq.symm (Go.Proofs.YtjfklfmfeghjnabAid.wrap_len _ (by omega)))))) ?_; (with_reducible refine (trace_Same.calls kj2 _ _ l0 _ _ l1 t178 _ ?side1 ?side2 ?side3 ?side4 A18.out).mono ?_); (case side1 => repeat (first | exact (Kd.C_below HR0.out HB.out) | (with_reducible refine Kd.C_alloc ?_ _) | (with_reducible refine Kd.C_drewN ?_ _) | (with_reducible refine Kd.C_drew ?_))); (case side2 => exact HC0.out); (case side3 => repeat (first | exact (Kd.C_below HR1.out HB.out) | (with_reducible refine Kd.C_alloc ?_ _) | (with_reducible refine Kd.C_drewN ?_ _) | (with_reducible refine Kd.C_drew ?_))); (case side4 => exact HC1.out); rintro e w31 ⟨rfl, hb⟩; refine ⟨_, rfl, ?_⟩; have n0_ := Aside0.mk (Kd.R_below (by (with_reducible repeat (first | apply Kd.R_alloc | apply Kd.R_drewN | apply Kd.R_drew)); exact HO174.out) hb); have n1_ := Aside0.mk (Kd.R_below (by (with_reducible repeat (first | apply Kd.R_alloc | apply Kd.R_drewN | apply Kd.R_drew)); exact HO177.out) hb); have n2_ := Aside0.mk (below_step (by repeat (first | (with_reducible first | exact HB.out | apply below_alloc | apply pw_below_drewN | apply below_drew1) | exact HB.out)) hb); clear HO174; clear HO177; clear HB; have HO174 := n0_; have HO177 := n1_; have HB := n2_; clear n0_ n1_ n2_; (try clear hb); (try clear hb2); (try clear hk); (try clear hi)) | ((with_reducible refine gate_callee (f := 39) rfl ?_); refine goesL_ (some 26) rfl rfl Try.func39 (by kernel_rfl) rfl #[.slice A0 l0.length c0, .slice A1 l1.length c1] rfl (by (try simp only [List.map_toArray, List.map_cons, List.map_nil]); first | done | rfl | (simp only [List.length_drop, List.length_take]; rfl) | (refine congrArg (fun z_ => #[z_]) (congrArg (Value.int IntKind.u64) (Eq.symm (Go.Proofs.YtjfklfmfeghjnabAid.wrap_len _ (by omega)))))) ?_; (with_reducible refine (tachographref12_Same.calls kj2 _ _ l0 _ _ l1 t179 _ ?side1 ?side2 ?side3 ?side4 A19.out).mono ?_); (case side1 => repeat (first | exact (Kd.C_below HR0.out HB.out) | (with_reducible refine Kd.C_alloc ?_ _) | (with_reducible refine Kd.C_drewN ?_ _) | (with_reducible refine Kd.C_drew ?_))); (case side2 => exact HC0.out); (case side3 => repeat (first | exact (Kd.C_below HR1.out HB.out) | (with_reducible refine Kd.C_alloc ?_ _) | (with_reducible refine Kd.C_drewN ?_ _) | (with_reducible refine Kd.C_drew ?_))); (case side4 => exact HC1.out); rintro e w32 ⟨rfl, hb⟩; refine ⟨_, rfl, ?_⟩; have n0_ := Aside0.mk (Kd.R_below (by (with_reducible repeat (first | apply Kd.R_alloc | apply Kd.R_drewN | apply Kd.R_drew)); exact HO174.out) hb); have n1_ := Aside0.mk (Kd.R_below (by (with_reducible repeat (first | apply Kd.R_alloc | apply Kd.R_drewN | apply Kd.R_drew)); exact HO177.out) hb); have n2_ := Aside0.mk (below_step (by repeat (first | (with_reducible first | exact HB.out | apply below_alloc | apply pw_below_drewN | apply below_drew1) | exact HB.out)) hb); clear HO174; clear HO177; clear HB; have HO174 := n0_; have HO177 := n1_; have HB := n2_; clear n0_ n1_ n2_; (try clear hb); (try clear hb2); (try clear hk); (try clear hi); obtain ⟨Ao33, co33, eo33⟩ := Kd.R_slice HO174.out; subst eo33) | (go_at_call 38; (with_reducible refine (trace_Same.calls kj2 _ _ l0 _ _ t172 false _ ?side1 ?side2 ?side3 ?side4 A23.out).mono ?_); (case side1 => repeat (first | exact (Kd.C_below HR0.out HB.out) | (with_reducible refine Kd.C_alloc ?_ _) | (with_reducible refine Kd.C_drewN ?_ _) | (with_reducible refine Kd.C_drew ?_))); (case side2 => exact HC0.out); (case side3 => repeat (first | exact (Kd.R_reads' HO174.out).2.2 | (with_reducible refine Kd.C_alloc ?_ _) | (with_reducible refine Kd.C_drewN ?_ _) | (with_reducible refine Kd.C_drew ?_))); (case side4 => exact (Kd.R_reads' HO174.out).2.1); rintro e w34 ⟨rfl, hb⟩; have n0_ := Aside0.mk (Kd.R_below (by (with_reducible repeat (first | apply Kd.R_alloc | apply Kd.R_drewN | apply Kd.R_drew)); exact HO174.out) hb); have n1_ := Aside0.mk (Kd.R_below (by (with_reducible repeat (first | apply Kd.R_alloc | apply Kd.R_drewN | apply Kd.R_drew)); exact HO177.out) hb); have n2_ := Aside0.mk (below_step (by repeat (first | (with_reducible first | exact HB.out | apply below_alloc | apply pw_below_drewN | apply below_drew1) | exact HB.out)) hb); clear HO174; clear HO177; clear HB; have HO174 := n0_; have HO177 := n1_; have HB := n2_; clear n0_ n1_ n2_; (try clear hb); (try clear hb2); (try clear hk); (try clear hi)))
              go_meet
              case rel => exact ⟨_, (true), (by first | rfl | (simp; done) | (simp [*]; done)), H', ⟨by have := HJ2.out; first | omega | exact Nat.le_refl _⟩, ⟨by (with_reducible repeat (first | apply Kd.R_alloc | apply Kd.R_drewN | apply Kd.R_drew)); exact Kd.R_mono HO177.out (fun _ hk => trivial)⟩, ⟨by (with_reducible repeat (first | apply Kd.R_alloc | apply Kd.R_drewN | apply Kd.R_drew)); exact HO174.out⟩, ⟨by repeat (first | (with_reducible first | exact HB.out | apply below_alloc | apply pw_below_drewN | apply below_drew1) | exact HB.out)⟩⟩
        case rest =>
          clear HC15
          try clear c1
          try clear c2
          try clear p2
          try clear c3
          try clear c5
          try clear c7
          try clear c10
          try clear c20
          try clear c20b0
          try clear c20b1
          try clear c20b2
          try clear c24
          try clear c30
          try clear p2
          obtain ⟨kq, x39_14, rfl, HA, HJ14, HO_6, HC_6, HB⟩ := hcut
          cases kq with
          | zero => exact absurd HA.out (by simp [tachographlaw12_TraceSame.j1])
          | succ kj14 =>
            have H := HA.out
            clear HA
            simp only [tachographlaw12_TraceSame.j1] at H
            by_cases c35 : x39_14 = true
            · subst c35
              have H1 : (some false) = some r := by rw [if_pos rfl] at H; exact H
              clear H
              have H := H1
              clear H1
              obtain rfl := Option.some.inj H
              go_wp2
              go_ret
              exact ⟨by first | rfl | (simp [errW_none, errW_some] <;> rfl) | (simp [*, errW_none, errW_some] <;> rfl), by repeat (first | (with_reducible first | exact HB.out | apply below_alloc | apply pw_below_drewN | apply below_drew1) | exact HB.out)⟩
            · replace c35 := Bool.eq_false_iff.mpr c35
              subst c35
              have H1 : ((tachographlaw12_fixed.f kj14).bind fun t182 => (if t182 = true then ((tachographref12_Same.f kj14 l0 t175).bind fun t183 => (some t183)) else (some false))) = some r := by rw [if_neg (show ¬ (false = true) by decide)] at H; exact H
              clear H
              have H := H1
              clear H1
              replace H := Option.bind_eq_some_iff.mp H
              obtain ⟨t182, A360, H⟩ := H
              replace H : (if t182 = true then ((tachographref12_Same.f kj14 l0 t175).bind fun t183 => (some t183)) else (some false)) = some r := H
              have A36 := Aside0.mk A360
              clear A360
              obtain ⟨P_, w0_, hP_, hc0_, hi0_, hd0_⟩ := Go.Proofs.YtjfklfmfeghjnabAid.ints_start HC_6.out HO_6.out
              clear HO_6 HC_6
              obtain ⟨Ac_, cc_, ec_⟩ := Kd.R_slice hc0_
              subst ec_
              have hn0_ := (Kd.R_reads' hc0_).2.2.2.1
              have HCC := Aside0.mk hc0_
              have HI := Aside0.mk hi0_
              have HDD := Aside0.mk hd0_
              have HPP := Aside0.mk hP_
              clear hc0_ hi0_ hd0_
              go_wp2
              go_loopw [42] (fun v42 w' => ∃ i1_ : Int, v42 = .int .i64 i1_ ∧ 0 ≤ i1_ ∧ Aside0 (Go.Proofs.YtjfklfmfeghjnabAid.Ints P_ w0_ w') ∧ Aside0 (Below w.heap.size w w')) (fun v42 _ => t172.length - (intOf v42).toNat)
              case atStart => exact ⟨0, rfl, Int.le_refl _, ⟨by repeat (first | exact HI.out | apply Go.Proofs.YtjfklfmfeghjnabAid.Ints.drewN | apply Go.Proofs.YtjfklfmfeghjnabAid.Ints.drew)⟩, ⟨by repeat (first | (with_reducible first | exact HB.out | apply below_alloc | apply pw_below_drewN | apply below_drew1) | exact HB.out)⟩⟩
              case round =>
                clear HI HB
                obtain ⟨i1_, rfl, h1_, HI, HB⟩ := hrel
                by_cases l1_ : i1_ < (t172.length : Int)
                · have b1_ : decide (i1_ < (t172.length : Int)) = true := decide_eq_true l1_
                  obtain ⟨g1_, cp1_, A1_, c1_, y1_, e1_, hg1_, hy1_, hs1_, hR1_⟩ := ts_b44 HCC.out i1_ h1_ l1_
                  cases e1_
                  have HR1_ := Aside0.mk hR1_
                  have hn1_ := (Kd.R_reads' hR1_).2.2.2.1
                  clear hR1_
                  obtain ⟨z1_, hz1_⟩ := HI.out.num hg1_ hy1_
                  have hf1_ := HI.out.frozen hg1_ (i1_.toNat * 2)
                  have p1_ := eq_true h1_
                  have q1_ := eq_true l1_
                  go_wp2_with (first | ((with_reducible refine gate_store (t := 41) (p := 52) rfl ?_); refine store_event (t := 41) (p := 52) (v := ?vo_52) (w1 := (wr.setCell ⟨g1_, i1_.toNat * 2, none⟩ (.int .u64 ((z1_ + 1) % 18446744073709551616)))) ?hg ?ho ?hn ?hr ?_; (case ho => rfl); (case hg => rfl); (case hn => rfl); (case hr => first | (go_simp; done) | (go_simp; rfl)); intro w9_ hw_; have ni_ : Go.Proofs.YtjfklfmfeghjnabAid.Ints P_ w0_ w9_ := (by rw [hw_]; exact Go.Proofs.YtjfklfmfeghjnabAid.Ints.set (by repeat (first | exact HI.out | apply Go.Proofs.YtjfklfmfeghjnabAid.Ints.drewN | apply Go.Proofs.YtjfklfmfeghjnabAid.Ints.drew)) hg1_ hy1_ _); have nb_ : Below w.heap.size w w9_ := (by rw [hw_]; exact below_set (by repeat (first | (with_reducible first | exact HB.out | apply below_alloc | apply pw_below_drewN | apply below_drew1) | exact HB.out)) (hP_ _ hg1_).1); clear hw_; clear HI HB; have HI := Aside0.mk ni_; have HB := Aside0.mk nb_; clear ni_ nb_; clear hz1_ hf1_; have hx1_ := HI.out.other hg1_ (fun _ _ h_ => by cases h_) hs1_))
                  go_loopw [59] (fun v59 w' => ∃ i2_ : Int, v59 = .int .i64 i2_ ∧ 0 ≤ i2_ ∧ Aside0 (Go.Proofs.YtjfklfmfeghjnabAid.Ints P_ w0_ w') ∧ Aside0 (Below w.heap.size w w')) (fun v59 _ => (rd_T44 t172 i1_).f1.length - (intOf v59).toNat)
                  case atStart => exact ⟨0, rfl, Int.le_refl _, ⟨by repeat (first | exact HI.out | apply Go.Proofs.YtjfklfmfeghjnabAid.Ints.drewN | apply Go.Proofs.YtjfklfmfeghjnabAid.Ints.drew)⟩, ⟨by repeat (first | (with_reducible first | exact HB.out | apply below_alloc | apply pw_below_drewN | apply below_drew1) | exact HB.out)⟩⟩
                  case round =>
                    clear HI HB hx1_
                    obtain ⟨i2_, rfl, h2_, HI, HB⟩ := hrel
                    by_cases l2_ : i2_ < ((rd_T44 t172 i1_).f1.length : Int)
                    · have b2_ : decide (i2_ < ((rd_T44 t172 i1_).f1.length : Int)) = true := decide_eq_true l2_
                      obtain ⟨g2_, cp2_, A2_, c2_, y2_, e2_, hg2_, hy2_, hs2_, hR2_⟩ := ts_b61 HR1_.out i2_ h2_ l2_
                      cases e2_
                      have HR2_ := Aside0.mk hR2_
                      have hn2_ := (Kd.R_reads' hR2_).2.2.2.1
                      clear hR2_
                      have hx1_ := HI.out.other hg1_ (fun _ _ h_ => by cases h_) hs1_
                      obtain ⟨z2_, hz2_⟩ := HI.out.num hg2_ hy2_
                      have hf2_ := HI.out.frozen hg2_ (i2_.toNat * 2)
                      have p2_ := eq_true h2_
                      have q2_ := eq_true l2_
                      go_wp2_with (first | ((with_reducible refine gate_store (t := 3) (p := 73) rfl ?_); refine store_event (t := 3) (p := 73) (v := ?vo_73) (w1 := (wr.setCell ⟨g2_, i2_.toNat * 2, none⟩ (.int .i64 (wrap64 (z2_ + 1))))) ?hg ?ho ?hn ?hr ?_; (case ho => rfl); (case hg => rfl); (case hn => rfl); (case hr => first | (go_simp; done) | (go_simp; rfl)); intro w9_ hw_; have ni_ : Go.Proofs.YtjfklfmfeghjnabAid.Ints P_ w0_ w9_ := (by rw [hw_]; exact Go.Proofs.YtjfklfmfeghjnabAid.Ints.set (by repeat (first | exact HI.out | apply Go.Proofs.YtjfklfmfeghjnabAid.Ints.drewN | apply Go.Proofs.YtjfklfmfeghjnabAid.Ints.drew)) hg2_ hy2_ _); have nb_ : Below w.heap.size w w9_ := (by rw [hw_]; exact below_set (by repeat (first | (with_reducible first | exact HB.out | apply below_alloc | apply pw_below_drewN | apply below_drew1) | exact HB.out)) (hP_ _ hg2_).1); clear hw_; clear HI HB; have HI := Aside0.mk ni_; have HB := Aside0.mk nb_; clear ni_ nb_; clear hz2_ hf2_ hx1_; have hx1_ := HI.out.other hg1_ (fun _ _ h_ => by cases h_) hs1_; have hx2_ := HI.out.other hg2_ (fun _ _ h_ => by cases h_) hs2_))
                      go_loopw [84] (fun v84 w' => ∃ i3_ : Int, v84 = .int .i64 i3_ ∧ 0 ≤ i3_ ∧ Aside0 (Go.Proofs.YtjfklfmfeghjnabAid.Ints P_ w0_ w') ∧ Aside0 (Below w.heap.size w w')) (fun v84 _ => (rd_T61 (rd_T44 t172 i1_).f1 i2_).f1.length - (intOf v84).toNat)
                      case atStart => exact ⟨0, rfl, Int.le_refl _, ⟨by repeat (first | exact HI.out | apply Go.Proofs.YtjfklfmfeghjnabAid.Ints.drewN | apply Go.Proofs.YtjfklfmfeghjnabAid.Ints.drew)⟩, ⟨by repeat (first | (with_reducible first | exact HB.out | apply below_alloc | apply pw_below_drewN | apply below_drew1) | exact HB.out)⟩⟩
                      case round =>
                        clear HI HB hx1_ hx2_
                        obtain ⟨i3_, rfl, h3_, HI, HB⟩ := hrel
                        by_cases l3_ : i3_ < ((rd_T61 (rd_T44 t172 i1_).f1 i2_).f1.length : Int)
                        · have b3_ : decide (i3_ < ((rd_T61 (rd_T44 t172 i1_).f1 i2_).f1.length : Int)) = true := decide_eq_true l3_
                          obtain ⟨g3_, cp3_, y3_, e3_, hg3_, hy3_⟩ := ts_b70 HR2_.out i3_ h3_ l3_
                          cases e3_
                          have hx1_ := HI.out.other hg1_ (fun _ _ h_ => by cases h_) hs1_
                          have hx2_ := HI.out.other hg2_ (fun _ _ h_ => by cases h_) hs2_
                          obtain ⟨z3_, hz3_⟩ := HI.out.num hg3_ hy3_
                          have hf3_ := HI.out.frozen hg3_ (i3_.toNat * 3 + 1)
                          have p3_ := eq_true h3_
                          have q3_ := eq_true l3_
                          go_wp2_with (first | ((with_reducible refine gate_store (t := 2) (p := 102) rfl ?_); refine store_event (t := 2) (p := 102) (v := ?vo_102) (w1 := (wr.setCell ⟨g3_, i3_.toNat * 3 + 1, none⟩ (.int .i64 (wrap64 (z3_ + 1))))) ?hg ?ho ?hn ?hr ?_; (case ho => rfl); (case hg => rfl); (case hn => rfl); (case hr => first | (go_simp; done) | (go_simp; rfl)); intro w9_ hw_; have ni_ : Go.Proofs.YtjfklfmfeghjnabAid.Ints P_ w0_ w9_ := (by rw [hw_]; exact Go.Proofs.YtjfklfmfeghjnabAid.Ints.set (by repeat (first | exact HI.out | apply Go.Proofs.YtjfklfmfeghjnabAid.Ints.drewN | apply Go.Proofs.YtjfklfmfeghjnabAid.Ints.drew)) hg3_ hy3_ _); have nb_ : Below w.heap.size w w9_ := (by rw [hw_]; exact below_set (by repeat (first | (with_reducible first | exact HB.out | apply below_alloc | apply pw_below_drewN | apply below_drew1) | exact HB.out)) (hP_ _ hg3_).1); clear hw_; clear HI HB; have HI := Aside0.mk ni_; have HB := Aside0.mk nb_; clear ni_ nb_; skip))
                          go_roundw
                          case rel => exact ⟨i3_ + 1, by go_num, by omega, ⟨by repeat (first | exact HI.out | apply Go.Proofs.YtjfklfmfeghjnabAid.Ints.drewN | apply Go.Proofs.YtjfklfmfeghjnabAid.Ints.drew)⟩, ⟨by repeat (first | (with_reducible first | exact HB.out | apply below_alloc | apply pw_below_drewN | apply below_drew1) | exact HB.out)⟩⟩
                          case measure => simp [intOf]; omega
                        · have b3_ : decide (i3_ < ((rd_T61 (rd_T44 t172 i1_).f1 i2_).f1.length : Int)) = false := decide_eq_false l3_
                          go_wp2
                          go_roundw
                          case rel => exact ⟨i2_ + 1, by go_num, by omega, ⟨by repeat (first | exact HI.out | apply Go.Proofs.YtjfklfmfeghjnabAid.Ints.drewN | apply Go.Proofs.YtjfklfmfeghjnabAid.Ints.drew)⟩, ⟨by repeat (first | (with_reducible first | exact HB.out | apply below_alloc | apply pw_below_drewN | apply below_drew1) | exact HB.out)⟩⟩
                          case measure => simp [intOf]; omega
                    · have b2_ : decide (i2_ < ((rd_T44 t172 i1_).f1.length : Int)) = false := decide_eq_false l2_
                      go_wp2
                      go_roundw
                      case rel => exact ⟨i1_ + 1, by go_num, by omega, ⟨by repeat (first | exact HI.out | apply Go.Proofs.YtjfklfmfeghjnabAid.Ints.drewN | apply Go.Proofs.YtjfklfmfeghjnabAid.Ints.drew)⟩, ⟨by repeat (first | (with_reducible first | exact HB.out | apply below_alloc | apply pw_below_drewN | apply below_drew1) | exact HB.out)⟩⟩
                      case measure => simp [intOf]; omega
                · have b1_ : decide (i1_ < (t172.length : Int)) = false := decide_eq_false l1_
                  have HO_6 := Aside0.mk (HI.out.row (fun k_ hk_ => (HPP.out k_ hk_).2) HDD.out)
                  clear HI HCC HDD HPP
                  by_cases c37 : t182 = true
                  · subst c37
                    have H1 : ((tachographref12_Same.f kj14 l0 t175).bind fun t183 => (some t183)) = some r := by rw [if_pos rfl] at H; exact H
                    clear H
                    have H := H1
                    clear H1
                    replace H := Option.bind_eq_some_iff.mp H
                    obtain ⟨t183, A380, H⟩ := H
                    replace H : (some t183) = some r := H
                    have A38 := Aside0.mk A380
                    clear A380
                    obtain rfl := Option.some.inj H
                    go_wp2_with (first | ((with_reducible refine gate_callee (f := 30) rfl ?_); refine goesL_ (some 106) rfl rfl Try.func30 (by kernel_rfl) rfl #[] rfl (by (try simp only [List.map_toArray, List.map_cons, List.map_nil]); first | done | rfl | (simp only [List.length_drop, List.length_take]; rfl) | (refine congrArg (fun z_ => #[z_]) (congrArg (Value.int IntKind.u64) (Eq.symm (Go.Proofs.YtjfklfmfeghjnabAid.wrap_len _ (by omega)))))) ?_; (with_reducible refine (tachographlaw12_fixed.calls kj14  true _ A36.out).mono ?_); rintro e w39 ⟨rfl, hb⟩; refine ⟨_, rfl, ?_⟩; have n0_ := Aside0.mk (Kd.R_below (by (with_reducible repeat (first | apply Kd.R_alloc | apply Kd.R_drewN | apply Kd.R_drew)); exact HO_6.out) hb); have n1_ := Aside0.mk (below_step (by repeat (first | (with_reducible first | exact HB.out | apply below_alloc | apply pw_below_drewN | apply below_drew1) | exact HB.out)) hb); clear HO_6; clear HB; have HO_6 := n0_; have HB := n1_; clear n0_ n1_; (try clear hb); (try clear hb2); (try clear hk); (try clear hi); obtain ⟨Ao40, co40, eo40⟩ := Kd.R_slice HO_6.out; subst eo40) | (go_at_call 39; (with_reducible refine (tachographref12_Same.calls kj14 _ _ l0 _ _ t175 t183 _ ?side1 ?side2 ?side3 ?side4 A38.out).mono ?_); (case side1 => repeat (first | exact (Kd.C_below HR0.out HB.out) | (with_reducible refine Kd.C_alloc ?_ _) | (with_reducible refine Kd.C_drewN ?_ _) | (with_reducible refine Kd.C_drew ?_))); (case side2 => exact HC0.out); (case side3 => repeat (first | exact (Kd.R_reads' HO_6.out).2.2 | (with_reducible refine Kd.C_alloc ?_ _) | (with_reducible refine Kd.C_drewN ?_ _) | (with_reducible refine Kd.C_drew ?_))); (case side4 => exact (Kd.R_reads' HO_6.out).2.1); rintro e w41 ⟨rfl, hb⟩; have n0_ := Aside0.mk (Kd.R_below (by (with_reducible repeat (first | apply Kd.R_alloc | apply Kd.R_drewN | apply Kd.R_drew)); exact HO_6.out) hb); have n1_ := Aside0.mk (below_step (by repeat (first | (with_reducible first | exact HB.out | apply below_alloc | apply pw_below_drewN | apply below_drew1) | exact HB.out)) hb); clear HO_6; clear HB; have HO_6 := n0_; have HB := n1_; clear n0_ n1_; (try clear hb); (try clear hb2); (try clear hk); (try clear hi)))
                    go_ret
                    exact ⟨by first | rfl | (simp [errW_none, errW_some] <;> rfl) | (simp [*, errW_none, errW_some] <;> rfl), by repeat (first | (with_reducible first | exact HB.out | apply below_alloc | apply pw_below_drewN | apply below_drew1) | exact HB.out)⟩
                  · replace c37 := Bool.eq_false_iff.mpr c37
                    subst c37
                    have H1 : (some false) = some r := by rw [if_neg (show ¬ (false = true) by decide)] at H; exact H
                    clear H
                    have H := H1
                    clear H1
                    obtain rfl := Option.some.inj H
                    go_wp2_with (first | ((with_reducible refine gate_callee (f := 30) rfl ?_); refine goesL_ (some 106) rfl rfl Try.func30 (by kernel_rfl) rfl #[] rfl (by (try simp only [List.map_toArray, List.map_cons, List.map_nil]); first | done | rfl | (simp only [List.length_drop, List.length_take]; rfl) | (refine congrArg (fun z_ => #[z_]) (congrArg (Value.int IntKind.u64) (Eq.symm (Go.Proofs.YtjfklfmfeghjnabAid.wrap_len _ (by omega)))))) ?_; (with_reducible refine (tachographlaw12_fixed.calls kj14  false _ A36.out).mono ?_); rintro e w42 ⟨rfl, hb⟩; refine ⟨_, rfl, ?_⟩; have n0_ := Aside0.mk (Kd.R_below (by (with_reducible repeat (first | apply Kd.R_alloc | apply Kd.R_drewN | apply Kd.R_drew)); exact HO_6.out) hb); have n1_ := Aside0.mk (below_step (by repeat (first | (with_reducible first | exact HB.out | apply below_alloc | apply pw_below_drewN | apply below_drew1) | exact HB.out)) hb); clear HO_6; clear HB; have HO_6 := n0_; have HB := n1_; clear n0_ n1_; (try clear hb); (try clear hb2); (try clear hk); (try clear hi)))
                    go_ret
                    exact ⟨by first | rfl | (simp [errW_none, errW_some] <;> rfl) | (simp [*, errW_none, errW_some] <;> rfl), by repeat (first | (with_reducible first | exact HB.out | apply below_alloc | apply pw_below_drewN | apply below_drew1) | exact HB.out)⟩

set_option maxRecDepth 100000 in
theorem tachographlaw12_TraceSame.laid0 : Go.Proofs.YtjfklfmfeghjnabOpen.Laid Try.prog 44 k44 (fun b_ : S44 => (Go.Proofs.YtjfklfmfeghjnabOpen.pairOk (Go.Proofs.YtjfklfmfeghjnabOpen.intOk .u64) (Go.Proofs.YtjfklfmfeghjnabOpen.sliceOk 32 (fun b_ : S61 => (Go.Proofs.YtjfklfmfeghjnabOpen.pairOk (Go.Proofs.YtjfklfmfeghjnabOpen.intOk .i64) (Go.Proofs.YtjfklfmfeghjnabOpen.sliceOk 32 (fun b_ : S70 => (Go.Proofs.YtjfklfmfeghjnabOpen.pairOk (Go.Proofs.YtjfklfmfeghjnabOpen.intOk .i64) (Go.Proofs.YtjfklfmfeghjnabOpen.pairOk (Go.Proofs.YtjfklfmfeghjnabOpen.intOk .i64) Go.Proofs.YtjfklfmfeghjnabOpen.strOk)) (b_.f0, b_.f1, b_.f2)))) (b_.f0, b_.f1)))) (b_.f0, b_.f1)) := (Go.Proofs.YtjfklfmfeghjnabOpen.laid_iso (fun b_ : S44 => (b_.f0, b_.f1)) (fun p_ => ⟨p_.1, p_.2⟩) (fun _ => rfl) (Go.Proofs.YtjfklfmfeghjnabOpen.laid_struct Try.underlying44 (by kernel_rfl) (Go.Proofs.YtjfklfmfeghjnabOpen.laidF_cons (by rfl) (Go.Proofs.YtjfklfmfeghjnabOpen.laid_int Try.underlying41 (by kernel_rfl)) (Go.Proofs.YtjfklfmfeghjnabOpen.laidF_one (by rfl) (Go.Proofs.YtjfklfmfeghjnabOpen.laid_slice 61 Try.underlying42 (by kernel_rfl) (by kernel_rfl) (Go.Proofs.YtjfklfmfeghjnabOpen.laid_iso (fun b_ : S61 => (b_.f0, b_.f1)) (fun p_ => ⟨p_.1, p_.2⟩) (fun _ => rfl) (Go.Proofs.YtjfklfmfeghjnabOpen.laid_struct Try.underlying61 (by kernel_rfl) (Go.Proofs.YtjfklfmfeghjnabOpen.laidF_cons (by rfl) (Go.Proofs.YtjfklfmfeghjnabOpen.laid_int Try.underlying3 (by kernel_rfl)) (Go.Proofs.YtjfklfmfeghjnabOpen.laidF_one (by rfl) (Go.Proofs.YtjfklfmfeghjnabOpen.laid_slice 70 Try.underlying59 (by kernel_rfl) (by kernel_rfl) (Go.Proofs.YtjfklfmfeghjnabOpen.laid_iso (fun b_ : S70 => (b_.f0, b_.f1, b_.f2)) (fun p_ => ⟨p_.1, p_.2.1, p_.2.2⟩) (fun _ => rfl) (Go.Proofs.YtjfklfmfeghjnabOpen.laid_struct Try.underlying70 (by kernel_rfl) (Go.Proofs.YtjfklfmfeghjnabOpen.laidF_cons (by rfl) (Go.Proofs.YtjfklfmfeghjnabOpen.laid_int Try.underlying3 (by kernel_rfl)) (Go.Proofs.YtjfklfmfeghjnabOpen.laidF_cons (by rfl) (Go.Proofs.YtjfklfmfeghjnabOpen.laid_int Try.underlying2 (by kernel_rfl)) (Go.Proofs.YtjfklfmfeghjnabOpen.laidF_one (by rfl) (Go.Proofs.YtjfklfmfeghjnabOpen.laid_string Try.underlying9 (by kernel_rfl)))))))))))))))))
set_option maxRecDepth 100000 in
theorem tachographlaw12_TraceSame.laid1 : Go.Proofs.YtjfklfmfeghjnabOpen.Laid Try.prog 44 k44 (fun b_ : S44 => (Go.Proofs.YtjfklfmfeghjnabOpen.pairOk (Go.Proofs.YtjfklfmfeghjnabOpen.intOk .u64) (Go.Proofs.YtjfklfmfeghjnabOpen.sliceOk 32 (fun b_ : S61 => (Go.Proofs.YtjfklfmfeghjnabOpen.pairOk (Go.Proofs.YtjfklfmfeghjnabOpen.intOk .i64) (Go.Proofs.YtjfklfmfeghjnabOpen.sliceOk 32 (fun b_ : S70 => (Go.Proofs.YtjfklfmfeghjnabOpen.pairOk (Go.Proofs.YtjfklfmfeghjnabOpen.intOk .i64) (Go.Proofs.YtjfklfmfeghjnabOpen.pairOk (Go.Proofs.YtjfklfmfeghjnabOpen.intOk .i64) Go.Proofs.YtjfklfmfeghjnabOpen.strOk)) (b_.f0, b_.f1, b_.f2)))) (b_.f0, b_.f1)))) (b_.f0, b_.f1)) := (Go.Proofs.YtjfklfmfeghjnabOpen.laid_iso (fun b_ : S44 => (b_.f0, b_.f1)) (fun p_ => ⟨p_.1, p_.2⟩) (fun _ => rfl) (Go.Proofs.YtjfklfmfeghjnabOpen.laid_struct Try.underlying44 (by kernel_rfl) (Go.Proofs.YtjfklfmfeghjnabOpen.laidF_cons (by rfl) (Go.Proofs.YtjfklfmfeghjnabOpen.laid_int Try.underlying41 (by kernel_rfl)) (Go.Proofs.YtjfklfmfeghjnabOpen.laidF_one (by rfl) (Go.Proofs.YtjfklfmfeghjnabOpen.laid_slice 61 Try.underlying42 (by kernel_rfl) (by kernel_rfl) (Go.Proofs.YtjfklfmfeghjnabOpen.laid_iso (fun b_ : S61 => (b_.f0, b_.f1)) (fun p_ => ⟨p_.1, p_.2⟩) (fun _ => rfl) (Go.Proofs.YtjfklfmfeghjnabOpen.laid_struct Try.underlying61 (by kernel_rfl) (Go.Proofs.YtjfklfmfeghjnabOpen.laidF_cons (by rfl) (Go.Proofs.YtjfklfmfeghjnabOpen.laid_int Try.underlying3 (by kernel_rfl)) (Go.Proofs.YtjfklfmfeghjnabOpen.laidF_one (by rfl) (Go.Proofs.YtjfklfmfeghjnabOpen.laid_slice 70 Try.underlying59 (by kernel_rfl) (by kernel_rfl) (Go.Proofs.YtjfklfmfeghjnabOpen.laid_iso (fun b_ : S70 => (b_.f0, b_.f1, b_.f2)) (fun p_ => ⟨p_.1, p_.2.1, p_.2.2⟩) (fun _ => rfl) (Go.Proofs.YtjfklfmfeghjnabOpen.laid_struct Try.underlying70 (by kernel_rfl) (Go.Proofs.YtjfklfmfeghjnabOpen.laidF_cons (by rfl) (Go.Proofs.YtjfklfmfeghjnabOpen.laid_int Try.underlying3 (by kernel_rfl)) (Go.Proofs.YtjfklfmfeghjnabOpen.laidF_cons (by rfl) (Go.Proofs.YtjfklfmfeghjnabOpen.laid_int Try.underlying2 (by kernel_rfl)) (Go.Proofs.YtjfklfmfeghjnabOpen.laidF_one (by rfl) (Go.Proofs.YtjfklfmfeghjnabOpen.laid_string Try.underlying9 (by kernel_rfl)))))))))))))))))
/-- THE ONE PURE STATEMENT of tachographlaw12_TraceSame: yours. -/
def tachographlaw12_TraceSame.Pure : Prop := ∀ (l0 : List (S44)) (l1 : List (S44)), (Go.Proofs.YtjfklfmfeghjnabOpen.sliceOk 32 (fun b_ : S44 => (Go.Proofs.YtjfklfmfeghjnabOpen.pairOk (Go.Proofs.YtjfklfmfeghjnabOpen.intOk .u64) (Go.Proofs.YtjfklfmfeghjnabOpen.sliceOk 32 (fun b_ : S61 => (Go.Proofs.YtjfklfmfeghjnabOpen.pairOk (Go.Proofs.YtjfklfmfeghjnabOpen.intOk .i64) (Go.Proofs.YtjfklfmfeghjnabOpen.sliceOk 32 (fun b_ : S70 => (Go.Proofs.YtjfklfmfeghjnabOpen.pairOk (Go.Proofs.YtjfklfmfeghjnabOpen.intOk .i64) (Go.Proofs.YtjfklfmfeghjnabOpen.pairOk (Go.Proofs.YtjfklfmfeghjnabOpen.intOk .i64) Go.Proofs.YtjfklfmfeghjnabOpen.strOk)) (b_.f0, b_.f1, b_.f2)))) (b_.f0, b_.f1)))) (b_.f0, b_.f1))) l0 → (Go.Proofs.YtjfklfmfeghjnabOpen.sliceOk 32 (fun b_ : S44 => (Go.Proofs.YtjfklfmfeghjnabOpen.pairOk (Go.Proofs.YtjfklfmfeghjnabOpen.intOk .u64) (Go.Proofs.YtjfklfmfeghjnabOpen.sliceOk 32 (fun b_ : S61 => (Go.Proofs.YtjfklfmfeghjnabOpen.pairOk (Go.Proofs.YtjfklfmfeghjnabOpen.intOk .i64) (Go.Proofs.YtjfklfmfeghjnabOpen.sliceOk 32 (fun b_ : S70 => (Go.Proofs.YtjfklfmfeghjnabOpen.pairOk (Go.Proofs.YtjfklfmfeghjnabOpen.intOk .i64) (Go.Proofs.YtjfklfmfeghjnabOpen.pairOk (Go.Proofs.YtjfklfmfeghjnabOpen.intOk .i64) Go.Proofs.YtjfklfmfeghjnabOpen.strOk)) (b_.f0, b_.f1, b_.f2)))) (b_.f0, b_.f1)))) (b_.f0, b_.f1))) l1 → ∃ k, tachographlaw12_TraceSame.f k l0 l1 = some true
theorem tachographlaw12_TraceSame.walk (P : tachographlaw12_TraceSame.Pure) (a0 : Option Addr) (cap0 : Nat) (l0 : List (S44)) (a1 : Option Addr) (cap1 : Nat) (l1 : List (S44)) (w : World) (w0 : (Go.Proofs.YtjfklfmfeghjnabOpen.sliceOk 32 (fun b_ : S44 => (Go.Proofs.YtjfklfmfeghjnabOpen.pairOk (Go.Proofs.YtjfklfmfeghjnabOpen.intOk .u64) (Go.Proofs.YtjfklfmfeghjnabOpen.sliceOk 32 (fun b_ : S61 => (Go.Proofs.YtjfklfmfeghjnabOpen.pairOk (Go.Proofs.YtjfklfmfeghjnabOpen.intOk .i64) (Go.Proofs.YtjfklfmfeghjnabOpen.sliceOk 32 (fun b_ : S70 => (Go.Proofs.YtjfklfmfeghjnabOpen.pairOk (Go.Proofs.YtjfklfmfeghjnabOpen.intOk .i64) (Go.Proofs.YtjfklfmfeghjnabOpen.pairOk (Go.Proofs.YtjfklfmfeghjnabOpen.intOk .i64) Go.Proofs.YtjfklfmfeghjnabOpen.strOk)) (b_.f0, b_.f1, b_.f2)))) (b_.f0, b_.f1)))) (b_.f0, b_.f1))) l0) (e0 : l0.length ≤ cap0) (C0 : Kd.C k44 w a0 l0.length l0) (w1 : (Go.Proofs.YtjfklfmfeghjnabOpen.sliceOk 32 (fun b_ : S44 => (Go.Proofs.YtjfklfmfeghjnabOpen.pairOk (Go.Proofs.YtjfklfmfeghjnabOpen.intOk .u64) (Go.Proofs.YtjfklfmfeghjnabOpen.sliceOk 32 (fun b_ : S61 => (Go.Proofs.YtjfklfmfeghjnabOpen.pairOk (Go.Proofs.YtjfklfmfeghjnabOpen.intOk .i64) (Go.Proofs.YtjfklfmfeghjnabOpen.sliceOk 32 (fun b_ : S70 => (Go.Proofs.YtjfklfmfeghjnabOpen.pairOk (Go.Proofs.YtjfklfmfeghjnabOpen.intOk .i64) (Go.Proofs.YtjfklfmfeghjnabOpen.pairOk (Go.Proofs.YtjfklfmfeghjnabOpen.intOk .i64) Go.Proofs.YtjfklfmfeghjnabOpen.strOk)) (b_.f0, b_.f1, b_.f2)))) (b_.f0, b_.f1)))) (b_.f0, b_.f1))) l1) (e1 : l1.length ≤ cap1) (C1 : Kd.C k44 w a1 l1.length l1) :
    Calls Try.prog 7 #[.slice a0 l0.length cap0, .slice a1 l1.length cap1] w fun e w' => e = .returned (.bool true) ∧ Below w.heap.size w w' := by
  obtain ⟨k, h⟩ := P l0 l1 w0 w1
  refine (tachographlaw12_TraceSame.calls k _ _ l0 _ _ l1 true w C0 e0 C1 e1 h).mono ?_
  rintro e w' ⟨rfl, hd⟩
  exact ⟨rfl, hd⟩

end Go.Proofs.Ytjfklfmfeghjnab.PT
