-- Contracts of Go functions, each with its plain Lean function: written by wip/tools/myprint.py of this work (the kit's print, with contracts proved by hand spliced in).
import Derived.Test.YtjfklfmfeghjnacPWx0
import Derived.Test.YtjfklfmfeghjnacPWx1
import Derived.Test.YtjfklfmfeghjnacPWx2
namespace Go.Proofs.Ytjfklfmfeghjnac.PW
open Go.RowKit Go.Proofs.YtjfklfmfeghjnacW.PrintWords Go.Proofs.YtjfklfmfeghjnacW.PrintLast Go.Proofs.YtjfklfmfeghjnacW.PrintMore
attribute [local go_sem] max2_int min2_int max_two min_two max_three min_three max_four min_four   -- for this text's walks alone
set_option linter.unusedVariables false
set_option linter.unusedSimpArgs false

/-! ### tachographlaw25_WoundApplies: function 9 -/
mutual
def tachographlaw25_WoundApplies.j0 : Nat → List Int → List (S86) → Bool → Option (Bool)
  | 0, _, _, _ => none
  | k + 1, x0, x1, x15 => if x15 = true then ((tachographlaw25_fixed.f k).bind fun t144 => (some t144)) else ((wound_Apply.f k x0 x1).bind fun bt145 => ((tachographref25_May.f k (x0.length : Int) x1).bind fun t149 => ((wound_May.f k (x0.length : Int) x1).bind fun t150 => (if (t150 != t149) = true then (tachographlaw25_WoundApplies.j1 k x1 (strOfNums x0) bt145.1 bt145.2 t149 true) else (tachographlaw25_WoundApplies.j1 k x1 (strOfNums x0) bt145.1 bt145.2 t149 false)))))
def tachographlaw25_WoundApplies.j1 : Nat → List (S86) → ByteArray → List Int → Int → Bool → Bool → Option (Bool)
  | 0, _, _, _, _, _, _ => none
  | k + 1, x1, x5, x6, x7, x8, x40 => if x40 = true then (some false) else (if x8 = true then ((tachographlaw25_fixed.f k).bind fun t151 => (if t151 = true then (if x7 = 0 then ((tachographref25_Apply.f k x5 x1).bind fun t152 => (some ((strOfNums x6).toList == t152.toList))) else (some false)) else (some false))) else ((tachographlaw25_fixed.f k).bind fun t153 => (if t153 = true then (if (x6.length : Int) = 0 then (some (x7 == 1)) else (some false)) else (some false))))
end
def tachographlaw25_WoundApplies.f (k : Nat) (l0 : List Int) (l1 : List (S86)) : Option (Bool) := if (l0.length : Int) > 600 then (tachographlaw25_WoundApplies.j0 k l0 l1 true) else ((tachographlaw25_Great.f k l1).bind fun t143 => (tachographlaw25_WoundApplies.j0 k l0 l1 t143))
theorem tachographlaw25_WoundApplies.mono_l : ∀ k, (∀ y0 y1 y2, LeO (tachographlaw25_WoundApplies.j0 k y0 y1 y2) (tachographlaw25_WoundApplies.j0 (k + 1) y0 y1 y2)) ∧ (∀ y0 y1 y2 y3 y4 y5, LeO (tachographlaw25_WoundApplies.j1 k y0 y1 y2 y3 y4 y5) (tachographlaw25_WoundApplies.j1 (k + 1) y0 y1 y2 y3 y4 y5))
  | 0 => ⟨fun _ _ _ r h => by simp [tachographlaw25_WoundApplies.j0] at h, fun _ _ _ _ _ _ r h => by simp [tachographlaw25_WoundApplies.j1] at h⟩
  | k + 1 => by
    obtain ⟨ih0, ih1⟩ := tachographlaw25_WoundApplies.mono_l k
    refine ⟨?_, ?_⟩
    · intro y0 y1 y2
      unfold tachographlaw25_WoundApplies.j0
      repeat' first
      | (with_reducible exact ih0 _ _ _)
      | (with_reducible exact ih1 _ _ _ _ _ _)
      | (with_reducible exact tachographlaw25_Great.mono _ _)
      | (with_reducible exact tachographlaw25_fixed.mono _)
      | (with_reducible exact tachographref25_Apply.mono _ _ _)
      | (with_reducible exact tachographref25_May.mono _ _ _)
      | (with_reducible exact wound_Apply.mono _ _ _)
      | (with_reducible exact wound_May.mono _ _ _)
      | (with_reducible exact LeO.refl _)
      | (with_reducible exact LeO.none _)
      | (with_reducible refine LeO.ite ?_ ?_)
      | (with_reducible refine LeO.bind ?_ (fun _ => ?_))
      | exact ih0 _ _ _
      | exact ih1 _ _ _ _ _ _
      | exact tachographlaw25_Great.mono _ _
      | exact tachographlaw25_fixed.mono _
      | exact tachographref25_Apply.mono _ _ _
      | exact tachographref25_May.mono _ _ _
      | exact wound_Apply.mono _ _ _
      | exact wound_May.mono _ _ _
      | exact LeO.none _
      | refine LeO.ite ?_ ?_
      | refine LeO.bind ?_ (fun _ => ?_)
    · intro y0 y1 y2 y3 y4 y5
      unfold tachographlaw25_WoundApplies.j1
      repeat' first
      | (with_reducible exact ih0 _ _ _)
      | (with_reducible exact ih1 _ _ _ _ _ _)
      | (with_reducible exact tachographlaw25_Great.mono _ _)
      | (with_reducible exact tachographlaw25_fixed.mono _)
      | (with_reducible exact tachographref25_Apply.mono _ _ _)
      | (with_reducible exact tachographref25_May.mono _ _ _)
      | (with_reducible exact wound_Apply.mono _ _ _)
      | (with_reducible exact wound_May.mono _ _ _)
      | (with_reducible exact LeO.refl _)
      | (with_reducible exact LeO.none _)
      | (with_reducible refine LeO.ite ?_ ?_)
      | (with_reducible refine LeO.bind ?_ (fun _ => ?_))
      | exact ih0 _ _ _
      | exact ih1 _ _ _ _ _ _
      | exact tachographlaw25_Great.mono _ _
      | exact tachographlaw25_fixed.mono _
      | exact tachographref25_Apply.mono _ _ _
      | exact tachographref25_May.mono _ _ _
      | exact wound_Apply.mono _ _ _
      | exact wound_May.mono _ _ _
      | exact LeO.none _
      | refine LeO.ite ?_ ?_
      | refine LeO.bind ?_ (fun _ => ?_)
theorem tachographlaw25_WoundApplies.mono : ∀ a0 a1 k, LeO (tachographlaw25_WoundApplies.f k a0 a1) (tachographlaw25_WoundApplies.f (k + 1) a0 a1) := by
  intro a0 a1 k
  obtain ⟨ih0, ih1⟩ := tachographlaw25_WoundApplies.mono_l k
  unfold tachographlaw25_WoundApplies.f
  repeat' first
      | (with_reducible exact ih0 _ _ _)
      | (with_reducible exact ih1 _ _ _ _ _ _)
      | (with_reducible exact tachographlaw25_Great.mono _ _)
      | (with_reducible exact tachographlaw25_fixed.mono _)
      | (with_reducible exact tachographref25_Apply.mono _ _ _)
      | (with_reducible exact tachographref25_May.mono _ _ _)
      | (with_reducible exact wound_Apply.mono _ _ _)
      | (with_reducible exact wound_May.mono _ _ _)
      | (with_reducible exact LeO.refl _)
      | (with_reducible exact LeO.none _)
      | (with_reducible refine LeO.ite ?_ ?_)
      | (with_reducible refine LeO.bind ?_ (fun _ => ?_))
      | exact ih0 _ _ _
      | exact ih1 _ _ _ _ _ _
      | exact tachographlaw25_Great.mono _ _
      | exact tachographlaw25_fixed.mono _
      | exact tachographref25_Apply.mono _ _ _
      | exact tachographref25_May.mono _ _ _
      | exact wound_Apply.mono _ _ _
      | exact wound_May.mono _ _ _
      | exact LeO.none _
      | refine LeO.ite ?_ ?_
      | refine LeO.bind ?_ (fun _ => ?_)
def tachographlaw25_WoundApplies.T10 : Bool × List (List Nat × List Nat) := (true, [([], []), ([0, 0], [0]), ([1], [1]), ([2, 1], [1, 2]), ([1, 3], [1, 3]), ([4, 1], [4]), ([5], [5]), ([6, 5], [5, 6]), ([5], [5]), ([5], [5]), ([8, 9, 5, 5], [5, 8, 9]), ([7, 10, 5], [5, 7, 10]), ([5, 11], [5, 11]), ([12, 10, 0, 1, 2, 3, 4, 5, 6, 7, 8, 9, 10, 11, 12], [12])])
def tachographlaw25_WoundApplies.B10 : List Nat := [0, 1, 3, 7, 15, 31, 63, 127, 63, 63, 831, 2047, 4095, 8191]
theorem tachographlaw25_WoundApplies.tab10 : rtab .any (opsOf Try.f9 10) = tachographlaw25_WoundApplies.T10 := by kernel_rfl
theorem tachographlaw25_WoundApplies.bits10 : waitsOk tachographlaw25_WoundApplies.T10.2 tachographlaw25_WoundApplies.B10 = true := by kernel_rfl
set_option maxHeartbeats 8000000 in
set_option maxRecDepth 100000 in
theorem tachographlaw25_WoundApplies.calls (k : Nat) (A0 : Option Addr) (c0 : Nat) (l0 : List Int) (A1 : Option Addr) (c1 : Nat) (l1 : List (S86)) (r : Bool) (w : World) (hr0 : Kd.C (Kd.int .u8) w A0 l0.length l0) (hc0 : l0.length ≤ c0) (hr1 : Kd.C k86 w A1 l1.length l1) (hc1 : l1.length ≤ c1) (h : tachographlaw25_WoundApplies.f k l0 l1 = some r) :
    Calls Try.prog 9 #[.slice A0 l0.length c0, .slice A1 l1.length c1] w fun e w' => e = .returned (.bool r) ∧ Below w.heap.size w w' := by
  have HR0 := Aside0.mk hr0
  have HC0 := Aside0.mk hc0
  clear hr0 hc0
  have HR1 := Aside0.mk hr1
  have HC1 := Aside0.mk hc1
  clear hr1 hc1
  have HB := Aside0.mk (Below.refl w.heap.size w)
  have H : (if (l0.length : Int) > 600 then (tachographlaw25_WoundApplies.j0 k l0 l1 true) else ((tachographlaw25_Great.f k l1).bind fun t143 => (tachographlaw25_WoundApplies.j0 k l0 l1 t143))) = some r := h
  clear h
  have HC3 := Aside0.mk H
  clear H
  go_enter Try.func9, Try.ntmps9
  go_upto_region 1 with (fail)
  go_cut [15] (fun v15 wc => ∃ (kq : Nat) (x15_2 : Bool), v15 = .bool x15_2 ∧ Aside0 (tachographlaw25_WoundApplies.j0 kq l0 l1 x15_2 = some r) ∧ Aside0 (kq ≤ k) ∧ Aside0 (Below w.heap.size w wc))
  case first =>
    have H := HC3.out
    clear HC3
    by_cases c4 : (l0.length : Int) > 600
    · rw [if_pos c4] at H
      have c4b0 : decide (600 < (l0.length : Int)) = true := decide_eq_true c4
      have c4b1 : decide (600 < l0.length) = true := decide_eq_true (by omega)
      clear c4
      (first | rw [c4b0] | (simp only [i64_w, i32_w]; rw [c4b0]) | skip)
      have H' := Aside0.mk H
      clear H
      go_wp2
      go_meet
      case rel => exact ⟨_, (true), (by first | rfl | (simp; done) | (simp [*]; done)), H', ⟨by first | omega | exact Nat.le_refl _⟩, ⟨by repeat (first | (with_reducible first | exact HB.out | apply below_alloc | apply pw_below_drewN | apply below_drew1) | exact HB.out)⟩⟩
    · rw [if_neg c4] at H
      have c4b0 : decide (600 < (l0.length : Int)) = false := decide_eq_false c4
      have c4b1 : decide (600 < l0.length) = false := decide_eq_false (by omega)
      clear c4
      (first | rw [c4b0] | (simp only [i64_w, i32_w]; rw [c4b0]) | skip)
      replace H := Option.bind_eq_some_iff.mp H
      obtain ⟨t143, A50, H⟩ := H
      replace H : (tachographlaw25_WoundApplies.j0 k l0 l1 t143) = some r := H
      have A5 := Aside0.mk A50
      clear A50
      have H' := Aside0.mk H
      clear H
      go_wp2_with (first | (go_at_call 22; (with_reducible refine (tachographlaw25_Great.calls k _ _ l1 t143 _ ?side1 ?side2 A5.out).mono ?_); (case side1 => repeat (first | exact (Kd.C_below HR1.out HB.out) | (with_reducible refine Kd.C_alloc ?_ _) | (with_reducible refine Kd.C_drewN ?_ _) | (with_reducible refine Kd.C_drew ?_))); (case side2 => exact HC1.out); rintro e w6 ⟨rfl, hb⟩; have n0_ := Aside0.mk (below_step (by repeat (first | (with_reducible first | exact HB.out | apply below_alloc | apply pw_below_drewN | apply below_drew1) | exact HB.out)) hb); clear HB; have HB := n0_; clear n0_; (try clear hb); (try clear hb2); (try clear hk); (try clear hi)))
      go_meet
      case rel => exact ⟨_, (t143), (by first | rfl | (simp; done) | (simp [*]; done)), H', ⟨by first | omega | exact Nat.le_refl _⟩, ⟨by repeat (first | (with_reducible first | exact HB.out | apply below_alloc | apply pw_below_drewN | apply below_drew1) | exact HB.out)⟩⟩
  case rest =>
    clear HC3
    try clear c1
    try clear p2
    try clear c4
    try clear c4b0
    try clear c4b1
    obtain ⟨kq, x15_2, rfl, HA, HJ2, HB⟩ := hcut
    cases kq with
    | zero => exact absurd HA.out (by simp [tachographlaw25_WoundApplies.j0])
    | succ kj2 =>
      have H := HA.out
      clear HA
      simp only [tachographlaw25_WoundApplies.j0] at H
      by_cases c7 : x15_2 = true
      · subst c7
        have H1 : ((tachographlaw25_fixed.f kj2).bind fun t144 => (some t144)) = some r := by rw [if_pos rfl] at H; exact H
        clear H
        have H := H1
        clear H1
        replace H := Option.bind_eq_some_iff.mp H
        obtain ⟨t144, A80, H⟩ := H
        replace H : (some t144) = some r := H
        have A8 := Aside0.mk A80
        clear A80
        obtain rfl := Option.some.inj H
        go_wp2_with (first | ((with_reducible refine gate_callee (f := 23) rfl ?_); refine goesL_ (some 16) rfl rfl Try.func23 (by kernel_rfl) rfl #[] rfl (by (try simp only [List.map_toArray, List.map_cons, List.map_nil]); first | done | rfl | (simp only [List.length_drop, List.length_take]; rfl) | (refine congrArg (fun z_ => #[z_]) (congrArg (Value.int IntKind.u64) (Eq.symm (Go.Proofs.YtjfklfmfeghjnacAid.wrap_len _ (by omega)))))) ?_; (with_reducible refine (tachographlaw25_fixed.calls kj2  t144 _ A8.out).mono ?_); rintro e w9 ⟨rfl, hb⟩; refine ⟨_, rfl, ?_⟩; have n0_ := Aside0.mk (below_step (by repeat (first | (with_reducible first | exact HB.out | apply below_alloc | apply pw_below_drewN | apply below_drew1) | exact HB.out)) hb); clear HB; have HB := n0_; clear n0_; (try clear hb); (try clear hb2); (try clear hk); (try clear hi)))
        go_ret
        exact ⟨by first | rfl | (simp [errW_none, errW_some] <;> rfl) | (simp [*, errW_none, errW_some] <;> rfl), by repeat (first | (with_reducible first | exact HB.out | apply below_alloc | apply pw_below_drewN | apply below_drew1) | exact HB.out)⟩
      · replace c7 := Bool.eq_false_iff.mpr c7
        subst c7
        have H1 : ((wound_Apply.f kj2 l0 l1).bind fun bt145 => ((tachographref25_May.f kj2 (l0.length : Int) l1).bind fun t149 => ((wound_May.f kj2 (l0.length : Int) l1).bind fun t150 => (if (t150 != t149) = true then (tachographlaw25_WoundApplies.j1 kj2 l1 (strOfNums l0) bt145.1 bt145.2 t149 true) else (tachographlaw25_WoundApplies.j1 kj2 l1 (strOfNums l0) bt145.1 bt145.2 t149 false))))) = some r := by rw [if_neg (show ¬ (false = true) by decide)] at H; exact H
        clear H
        have H := H1
        clear H1
        replace H := Option.bind_eq_some_iff.mp H
        obtain ⟨⟨t145, t146⟩, A100, H⟩ := H
        replace H : ((tachographref25_May.f kj2 (l0.length : Int) l1).bind fun t149 => ((wound_May.f kj2 (l0.length : Int) l1).bind fun t150 => (if (t150 != t149) = true then (tachographlaw25_WoundApplies.j1 kj2 l1 (strOfNums l0) t145 t146 t149 true) else (tachographlaw25_WoundApplies.j1 kj2 l1 (strOfNums l0) t145 t146 t149 false)))) = some r := H
        have A10 := Aside0.mk A100
        clear A100
        replace H := Option.bind_eq_some_iff.mp H
        obtain ⟨t149, A110, H⟩ := H
        replace H : ((wound_May.f kj2 (l0.length : Int) l1).bind fun t150 => (if (t150 != t149) = true then (tachographlaw25_WoundApplies.j1 kj2 l1 (strOfNums l0) t145 t146 t149 true) else (tachographlaw25_WoundApplies.j1 kj2 l1 (strOfNums l0) t145 t146 t149 false))) = some r := H
        have A11 := Aside0.mk A110
        clear A110
        have HC12 := Aside0.mk H
        clear H
        have hcv13 := Kd.C_string (P := Try.prog) (A := A0) (c := c0) Try.underlying49 Try.underlying5 Try.underlying9 (Kd.C_below HR0.out HB.out)
        have hcv15 := fun m_ : Nat => Kd.C_string (P := Try.prog) (A := A0) (c := c0) Try.underlying49 Try.underlying5 Try.underlying9 (Kd.C_drewN (Kd.C_below HR0.out HB.out) m_)
        go_upto_region 6 with (first | ((with_reducible refine gate_callee (f := 24) rfl ?_); refine goesL_ (some 22) rfl rfl Try.func24 (by kernel_rfl) rfl #[.slice A0 l0.length c0, .slice A1 l1.length c1] rfl (by (try simp only [List.map_toArray, List.map_cons, List.map_nil]); first | done | rfl | (simp only [List.length_drop, List.length_take]; rfl) | (refine congrArg (fun z_ => #[z_]) (congrArg (Value.int IntKind.u64) (Eq.symm (Go.Proofs.YtjfklfmfeghjnacAid.wrap_len _ (by omega)))))) ?_; (with_reducible refine (wound_Apply.calls kj2 _ _ l0 _ _ l1 t145 t146 _ ?side1 ?side2 ?side3 ?side4 A10.out).mono ?_); (case side1 => repeat (first | exact (Kd.C_below HR0.out HB.out) | (with_reducible refine Kd.C_alloc ?_ _) | (with_reducible refine Kd.C_drewN ?_ _) | (with_reducible refine Kd.C_drew ?_))); (case side2 => exact HC0.out); (case side3 => repeat (first | exact (Kd.C_below HR1.out HB.out) | (with_reducible refine Kd.C_alloc ?_ _) | (with_reducible refine Kd.C_drewN ?_ _) | (with_reducible refine Kd.C_drew ?_))); (case side4 => exact HC1.out); rintro e w16 ⟨v147, rfl, ho0, hb⟩; refine ⟨_, rfl, ?_⟩; have n0_ := Aside0.mk (Kd.R_lower ho0 (below_size (by repeat (first | (with_reducible first | exact HB.out | apply below_alloc | apply pw_below_drewN | apply below_drew1) | exact HB.out)))); have n1_ := Aside0.mk (below_step (by repeat (first | (with_reducible first | exact HB.out | apply below_alloc | apply pw_below_drewN | apply below_drew1) | exact HB.out)) hb); clear HB; have HO148 := n0_; have HB := n1_; clear n0_ n1_; (try clear hb); (try clear hb2); (try clear hk); (try clear hi); (try clear ho0)) | ((with_reducible refine gate_callee (f := 25) rfl ?_); refine goesL_ (some 28) rfl rfl Try.func25 (by kernel_rfl) rfl #[.int .i64 (l0.length : Int), .slice A1 l1.length c1] rfl (by (try simp only [List.map_toArray, List.map_cons, List.map_nil]); first | done | rfl | (simp only [List.length_drop, List.length_take]; rfl) | (refine congrArg (fun z_ => #[z_]) (congrArg (Value.int IntKind.u64) (Eq.symm (Go.Proofs.YtjfklfmfeghjnacAid.wrap_len _ (by omega)))))) ?_; (with_reducible refine (tachographref25_May.calls kj2 (l0.length : Int) _ _ l1 t149 _ ?side1 ?side2 A11.out).mono ?_); (case side1 => repeat (first | exact (Kd.C_below HR1.out HB.out) | (with_reducible refine Kd.C_alloc ?_ _) | (with_reducible refine Kd.C_drewN ?_ _) | (with_reducible refine Kd.C_drew ?_))); (case side2 => exact HC1.out); rintro e w' ⟨rfl, ⟨nd, rfl⟩⟩; refine ⟨_, rfl, ?_⟩))
        (try simp only [Act.put, List.setIfInBounds_toArray, List.set_cons_zero, List.set_cons_succ])
        go_cut [40] (fun v40 wc => ∃ (kq : Nat) (x40_11 : Bool), v40 = .bool x40_11 ∧ Aside0 (tachographlaw25_WoundApplies.j1 kq l1 (strOfNums l0) t145 t146 t149 x40_11 = some r) ∧ Aside0 (kq ≤ kj2) ∧ Aside0 (Kd.R (Kd.int .u8) 5 wc w.heap.size (fun _ => True) v147 t145) ∧ Aside0 (Below w.heap.size w wc))
        case first =>
          have H := HC12.out
          clear HC12
          replace H := Option.bind_eq_some_iff.mp H
          obtain ⟨t150, A170, H⟩ := H
          replace H : (if (t150 != t149) = true then (tachographlaw25_WoundApplies.j1 kj2 l1 (strOfNums l0) t145 t146 t149 true) else (tachographlaw25_WoundApplies.j1 kj2 l1 (strOfNums l0) t145 t146 t149 false)) = some r := H
          have A17 := Aside0.mk A170
          clear A170
          by_cases c18 : (t150 != t149) = true
          · rw [if_pos c18] at H
            have c18b0 : (t150 != t149) = true := c18
            (try (have c18b1 : decide (t150 = t149) = false := by simpa using c18))
            (try (have c18b2 : (t150 == t149) = false := by simpa using c18))
            (try (have c18b3 : ¬ (t150 = t149) := by simpa using c18))
            clear c18
            (first | rw [c18b0] | (simp only [i64_w, i32_w]; rw [c18b0]) | skip)
            have H' := Aside0.mk H
            clear H
            go_wp2_with (first | ((with_reducible refine gate_callee (f := 26) rfl ?_); refine goesL_ (some 32) rfl rfl Try.func26 (by kernel_rfl) rfl #[.int .i64 (l0.length : Int), .slice A1 l1.length c1] rfl (by (try simp only [List.map_toArray, List.map_cons, List.map_nil]); first | done | rfl | (simp only [List.length_drop, List.length_take]; rfl) | (refine congrArg (fun z_ => #[z_]) (congrArg (Value.int IntKind.u64) (Eq.symm (Go.Proofs.YtjfklfmfeghjnacAid.wrap_len _ (by omega)))))) ?_; (with_reducible refine (wound_May.calls kj2 (l0.length : Int) _ _ l1 t150 _ ?side1 ?side2 A17.out).mono ?_); (case side1 => repeat (first | exact (Kd.C_below HR1.out HB.out) | (with_reducible refine Kd.C_alloc ?_ _) | (with_reducible refine Kd.C_drewN ?_ _) | (with_reducible refine Kd.C_drew ?_))); (case side2 => exact HC1.out); rintro e w19 ⟨rfl, hb⟩; refine ⟨_, rfl, ?_⟩; have n0_ := Aside0.mk (Kd.R_below (by (with_reducible repeat (first | apply Kd.R_alloc | apply Kd.R_drewN | apply Kd.R_drew)); exact HO148.out) hb); have n1_ := Aside0.mk (below_step (by repeat (first | (with_reducible first | exact HB.out | apply below_alloc | apply pw_below_drewN | apply below_drew1) | exact HB.out)) hb); clear HO148; clear HB; have HO148 := n0_; have HB := n1_; clear n0_ n1_; (try clear hb); (try clear hb2); (try clear hk); (try clear hi)))
            go_meet
            case rel => exact ⟨_, (true), (by first | rfl | (simp; done) | (simp [*]; done)), H', ⟨by have := HJ2.out; first | omega | exact Nat.le_refl _⟩, ⟨by (with_reducible repeat (first | apply Kd.R_alloc | apply Kd.R_drewN | apply Kd.R_drew)); exact HO148.out⟩, ⟨by repeat (first | (with_reducible first | exact HB.out | apply below_alloc | apply pw_below_drewN | apply below_drew1) | exact HB.out)⟩⟩
          · rw [if_neg c18] at H
            have c18b0 : (t150 != t149) = false := by simpa using c18
            (try (have c18b1 : decide (t150 = t149) = true := by simpa using c18))
            (try (have c18b2 : (t150 == t149) = true := by simpa using c18))
            clear c18
            (first | rw [c18b0] | (simp only [i64_w, i32_w]; rw [c18b0]) | skip)
            have H' := Aside0.mk H
            clear H
            go_wp2_with (first | ((with_reducible refine gate_callee (f := 26) rfl ?_); refine goesL_ (some 32) rfl rfl Try.func26 (by kernel_rfl) rfl #[.int .i64 (l0.length : Int), .slice A1 l1.length c1] rfl (by (try simp only [List.map_toArray, List.map_cons, List.map_nil]); first | done | rfl | (simp only [List.length_drop, List.length_take]; rfl) | (refine congrArg (fun z_ => #[z_]) (congrArg (Value.int IntKind.u64) (Eq.symm (Go.Proofs.YtjfklfmfeghjnacAid.wrap_len _ (by omega)))))) ?_; (with_reducible refine (wound_May.calls kj2 (l0.length : Int) _ _ l1 t150 _ ?side1 ?side2 A17.out).mono ?_); (case side1 => repeat (first | exact (Kd.C_below HR1.out HB.out) | (with_reducible refine Kd.C_alloc ?_ _) | (with_reducible refine Kd.C_drewN ?_ _) | (with_reducible refine Kd.C_drew ?_))); (case side2 => exact HC1.out); rintro e w20 ⟨rfl, hb⟩; refine ⟨_, rfl, ?_⟩; have n0_ := Aside0.mk (Kd.R_below (by (with_reducible repeat (first | apply Kd.R_alloc | apply Kd.R_drewN | apply Kd.R_drew)); exact HO148.out) hb); have n1_ := Aside0.mk (below_step (by repeat (first | (with_reducible first | exact HB.out | apply below_alloc | apply pw_below_drewN | apply below_drew1) | exact HB.out)) hb); clear HO148; clear HB; have HO148 := n0_; have HB := n1_; clear n0_ n1_; (try clear hb); (try clear hb2); (try clear hk); (try clear hi); have hcv21 := Kd.C_string (P := Try.prog) (A := A0) (c := c0) Try.underlying49 Try.underlying5 Try.underlying9 (Kd.C_below HR0.out HB.out); have hcv23 := fun m_ : Nat => Kd.C_string (P := Try.prog) (A := A0) (c := c0) Try.underlying49 Try.underlying5 Try.underlying9 (Kd.C_drewN (Kd.C_below HR0.out HB.out) m_)))
            go_meet
            case rel => exact ⟨_, (false), (by first | rfl | (simp; done) | (simp [*]; done)), H', ⟨by have := HJ2.out; first | omega | exact Nat.le_refl _⟩, ⟨by (with_reducible repeat (first | apply Kd.R_alloc | apply Kd.R_drewN | apply Kd.R_drew)); exact HO148.out⟩, ⟨by repeat (first | (with_reducible first | exact HB.out | apply below_alloc | apply pw_below_drewN | apply below_drew1) | exact HB.out)⟩⟩
        case rest =>
          clear HC12
          try clear c1
          try clear hcv1
          try clear c2
          try clear p2
          try clear hcv2
          try clear c4
          try clear c4b0
          try clear c4b1
          try clear c7
          try clear c9
          try clear hcv13
          try clear hcv15
          try clear c18
          try clear c18b0
          try clear c18b1
          try clear c18b2
          try clear hcv21
          try clear c23
          try clear hcv23
          try clear p2
          obtain ⟨kq, x40_11, rfl, HA, HJ11, HO_6, HB⟩ := hcut
          cases kq with
          | zero => exact absurd HA.out (by simp [tachographlaw25_WoundApplies.j1])
          | succ kj11 =>
            have H := HA.out
            clear HA
            simp only [tachographlaw25_WoundApplies.j1] at H
            by_cases c24 : x40_11 = true
            · subst c24
              have H1 : (some false) = some r := by rw [if_pos rfl] at H; exact H
              clear H
              have H := H1
              clear H1
              obtain rfl := Option.some.inj H
              go_wp2
              go_ret
              exact ⟨by first | rfl | (simp [errW_none, errW_some] <;> rfl) | (simp [*, errW_none, errW_some] <;> rfl), by repeat (first | (with_reducible first | exact HB.out | apply below_alloc | apply pw_below_drewN | apply below_drew1) | exact HB.out)⟩
            · replace c24 := Bool.eq_false_iff.mpr c24
              subst c24
              have H1 : (if t149 = true then ((tachographlaw25_fixed.f kj11).bind fun t151 => (if t151 = true then (if t146 = 0 then ((tachographref25_Apply.f kj11 (strOfNums l0) l1).bind fun t152 => (some ((strOfNums t145).toList == t152.toList))) else (some false)) else (some false))) else ((tachographlaw25_fixed.f kj11).bind fun t153 => (if t153 = true then (if (t145.length : Int) = 0 then (some (t146 == 1)) else (some false)) else (some false)))) = some r := by rw [if_neg (show ¬ (false = true) by decide)] at H; exact H
              clear H
              have H := H1
              clear H1
              by_cases c25 : t149 = true
              · subst c25
                have H1 : ((tachographlaw25_fixed.f kj11).bind fun t151 => (if t151 = true then (if t146 = 0 then ((tachographref25_Apply.f kj11 (strOfNums l0) l1).bind fun t152 => (some ((strOfNums t145).toList == t152.toList))) else (some false)) else (some false))) = some r := by rw [if_pos rfl] at H; exact H
                clear H
                have H := H1
                clear H1
                replace H := Option.bind_eq_some_iff.mp H
                obtain ⟨t151, A260, H⟩ := H
                replace H : (if t151 = true then (if t146 = 0 then ((tachographref25_Apply.f kj11 (strOfNums l0) l1).bind fun t152 => (some ((strOfNums t145).toList == t152.toList))) else (some false)) else (some false)) = some r := H
                have A26 := Aside0.mk A260
                clear A260
                by_cases c27 : t151 = true
                · subst c27
                  have H1 : (if t146 = 0 then ((tachographref25_Apply.f kj11 (strOfNums l0) l1).bind fun t152 => (some ((strOfNums t145).toList == t152.toList))) else (some false)) = some r := by rw [if_pos rfl] at H; exact H
                  clear H
                  have H := H1
                  clear H1
                  by_cases c28 : t146 = 0
                  · rw [if_pos c28] at H
                    have c28b0 : (t146 == 0) = true := beq_iff_eq.mpr c28
                    have c28b1 : (t146 != 0) = false := bne_eq_false_iff_eq.mpr c28
                    clear c28
                    replace H := Option.bind_eq_some_iff.mp H
                    obtain ⟨t152, A290, H⟩ := H
                    replace H : (some ((strOfNums t145).toList == t152.toList)) = some r := H
                    have A29 := Aside0.mk A290
                    clear A290
                    obtain rfl := Option.some.inj H
                    try go_wp2
                    have n0_ := Aside0.mk (Kd.R_drew HO_6.out)
                    have n1_ := Aside0.mk (below_drew1 HB.out)
                    clear HO_6
                    clear HB
                    have HO_6 := n0_
                    have HB := n1_
                    clear n0_ n1_
                    refine start_ (n := 14) (S := fun w' => (convert 49 9 v147).run Try.prog w' = .ok (.string (strOfNums t145)) w') (ds := []) #[false, false, false, false, false, false, false, false, false, false, false, false, false, false] (by kernel_rfl) rfl rfl ((own_string (P := Try.prog) Try.underlying49 Try.underlying5 Try.underlying9 (Kd.own_of_R HO_6.out))) (fun hHeld => ?_); refine with_tabW tachographlaw25_WoundApplies.tab10 tachographlaw25_WoundApplies.bits10 (fun HT_ HW_ => ?_)
                    generalize wc.drew = w30 at HO_6 HB hHeld ⊢
                    refine one_ (i := 0) (N := some 53) #[true, false, false, false, false, false, false, false, false, false, false, false, false, false] rfl rfl (one_of HT_.out (by kernel_rfl)) (by decide) (fun K hK => ?_)
                    refine goes_ Try.func23 (by kernel_rfl) rfl #[] (by rfl) rfl rfl (by (try simp only [List.map_toArray, List.map_cons, List.map_nil]); first | done | rfl | (simp only [List.length_drop, List.length_take]; rfl) | (refine congrArg (fun z_ => #[z_]) (congrArg (Value.int IntKind.u64) (Eq.symm (Go.Proofs.YtjfklfmfeghjnacAid.wrap_len _ (by omega)))))) ?_
                    with_reducible refine (tachographlaw25_fixed.calls kj11  true _ A26.out).mono ?_
                    rintro e w31 ⟨rfl, hb⟩
                    refine ⟨_, rfl, ?_⟩
                    have n0_ := Aside0.mk (Kd.R_below (by (with_reducible repeat (first | apply Kd.R_alloc | apply Kd.R_drewN | apply Kd.R_drew)); exact HO_6.out) hb)
                    have n1_ := Aside0.mk (below_step (by repeat (first | (with_reducible first | exact HB.out | apply below_alloc | apply pw_below_drewN | apply below_drew1) | exact HB.out)) hb)
                    clear HO_6
                    clear HB
                    have HO_6 := n0_
                    have HB := n1_
                    clear n0_ n1_
                    (try clear hb)
                    (try clear hb2)
                    (try clear hk)
                    (try clear hi)
                    refine hK.out _ _ ((own_string (P := Try.prog) Try.underlying49 Try.underlying5 Try.underlying9 (Kd.own_of_R HO_6.out))) (fun hHeld => ?_)
                    clear hK K
                    refine norm_ (a' := ?_) ?_ ?_
                    rotate_left
                    · show Act.put _ (some 53) _ = _
                      simp only [Act.put, List.setIfInBounds_toArray, List.set_cons_zero, List.set_cons_succ, i64_w, i32_w]
                      rfl
                    refine pure_ (i := 1) (N := some 54) (v := ?_) (a' := ?_) #[true, true, false, false, false, false, false, false, false, false, false, false, false, false] rfl rfl (any_of HT_.out (by kernel_rfl)) (fun _ _ _ h => h) (Or.inl ⟨by rfl, ?_⟩) ?_ ?_
                    rotate_left
                    · intro w'
                      go_simp
                      with_reducible rfl
                    rotate_left
                    · simp only [Act.put, List.setIfInBounds_toArray, List.set_cons_zero, List.set_cons_succ, i64_w, i32_w]
                      rfl
                    refine pure_ (i := 2) (N := some 55) (v := ?_) (a' := ?_) #[true, true, true, false, false, false, false, false, false, false, false, false, false, false] rfl rfl (any_of HT_.out (by kernel_rfl)) (fun _ _ _ h => h) (Or.inl ⟨by rfl, ?_⟩) ?_ ?_
                    rotate_left
                    · intro w'
                      go_simp
                      with_reducible rfl
                    rotate_left
                    · simp only [Act.put, List.setIfInBounds_toArray, List.set_cons_zero, List.set_cons_succ, i64_w, i32_w]
                      rfl
                    refine pure_ (i := 3) (N := some 56) (v := ?_) (a' := ?_) #[true, true, true, true, false, false, false, false, false, false, false, false, false, false] rfl rfl (any_of HT_.out (by kernel_rfl)) (fun _ _ _ h => h) (Or.inl ⟨by rfl, ?_⟩) ?_ ?_
                    rotate_left
                    · intro w'
                      go_simp
                      with_reducible rfl
                    rotate_left
                    · simp only [Act.put, List.setIfInBounds_toArray, List.set_cons_zero, List.set_cons_succ, i64_w, i32_w]
                      rfl
                    refine pure_ (i := 4) (N := some 57) (v := ?_) (a' := ?_) #[true, true, true, true, true, false, false, false, false, false, false, false, false, false] rfl rfl (any_of HT_.out (by kernel_rfl)) (fun _ _ _ h => h) (Or.inl ⟨by rfl, ?_⟩) ?_ ?_
                    rotate_left
                    · intro w'
                      go_simp
                      with_reducible rfl
                    rotate_left
                    · simp only [Act.put, List.setIfInBounds_toArray, List.set_cons_zero, List.set_cons_succ, i64_w, i32_w]
                      rfl
                    refine pure_ (i := 5) (N := some 58) (v := ?_) (a' := ?_) #[true, true, true, true, true, true, false, false, false, false, false, false, false, false] rfl rfl (any_of HT_.out (by kernel_rfl)) (fun _ _ _ h => h) (Or.inl ⟨by rfl, ?_⟩) ?_ ?_
                    rotate_left
                    · intro w'
                      go_simp
                      with_reducible rfl
                    rotate_left
                    · simp only [Act.put, List.setIfInBounds_toArray, List.set_cons_zero, List.set_cons_succ, i64_w, i32_w]
                      rfl
                    refine pure_ (i := 6) (N := some 59) (v := ?_) (a' := ?_) #[true, true, true, true, true, true, true, false, false, false, false, false, false, false] rfl rfl (any_of HT_.out (by kernel_rfl)) (fun _ _ _ h => h) (Or.inl ⟨by rfl, ?_⟩) ?_ ?_
                    rotate_left
                    · intro w'
                      go_simp
                      with_reducible rfl
                    rotate_left
                    · simp only [Act.put, List.setIfInBounds_toArray, List.set_cons_zero, List.set_cons_succ, i64_w, i32_w]
                      rfl
                    refine pure_ (i := 8) (N := some 61) (v := ?_) (a' := ?_) #[true, true, true, true, true, true, true, false, true, false, false, false, false, false] rfl rfl (any_of HT_.out (by kernel_rfl)) (fun _ _ _ h => h) (Or.inl ⟨by rfl, ?_⟩) ?_ ?_
                    rotate_left
                    · intro w'
                      go_simp
                      with_reducible rfl
                    rotate_left
                    · simp only [Act.put, List.setIfInBounds_toArray, List.set_cons_zero, List.set_cons_succ, i64_w, i32_w]
                      rfl
                    refine pure_ (i := 9) (N := some 62) (v := ?_) (a' := ?_) #[true, true, true, true, true, true, true, false, true, true, false, false, false, false] rfl rfl (any_of HT_.out (by kernel_rfl)) (fun _ _ _ h => h) (Or.inl ⟨by rfl, ?_⟩) ?_ ?_
                    rotate_left
                    · intro w'
                      go_simp
                      with_reducible rfl
                    rotate_left
                    · simp only [Act.put, List.setIfInBounds_toArray, List.set_cons_zero, List.set_cons_succ, i64_w, i32_w]
                      rfl
                    refine take_ (i := 7) (N := some 60) (v := ?_) (a' := ?_) #[true, true, true, true, true, true, true, true, true, true, false, false, false, false] rfl rfl (take_ofW HT_.out HW_.out (by kernel_rfl)) (fun _ _ _ h => h) (Or.inl ⟨by rfl, ?_⟩) hHeld ?_ ?_
                    rotate_left
                    · intro w' s0
                      go_simp
                      with_reducible rfl
                    rotate_left
                    · simp only [Act.put, List.setIfInBounds_toArray, List.set_cons_zero, List.set_cons_succ, i64_w, i32_w]
                      rfl
                    refine one_ (i := 10) (N := some 63) #[true, true, true, true, true, true, true, true, true, true, true, false, false, false] rfl rfl (one_of HT_.out (by kernel_rfl)) (by decide) (fun K hK => ?_)
                    refine goes_ Try.func27 (by kernel_rfl) rfl #[.string (strOfNums l0), .slice A1 l1.length c1] (by rfl) rfl rfl (by (try simp only [List.map_toArray, List.map_cons, List.map_nil]); first | done | rfl | (simp only [List.length_drop, List.length_take]; rfl) | (refine congrArg (fun z_ => #[z_]) (congrArg (Value.int IntKind.u64) (Eq.symm (Go.Proofs.YtjfklfmfeghjnacAid.wrap_len _ (by omega)))))) ?_
                    with_reducible refine (tachographref25_Apply.calls kj11 (strOfNums l0) _ _ l1 t152 _ ?side1 ?side2 A29.out).mono ?_
                    (case side1 => repeat (first | exact (Kd.C_below HR1.out HB.out) | (with_reducible refine Kd.C_alloc ?_ _) | (with_reducible refine Kd.C_drewN ?_ _) | (with_reducible refine Kd.C_drew ?_)))
                    (case side2 => exact HC1.out)
                    rintro e w' ⟨rfl, ⟨nd, rfl⟩⟩
                    refine ⟨_, rfl, ?_⟩
                    refine hK.out _ _ ((own_string (P := Try.prog) Try.underlying49 Try.underlying5 Try.underlying9 (Kd.own_of_R HO_6.out))) (fun hHeld => ?_)
                    clear hK K
                    refine norm_ (a' := ?_) ?_ ?_
                    rotate_left
                    · show Act.put _ (some 63) _ = _
                      simp only [Act.put, List.setIfInBounds_toArray, List.set_cons_zero, List.set_cons_succ, i64_w, i32_w]
                      rfl
                    refine pure_ (i := 11) (N := some 64) (v := ?_) (a' := ?_) #[true, true, true, true, true, true, true, true, true, true, true, true, false, false] rfl rfl (any_of HT_.out (by kernel_rfl)) (fun _ _ _ h => h) (Or.inl ⟨by rfl, ?_⟩) ?_ ?_
                    rotate_left
                    · intro w'
                      go_simp
                      with_reducible rfl
                    rotate_left
                    · simp only [Act.put, List.setIfInBounds_toArray, List.set_cons_zero, List.set_cons_succ, i64_w, i32_w]
                      rfl
                    refine pure_ (i := 12) (N := some 65) (v := ?_) (a' := ?_) #[true, true, true, true, true, true, true, true, true, true, true, true, true, false] rfl rfl (any_of HT_.out (by kernel_rfl)) (fun _ _ _ h => h) (Or.inl ⟨by rfl, ?_⟩) ?_ ?_
                    rotate_left
                    · intro w'
                      go_simp
                      with_reducible rfl
                    rotate_left
                    · simp only [Act.put, List.setIfInBounds_toArray, List.set_cons_zero, List.set_cons_succ, i64_w, i32_w]
                      rfl
                    refine pure_ (i := 13) (N := some 4) (v := ?_) (a' := ?_) #[true, true, true, true, true, true, true, true, true, true, true, true, true, true] rfl rfl (any_of HT_.out (by kernel_rfl)) (fun _ _ _ h => h) (Or.inl ⟨by rfl, ?_⟩) ?_ ?_
                    rotate_left
                    · intro w'
                      go_simp
                      with_reducible rfl
                    rotate_left
                    · simp only [Act.put, List.setIfInBounds_toArray, List.set_cons_zero, List.set_cons_succ, i64_w, i32_w]
                      rfl
                    refine done_ (done_of HT_.out (by kernel_rfl)) ?_
                    try go_wp2
                    go_ret
                    exact ⟨by first | rfl | (simp [errW_none, errW_some] <;> rfl) | (simp [*, errW_none, errW_some] <;> rfl), by repeat (first | (with_reducible first | exact HB.out | apply below_alloc | apply pw_below_drewN | apply below_drew1) | exact HB.out)⟩
                  · rw [if_neg c28] at H
                    have c28b0 : (t146 == 0) = false := beq_eq_false_iff_ne.mpr c28
                    have c28b1 : (t146 != 0) = true := bne_iff_ne.mpr c28
                    obtain rfl := Option.some.inj H
                    try go_wp2
                    have n0_ := Aside0.mk (Kd.R_drew HO_6.out)
                    have n1_ := Aside0.mk (below_drew1 HB.out)
                    clear HO_6
                    clear HB
                    have HO_6 := n0_
                    have HB := n1_
                    clear n0_ n1_
                    refine start_ (n := 14) (S := fun w' => True) (ds := []) #[false, false, false, false, false, false, false, false, false, false, false, false, false, false] (by kernel_rfl) rfl rfl trivial (fun hHeld => ?_); refine with_tabW tachographlaw25_WoundApplies.tab10 tachographlaw25_WoundApplies.bits10 (fun HT_ HW_ => ?_)
                    generalize wc.drew = w33 at HO_6 HB hHeld ⊢
                    refine one_ (i := 0) (N := some 53) #[true, false, false, false, false, false, false, false, false, false, false, false, false, false] rfl rfl (one_of HT_.out (by kernel_rfl)) (by decide) (fun K hK => ?_)
                    refine goes_ Try.func23 (by kernel_rfl) rfl #[] (by rfl) rfl rfl (by (try simp only [List.map_toArray, List.map_cons, List.map_nil]); first | done | rfl | (simp only [List.length_drop, List.length_take]; rfl) | (refine congrArg (fun z_ => #[z_]) (congrArg (Value.int IntKind.u64) (Eq.symm (Go.Proofs.YtjfklfmfeghjnacAid.wrap_len _ (by omega)))))) ?_
                    with_reducible refine (tachographlaw25_fixed.calls kj11  true _ A26.out).mono ?_
                    rintro e w34 ⟨rfl, hb⟩
                    refine ⟨_, rfl, ?_⟩
                    have n0_ := Aside0.mk (Kd.R_below (by (with_reducible repeat (first | apply Kd.R_alloc | apply Kd.R_drewN | apply Kd.R_drew)); exact HO_6.out) hb)
                    have n1_ := Aside0.mk (below_step (by repeat (first | (with_reducible first | exact HB.out | apply below_alloc | apply pw_below_drewN | apply below_drew1) | exact HB.out)) hb)
                    clear HO_6
                    clear HB
                    have HO_6 := n0_
                    have HB := n1_
                    clear n0_ n1_
                    (try clear hb)
                    (try clear hb2)
                    (try clear hk)
                    (try clear hi)
                    refine hK.out _ _ trivial (fun hHeld => ?_)
                    clear hK K
                    refine norm_ (a' := ?_) ?_ ?_
                    rotate_left
                    · show Act.put _ (some 53) _ = _
                      simp only [Act.put, List.setIfInBounds_toArray, List.set_cons_zero, List.set_cons_succ, i64_w, i32_w]
                      rfl
                    refine pure_ (i := 1) (N := some 54) (v := ?_) (a' := ?_) #[true, true, false, false, false, false, false, false, false, false, false, false, false, false] rfl rfl (any_of HT_.out (by kernel_rfl)) (fun _ _ _ h => h) (Or.inl ⟨by rfl, ?_⟩) ?_ ?_
                    rotate_left
                    · intro w'
                      go_simp
                      with_reducible rfl
                    rotate_left
                    · simp only [Act.put, List.setIfInBounds_toArray, List.set_cons_zero, List.set_cons_succ, i64_w, i32_w]
                      rfl
                    refine pure_ (i := 2) (N := some 55) (v := ?_) (a' := ?_) #[true, true, true, false, false, false, false, false, false, false, false, false, false, false] rfl rfl (any_of HT_.out (by kernel_rfl)) (fun _ _ _ h => h) (Or.inl ⟨by rfl, ?_⟩) ?_ ?_
                    rotate_left
                    · intro w'
                      go_simp
                      with_reducible rfl
                    rotate_left
                    · simp only [Act.put, List.setIfInBounds_toArray, List.set_cons_zero, List.set_cons_succ, i64_w, i32_w]
                      rfl
                    refine pure_ (i := 3) (N := some 56) (v := ?_) (a' := ?_) #[true, true, true, true, false, false, false, false, false, false, false, false, false, false] rfl rfl (any_of HT_.out (by kernel_rfl)) (fun _ _ _ h => h) (Or.inl ⟨by rfl, ?_⟩) ?_ ?_
                    rotate_left
                    · intro w'
                      go_simp
                      with_reducible rfl
                    rotate_left
                    · simp only [Act.put, List.setIfInBounds_toArray, List.set_cons_zero, List.set_cons_succ, i64_w, i32_w]
                      rfl
                    refine pure_ (i := 4) (N := some 57) (v := ?_) (a' := ?_) #[true, true, true, true, true, false, false, false, false, false, false, false, false, false] rfl rfl (any_of HT_.out (by kernel_rfl)) (fun _ _ _ h => h) (Or.inl ⟨by rfl, ?_⟩) ?_ ?_
                    rotate_left
                    · intro w'
                      go_simp
                      with_reducible rfl
                    rotate_left
                    · simp only [Act.put, List.setIfInBounds_toArray, List.set_cons_zero, List.set_cons_succ, i64_w, i32_w]
                      rfl
                    refine pure_ (i := 5) (N := some 58) (v := ?_) (a' := ?_) #[true, true, true, true, true, true, false, false, false, false, false, false, false, false] rfl rfl (any_of HT_.out (by kernel_rfl)) (fun _ _ _ h => h) (Or.inl ⟨by rfl, ?_⟩) ?_ ?_
                    rotate_left
                    · intro w'
                      go_simp
                      with_reducible rfl
                    rotate_left
                    · simp only [Act.put, List.setIfInBounds_toArray, List.set_cons_zero, List.set_cons_succ, i64_w, i32_w]
                      rfl
                    refine pure_ (i := 6) (N := some 59) (v := undef) (a' := ?_) #[true, true, true, true, true, true, true, false, false, false, false, false, false, false] rfl rfl (any_of HT_.out (by kernel_rfl)) (fun _ _ _ h => h) (Or.inr ⟨by rfl, rfl⟩) ?_ ?_
                    rotate_left
                    · simp only [Act.put, List.setIfInBounds_toArray, List.set_cons_zero, List.set_cons_succ, i64_w, i32_w]
                      rfl
                    refine pure_ (i := 7) (N := some 60) (v := undef) (a' := ?_) #[true, true, true, true, true, true, true, true, false, false, false, false, false, false] rfl rfl (any_of HT_.out (by kernel_rfl)) (fun _ _ _ h => h) (Or.inr ⟨by rfl, rfl⟩) ?_ ?_
                    rotate_left
                    · simp only [Act.put, List.setIfInBounds_toArray, List.set_cons_zero, List.set_cons_succ, i64_w, i32_w]
                      rfl
                    refine pure_ (i := 8) (N := some 61) (v := undef) (a' := ?_) #[true, true, true, true, true, true, true, true, true, false, false, false, false, false] rfl rfl (any_of HT_.out (by kernel_rfl)) (fun _ _ _ h => h) (Or.inr ⟨by rfl, rfl⟩) ?_ ?_
                    rotate_left
                    · simp only [Act.put, List.setIfInBounds_toArray, List.set_cons_zero, List.set_cons_succ, i64_w, i32_w]
                      rfl
                    refine pure_ (i := 9) (N := some 62) (v := undef) (a' := ?_) #[true, true, true, true, true, true, true, true, true, true, false, false, false, false] rfl rfl (any_of HT_.out (by kernel_rfl)) (fun _ _ _ h => h) (Or.inr ⟨by rfl, rfl⟩) ?_ ?_
                    rotate_left
                    · simp only [Act.put, List.setIfInBounds_toArray, List.set_cons_zero, List.set_cons_succ, i64_w, i32_w]
                      rfl
                    refine pure_ (i := 10) (N := some 63) (v := undef) (a' := ?_) #[true, true, true, true, true, true, true, true, true, true, true, false, false, false] rfl rfl (any_of HT_.out (by kernel_rfl)) (fun _ _ _ h => h) (Or.inr ⟨by rfl, rfl⟩) ?_ ?_
                    rotate_left
                    · simp only [Act.put, List.setIfInBounds_toArray, List.set_cons_zero, List.set_cons_succ, i64_w, i32_w]
                      rfl
                    refine pure_ (i := 11) (N := some 64) (v := undef) (a' := ?_) #[true, true, true, true, true, true, true, true, true, true, true, true, false, false] rfl rfl (any_of HT_.out (by kernel_rfl)) (fun _ _ _ h => h) (Or.inr ⟨by rfl, rfl⟩) ?_ ?_
                    rotate_left
                    · simp only [Act.put, List.setIfInBounds_toArray, List.set_cons_zero, List.set_cons_succ, i64_w, i32_w]
                      rfl
                    refine pure_ (i := 12) (N := some 65) (v := ?_) (a' := ?_) #[true, true, true, true, true, true, true, true, true, true, true, true, true, false] rfl rfl (any_of HT_.out (by kernel_rfl)) (fun _ _ _ h => h) (Or.inl ⟨by rfl, ?_⟩) ?_ ?_
                    rotate_left
                    · intro w'
                      go_simp
                      with_reducible rfl
                    rotate_left
                    · simp only [Act.put, List.setIfInBounds_toArray, List.set_cons_zero, List.set_cons_succ, i64_w, i32_w]
                      rfl
                    refine pure_ (i := 13) (N := some 4) (v := ?_) (a' := ?_) #[true, true, true, true, true, true, true, true, true, true, true, true, true, true] rfl rfl (any_of HT_.out (by kernel_rfl)) (fun _ _ _ h => h) (Or.inl ⟨by rfl, ?_⟩) ?_ ?_
                    rotate_left
                    · intro w'
                      go_simp
                      with_reducible rfl
                    rotate_left
                    · simp only [Act.put, List.setIfInBounds_toArray, List.set_cons_zero, List.set_cons_succ, i64_w, i32_w]
                      rfl
                    refine done_ (done_of HT_.out (by kernel_rfl)) ?_
                    try go_wp2
                    go_ret
                    exact ⟨by first | rfl | (simp [errW_none, errW_some] <;> rfl) | (simp [*, errW_none, errW_some] <;> rfl), by repeat (first | (with_reducible first | exact HB.out | apply below_alloc | apply pw_below_drewN | apply below_drew1) | exact HB.out)⟩
                · replace c27 := Bool.eq_false_iff.mpr c27
                  subst c27
                  have H1 : (some false) = some r := by rw [if_neg (show ¬ (false = true) by decide)] at H; exact H
                  clear H
                  have H := H1
                  clear H1
                  obtain rfl := Option.some.inj H
                  try go_wp2
                  have n0_ := Aside0.mk (Kd.R_drew HO_6.out)
                  have n1_ := Aside0.mk (below_drew1 HB.out)
                  clear HO_6
                  clear HB
                  have HO_6 := n0_
                  have HB := n1_
                  clear n0_ n1_
                  refine start_ (n := 14) (S := fun w' => True) (ds := []) #[false, false, false, false, false, false, false, false, false, false, false, false, false, false] (by kernel_rfl) rfl rfl trivial (fun hHeld => ?_); refine with_tabW tachographlaw25_WoundApplies.tab10 tachographlaw25_WoundApplies.bits10 (fun HT_ HW_ => ?_)
                  generalize wc.drew = w35 at HO_6 HB hHeld ⊢
                  refine one_ (i := 0) (N := some 53) #[true, false, false, false, false, false, false, false, false, false, false, false, false, false] rfl rfl (one_of HT_.out (by kernel_rfl)) (by decide) (fun K hK => ?_)
                  refine goes_ Try.func23 (by kernel_rfl) rfl #[] (by rfl) rfl rfl (by (try simp only [List.map_toArray, List.map_cons, List.map_nil]); first | done | rfl | (simp only [List.length_drop, List.length_take]; rfl) | (refine congrArg (fun z_ => #[z_]) (congrArg (Value.int IntKind.u64) (Eq.symm (Go.Proofs.YtjfklfmfeghjnacAid.wrap_len _ (by omega)))))) ?_
                  with_reducible refine (tachographlaw25_fixed.calls kj11  false _ A26.out).mono ?_
                  rintro e w36 ⟨rfl, hb⟩
                  refine ⟨_, rfl, ?_⟩
                  have n0_ := Aside0.mk (Kd.R_below (by (with_reducible repeat (first | apply Kd.R_alloc | apply Kd.R_drewN | apply Kd.R_drew)); exact HO_6.out) hb)
                  have n1_ := Aside0.mk (below_step (by repeat (first | (with_reducible first | exact HB.out | apply below_alloc | apply pw_below_drewN | apply below_drew1) | exact HB.out)) hb)
                  clear HO_6
                  clear HB
                  have HO_6 := n0_
                  have HB := n1_
                  clear n0_ n1_
                  (try clear hb)
                  (try clear hb2)
                  (try clear hk)
                  (try clear hi)
                  refine hK.out _ _ trivial (fun hHeld => ?_)
                  clear hK K
                  refine norm_ (a' := ?_) ?_ ?_
                  rotate_left
                  · show Act.put _ (some 53) _ = _
                    simp only [Act.put, List.setIfInBounds_toArray, List.set_cons_zero, List.set_cons_succ, i64_w, i32_w]
                    rfl
                  refine pure_ (i := 1) (N := some 54) (v := ?_) (a' := ?_) #[true, true, false, false, false, false, false, false, false, false, false, false, false, false] rfl rfl (any_of HT_.out (by kernel_rfl)) (fun _ _ _ h => h) (Or.inl ⟨by rfl, ?_⟩) ?_ ?_
                  rotate_left
                  · intro w'
                    go_simp
                    with_reducible rfl
                  rotate_left
                  · simp only [Act.put, List.setIfInBounds_toArray, List.set_cons_zero, List.set_cons_succ, i64_w, i32_w]
                    rfl
                  refine pure_ (i := 2) (N := some 55) (v := undef) (a' := ?_) #[true, true, true, false, false, false, false, false, false, false, false, false, false, false] rfl rfl (any_of HT_.out (by kernel_rfl)) (fun _ _ _ h => h) (Or.inr ⟨by rfl, rfl⟩) ?_ ?_
                  rotate_left
                  · simp only [Act.put, List.setIfInBounds_toArray, List.set_cons_zero, List.set_cons_succ, i64_w, i32_w]
                    rfl
                  refine pure_ (i := 3) (N := some 56) (v := undef) (a' := ?_) #[true, true, true, true, false, false, false, false, false, false, false, false, false, false] rfl rfl (any_of HT_.out (by kernel_rfl)) (fun _ _ _ h => h) (Or.inr ⟨by rfl, rfl⟩) ?_ ?_
                  rotate_left
                  · simp only [Act.put, List.setIfInBounds_toArray, List.set_cons_zero, List.set_cons_succ, i64_w, i32_w]
                    rfl
                  refine pure_ (i := 4) (N := some 57) (v := ?_) (a' := ?_) #[true, true, true, true, true, false, false, false, false, false, false, false, false, false] rfl rfl (any_of HT_.out (by kernel_rfl)) (fun _ _ _ h => h) (Or.inl ⟨by rfl, ?_⟩) ?_ ?_
                  rotate_left
                  · intro w'
                    go_simp
                    with_reducible rfl
                  rotate_left
                  · simp only [Act.put, List.setIfInBounds_toArray, List.set_cons_zero, List.set_cons_succ, i64_w, i32_w]
                    rfl
                  refine pure_ (i := 5) (N := some 58) (v := ?_) (a' := ?_) #[true, true, true, true, true, true, false, false, false, false, false, false, false, false] rfl rfl (any_of HT_.out (by kernel_rfl)) (fun _ _ _ h => h) (Or.inl ⟨by rfl, ?_⟩) ?_ ?_
                  rotate_left
                  · intro w'
                    go_simp
                    with_reducible rfl
                  rotate_left
                  · simp only [Act.put, List.setIfInBounds_toArray, List.set_cons_zero, List.set_cons_succ, i64_w, i32_w]
                    rfl
                  refine pure_ (i := 6) (N := some 59) (v := undef) (a' := ?_) #[true, true, true, true, true, true, true, false, false, false, false, false, false, false] rfl rfl (any_of HT_.out (by kernel_rfl)) (fun _ _ _ h => h) (Or.inr ⟨by rfl, rfl⟩) ?_ ?_
                  rotate_left
                  · simp only [Act.put, List.setIfInBounds_toArray, List.set_cons_zero, List.set_cons_succ, i64_w, i32_w]
                    rfl
                  refine pure_ (i := 7) (N := some 60) (v := undef) (a' := ?_) #[true, true, true, true, true, true, true, true, false, false, false, false, false, false] rfl rfl (any_of HT_.out (by kernel_rfl)) (fun _ _ _ h => h) (Or.inr ⟨by rfl, rfl⟩) ?_ ?_
                  rotate_left
                  · simp only [Act.put, List.setIfInBounds_toArray, List.set_cons_zero, List.set_cons_succ, i64_w, i32_w]
                    rfl
                  refine pure_ (i := 8) (N := some 61) (v := undef) (a' := ?_) #[true, true, true, true, true, true, true, true, true, false, false, false, false, false] rfl rfl (any_of HT_.out (by kernel_rfl)) (fun _ _ _ h => h) (Or.inr ⟨by rfl, rfl⟩) ?_ ?_
                  rotate_left
                  · simp only [Act.put, List.setIfInBounds_toArray, List.set_cons_zero, List.set_cons_succ, i64_w, i32_w]
                    rfl
                  refine pure_ (i := 9) (N := some 62) (v := undef) (a' := ?_) #[true, true, true, true, true, true, true, true, true, true, false, false, false, false] rfl rfl (any_of HT_.out (by kernel_rfl)) (fun _ _ _ h => h) (Or.inr ⟨by rfl, rfl⟩) ?_ ?_
                  rotate_left
                  · simp only [Act.put, List.setIfInBounds_toArray, List.set_cons_zero, List.set_cons_succ, i64_w, i32_w]
                    rfl
                  refine pure_ (i := 10) (N := some 63) (v := undef) (a' := ?_) #[true, true, true, true, true, true, true, true, true, true, true, false, false, false] rfl rfl (any_of HT_.out (by kernel_rfl)) (fun _ _ _ h => h) (Or.inr ⟨by rfl, rfl⟩) ?_ ?_
                  rotate_left
                  · simp only [Act.put, List.setIfInBounds_toArray, List.set_cons_zero, List.set_cons_succ, i64_w, i32_w]
                    rfl
                  refine pure_ (i := 11) (N := some 64) (v := undef) (a' := ?_) #[true, true, true, true, true, true, true, true, true, true, true, true, false, false] rfl rfl (any_of HT_.out (by kernel_rfl)) (fun _ _ _ h => h) (Or.inr ⟨by rfl, rfl⟩) ?_ ?_
                  rotate_left
                  · simp only [Act.put, List.setIfInBounds_toArray, List.set_cons_zero, List.set_cons_succ, i64_w, i32_w]
                    rfl
                  refine pure_ (i := 12) (N := some 65) (v := ?_) (a' := ?_) #[true, true, true, true, true, true, true, true, true, true, true, true, true, false] rfl rfl (any_of HT_.out (by kernel_rfl)) (fun _ _ _ h => h) (Or.inl ⟨by rfl, ?_⟩) ?_ ?_
                  rotate_left
                  · intro w'
                    go_simp
                    with_reducible rfl
                  rotate_left
                  · simp only [Act.put, List.setIfInBounds_toArray, List.set_cons_zero, List.set_cons_succ, i64_w, i32_w]
                    rfl
                  refine pure_ (i := 13) (N := some 4) (v := ?_) (a' := ?_) #[true, true, true, true, true, true, true, true, true, true, true, true, true, true] rfl rfl (any_of HT_.out (by kernel_rfl)) (fun _ _ _ h => h) (Or.inl ⟨by rfl, ?_⟩) ?_ ?_
                  rotate_left
                  · intro w'
                    go_simp
                    with_reducible rfl
                  rotate_left
                  · simp only [Act.put, List.setIfInBounds_toArray, List.set_cons_zero, List.set_cons_succ, i64_w, i32_w]
                    rfl
                  refine done_ (done_of HT_.out (by kernel_rfl)) ?_
                  try go_wp2
                  go_ret
                  exact ⟨by first | rfl | (simp [errW_none, errW_some] <;> rfl) | (simp [*, errW_none, errW_some] <;> rfl), by repeat (first | (with_reducible first | exact HB.out | apply below_alloc | apply pw_below_drewN | apply below_drew1) | exact HB.out)⟩
              · replace c25 := Bool.eq_false_iff.mpr c25
                subst c25
                have H1 : ((tachographlaw25_fixed.f kj11).bind fun t153 => (if t153 = true then (if (t145.length : Int) = 0 then (some (t146 == 1)) else (some false)) else (some false))) = some r := by rw [if_neg (show ¬ (false = true) by decide)] at H; exact H
                clear H
                have H := H1
                clear H1
                replace H := Option.bind_eq_some_iff.mp H
                obtain ⟨t153, A370, H⟩ := H
                replace H : (if t153 = true then (if (t145.length : Int) = 0 then (some (t146 == 1)) else (some false)) else (some false)) = some r := H
                have A37 := Aside0.mk A370
                clear A370
                by_cases c38 : t153 = true
                · subst c38
                  have H1 : (if (t145.length : Int) = 0 then (some (t146 == 1)) else (some false)) = some r := by rw [if_pos rfl] at H; exact H
                  clear H
                  have H := H1
                  clear H1
                  by_cases c39 : (t145.length : Int) = 0
                  · rw [if_pos c39] at H
                    have c39b0 : ((t145.length : Int) == 0) = true := beq_iff_eq.mpr c39
                    have c39b1 : ((t145.length : Int) != 0) = false := bne_eq_false_iff_eq.mpr c39
                    clear c39
                    obtain rfl := Option.some.inj H
                    go_wp2_with (first | ((with_reducible refine gate_callee (f := 23) rfl ?_); refine goesL_ (some 43) rfl rfl Try.func23 (by kernel_rfl) rfl #[] rfl (by (try simp only [List.map_toArray, List.map_cons, List.map_nil]); first | done | rfl | (simp only [List.length_drop, List.length_take]; rfl) | (refine congrArg (fun z_ => #[z_]) (congrArg (Value.int IntKind.u64) (Eq.symm (Go.Proofs.YtjfklfmfeghjnacAid.wrap_len _ (by omega)))))) ?_; (with_reducible refine (tachographlaw25_fixed.calls kj11  true _ A37.out).mono ?_); rintro e w40 ⟨rfl, hb⟩; refine ⟨_, rfl, ?_⟩; have n0_ := Aside0.mk (Kd.R_below (by (with_reducible repeat (first | apply Kd.R_alloc | apply Kd.R_drewN | apply Kd.R_drew)); exact HO_6.out) hb); have n1_ := Aside0.mk (below_step (by repeat (first | (with_reducible first | exact HB.out | apply below_alloc | apply pw_below_drewN | apply below_drew1) | exact HB.out)) hb); clear HO_6; clear HB; have HO_6 := n0_; have HB := n1_; clear n0_ n1_; (try clear hb); (try clear hb2); (try clear hk); (try clear hi); obtain ⟨Ao41, co41, eo41⟩ := Kd.R_slice HO_6.out; subst eo41))
                    go_ret
                    exact ⟨by first | rfl | (simp [errW_none, errW_some] <;> rfl) | (simp [*, errW_none, errW_some] <;> rfl), by repeat (first | (with_reducible first | exact HB.out | apply below_alloc | apply pw_below_drewN | apply below_drew1) | exact HB.out)⟩
                  · rw [if_neg c39] at H
                    have c39b0 : ((t145.length : Int) == 0) = false := beq_eq_false_iff_ne.mpr c39
                    have c39b1 : ((t145.length : Int) != 0) = true := bne_iff_ne.mpr c39
                    have c39b2 : ¬ (t145 = []) := fun h_ => c39 (by rw [h_]; rfl)
                    obtain rfl := Option.some.inj H
                    go_wp2_with (first | ((with_reducible refine gate_callee (f := 23) rfl ?_); refine goesL_ (some 43) rfl rfl Try.func23 (by kernel_rfl) rfl #[] rfl (by (try simp only [List.map_toArray, List.map_cons, List.map_nil]); first | done | rfl | (simp only [List.length_drop, List.length_take]; rfl) | (refine congrArg (fun z_ => #[z_]) (congrArg (Value.int IntKind.u64) (Eq.symm (Go.Proofs.YtjfklfmfeghjnacAid.wrap_len _ (by omega)))))) ?_; (with_reducible refine (tachographlaw25_fixed.calls kj11  true _ A37.out).mono ?_); rintro e w42 ⟨rfl, hb⟩; refine ⟨_, rfl, ?_⟩; have n0_ := Aside0.mk (Kd.R_below (by (with_reducible repeat (first | apply Kd.R_alloc | apply Kd.R_drewN | apply Kd.R_drew)); exact HO_6.out) hb); have n1_ := Aside0.mk (below_step (by repeat (first | (with_reducible first | exact HB.out | apply below_alloc | apply pw_below_drewN | apply below_drew1) | exact HB.out)) hb); clear HO_6; clear HB; have HO_6 := n0_; have HB := n1_; clear n0_ n1_; (try clear hb); (try clear hb2); (try clear hk); (try clear hi); obtain ⟨Ao43, co43, eo43⟩ := Kd.R_slice HO_6.out; subst eo43))
                    go_ret
                    exact ⟨by first | rfl | (simp [errW_none, errW_some] <;> rfl) | (simp [*, errW_none, errW_some] <;> rfl), by repeat (first | (with_reducible first | exact HB.out | apply below_alloc | apply pw_below_drewN | apply below_drew1) | exact HB.out)⟩
                · replace c38 := Bool.eq_false_iff.mpr c38
                  subst c38
                  have H1 : (some false) = some r := by rw [if_neg (show ¬ (false = true) by decide)] at H; exact H
                  clear H
                  have H := H1
                  clear H1
                  obtain rfl := Option.some.inj H
                  go_wp2_with (first | ((with_reducible refine gate_callee (f := 23) rfl ?_); refine goesL_ (some 43) rfl rfl Try.func23 (by kernel_rfl) rfl #[] rfl (by (try simp only [List.map_toArray, List.map_cons, List.map_nil]); first | done | rfl | (simp only [List.length_drop, List.length_take]; rfl) | (refine congrArg (fun z_ => #[z_]) (congrArg (Value.int IntKind.u64) (Eq.symm (Go.Proofs.YtjfklfmfeghjnacAid.wrap_len _ (by omega)))))) ?_; (with_reducible refine (tachographlaw25_fixed.calls kj11  false _ A37.out).mono ?_); rintro e w44 ⟨rfl, hb⟩; refine ⟨_, rfl, ?_⟩; have n0_ := Aside0.mk (Kd.R_below (by (with_reducible repeat (first | apply Kd.R_alloc | apply Kd.R_drewN | apply Kd.R_drew)); exact HO_6.out) hb); have n1_ := Aside0.mk (below_step (by repeat (first | (with_reducible first | exact HB.out | apply below_alloc | apply pw_below_drewN | apply below_drew1) | exact HB.out)) hb); clear HO_6; clear HB; have HO_6 := n0_; have HB := n1_; clear n0_ n1_; (try clear hb); (try clear hb2); (try clear hk); (try clear hi)))
                  go_ret
                  exact ⟨by first | rfl | (simp [errW_none, errW_some] <;> rfl) | (simp [*, errW_none, errW_some] <;> rfl), by repeat (first | (with_reducible first | exact HB.out | apply below_alloc | apply pw_below_drewN | apply below_drew1) | exact HB.out)⟩

/-- THE ONE PURE STATEMENT of tachographlaw25_WoundApplies: yours. -/
def tachographlaw25_WoundApplies.Pure : Prop := ∀ (l0 : List Int) (l1 : List (S86)), (Go.Proofs.YtjfklfmfeghjnacOpen.sliceOk 1 (Go.Proofs.YtjfklfmfeghjnacOpen.intOk .u8)) l0 → (Go.Proofs.YtjfklfmfeghjnacOpen.sliceOk 40 (fun b_ : S86 => (Go.Proofs.YtjfklfmfeghjnacOpen.pairOk (Go.Proofs.YtjfklfmfeghjnacOpen.intOk .i64) (Go.Proofs.YtjfklfmfeghjnacOpen.pairOk (Go.Proofs.YtjfklfmfeghjnacOpen.intOk .i64) (Go.Proofs.YtjfklfmfeghjnacOpen.sliceOk 1 (Go.Proofs.YtjfklfmfeghjnacOpen.intOk .u8)))) (b_.f0, b_.f1, b_.f2))) l1 → ((Go.Proofs.YtjfklfmfeghjnacOpen.sliceBulk Go.Proofs.YtjfklfmfeghjnacOpen.oneBulk) l0 + (Go.Proofs.YtjfklfmfeghjnacOpen.sliceBulk (fun b_ : S86 => (Go.Proofs.YtjfklfmfeghjnacOpen.pairBulk Go.Proofs.YtjfklfmfeghjnacOpen.oneBulk (Go.Proofs.YtjfklfmfeghjnacOpen.pairBulk Go.Proofs.YtjfklfmfeghjnacOpen.oneBulk (Go.Proofs.YtjfklfmfeghjnacOpen.sliceBulk Go.Proofs.YtjfklfmfeghjnacOpen.oneBulk))) (b_.f0, b_.f1, b_.f2))) l1 ≤ 1048576) → ∃ k, tachographlaw25_WoundApplies.f k l0 l1 = some true
theorem tachographlaw25_WoundApplies.walk (P : tachographlaw25_WoundApplies.Pure) (a0 : Option Addr) (cap0 : Nat) (l0 : List Int) (a1 : Option Addr) (cap1 : Nat) (l1 : List (S86)) (w : World) (w0 : (Go.Proofs.YtjfklfmfeghjnacOpen.sliceOk 1 (Go.Proofs.YtjfklfmfeghjnacOpen.intOk .u8)) l0) (e0 : l0.length ≤ cap0) (C0 : Kd.C (Kd.int .u8) w a0 l0.length l0) (w1 : (Go.Proofs.YtjfklfmfeghjnacOpen.sliceOk 40 (fun b_ : S86 => (Go.Proofs.YtjfklfmfeghjnacOpen.pairOk (Go.Proofs.YtjfklfmfeghjnacOpen.intOk .i64) (Go.Proofs.YtjfklfmfeghjnacOpen.pairOk (Go.Proofs.YtjfklfmfeghjnacOpen.intOk .i64) (Go.Proofs.YtjfklfmfeghjnacOpen.sliceOk 1 (Go.Proofs.YtjfklfmfeghjnacOpen.intOk .u8)))) (b_.f0, b_.f1, b_.f2))) l1) (e1 : l1.length ≤ cap1) (C1 : Kd.C k86 w a1 l1.length l1) (hbk : (Go.Proofs.YtjfklfmfeghjnacOpen.sliceBulk Go.Proofs.YtjfklfmfeghjnacOpen.oneBulk) l0 + (Go.Proofs.YtjfklfmfeghjnacOpen.sliceBulk (fun b_ : S86 => (Go.Proofs.YtjfklfmfeghjnacOpen.pairBulk Go.Proofs.YtjfklfmfeghjnacOpen.oneBulk (Go.Proofs.YtjfklfmfeghjnacOpen.pairBulk Go.Proofs.YtjfklfmfeghjnacOpen.oneBulk (Go.Proofs.YtjfklfmfeghjnacOpen.sliceBulk Go.Proofs.YtjfklfmfeghjnacOpen.oneBulk))) (b_.f0, b_.f1, b_.f2))) l1 ≤ 1048576) :
    Calls Try.prog 9 #[.slice a0 l0.length cap0, .slice a1 l1.length cap1] w fun e w' => e = .returned (.bool true) ∧ Below w.heap.size w w' := by
  obtain ⟨k, h⟩ := P l0 l1 w0 w1 hbk
  refine (tachographlaw25_WoundApplies.calls k _ _ l0 _ _ l1 true w C0 e0 C1 e1 h).mono ?_
  rintro e w' ⟨rfl, hd⟩
  exact ⟨rfl, hd⟩

end Go.Proofs.Ytjfklfmfeghjnac.PW
