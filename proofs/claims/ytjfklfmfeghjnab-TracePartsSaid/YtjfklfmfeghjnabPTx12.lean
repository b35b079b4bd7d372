-- Contracts of Go functions, each with its plain Lean function: written by wip/tools/myprint.py of this work (the kit's print, with contracts proved by hand spliced in).
import Derived.Test.YtjfklfmfeghjnabPTx0
import Derived.Test.YtjfklfmfeghjnabPTx3
import Derived.Test.YtjfklfmfeghjnabPTx5
import Derived.Test.YtjfklfmfeghjnabPTx10
namespace Go.Proofs.Ytjfklfmfeghjnab.PT
open Go.RowKit Go.Proofs.YtjfklfmfeghjnabW.PrintWords Go.Proofs.YtjfklfmfeghjnabW.PrintLast Go.Proofs.YtjfklfmfeghjnabW.PrintMore
attribute [local go_sem] max2_int min2_int max_two min_two max_three min_three max_four min_four   -- for this text's walks alone
set_option linter.unusedVariables false
set_option linter.unusedSimpArgs false

/-! ### tachographlaw12_TraceParts: function 6 -/
mutual
def tachographlaw12_TraceParts.j0 : Nat → List (S106) → List (S44) → Int → Bool → Option (Bool)
  | 0, _, _, _, _ => none
  | k + 1, x0, x1, x2, x30 => if x30 = true then ((tachographlaw12_fixed.f k).bind fun t181 => (some t181)) else ((trace_Check.f k x0 x1).bind fun bt182 => (if bt182.1 = 0 then (if (wrap64 ((x1.length : Int) + 1)) = 0 then (none) else (if 0 ≤ (Int.tmod (wrap64 (x2)) (wrap64 ((x1.length : Int) + 1))) then (if (Int.tmod (wrap64 (x2)) (wrap64 ((x1.length : Int) + 1))) ≤ (x1.length : Int) then ((trace_Check.f k x0 (x1.take ((Int.tmod (wrap64 (x2)) (wrap64 ((x1.length : Int) + 1))) : Int).toNat)).bind fun bt189 => ((trace_Check.f k x0 (x1.drop ((Int.tmod (wrap64 (x2)) (wrap64 ((x1.length : Int) + 1))) : Int).toNat)).bind fun bt195 => ((trace_Count.f (x1.take ((Int.tmod (wrap64 (x2)) (wrap64 ((x1.length : Int) + 1))) : Int).toNat)).bind fun bt201 => ((trace_Count.f (x1.drop ((Int.tmod (wrap64 (x2)) (wrap64 ((x1.length : Int) + 1))) : Int).toNat)).bind fun bt208 => ((trace_Count.f x1).bind fun bt211 => (if bt189.1 = 0 then (if bt195.1 = 0 then (if (wrap64 (bt201.1 + bt208.1)) = bt211.1 then (if (wrap64 (bt201.2.1 + bt208.2.1)) = bt211.2.1 then (tachographlaw12_TraceParts.j1 k x0 x1 ((wrap64 (bt201.2.2 + bt208.2.2)) != bt211.2.2)) else (tachographlaw12_TraceParts.j1 k x0 x1 true)) else (tachographlaw12_TraceParts.j1 k x0 x1 true)) else (tachographlaw12_TraceParts.j1 k x0 x1 true)) else (tachographlaw12_TraceParts.j1 k x0 x1 true))))))) else (none)) else (none))) else ((tachographlaw12_fixed.f k).bind fun t184 => (some t184))))
def tachographlaw12_TraceParts.j1 : Nat → List (S106) → List (S44) → Bool → Option (Bool)
  | 0, _, _, _ => none
  | k + 1, x0, x1, x111 => if x111 = true then (some false) else (if (x1.length : Int) = 0 then (tachographlaw12_TraceParts.j2 k x0 x1 true) else (if 0 ≤ (wrap64 ((x1.length : Int) - 1)) then (if (wrap64 ((x1.length : Int) - 1)) < (x1.length : Int) then (tachographlaw12_TraceParts.j2 k x0 x1 (((rd_T44 x1 (wrap64 ((x1.length : Int) - 1))).f0) == 0)) else (none)) else (none)))
def tachographlaw12_TraceParts.j2 : Nat → List (S106) → List (S44) → Bool → Option (Bool)
  | 0, _, _, _ => none
  | k + 1, x0, x1, x124 => if x124 = true then ((tachographlaw12_fixed.f k).bind fun t215 => (some t215)) else (if 0 ≤ (wrap64 ((x1.length : Int) - 1)) then (if (wrap64 ((x1.length : Int) - 1)) < (x1.length : Int) then ((if x1.length ≤ 3000 then (trace_Check.f k x0 (x1 ++ ([(⟨IntKind.u64.wrap (((rd_T44 x1 (wrap64 ((x1.length : Int) - 1))).f0) - 1), ([] : List (S61))⟩ : S44)] : List (S44)))) else none).bind fun bt220 => ((tachographlaw12_fixed.f k).bind fun t222 => (if t222 = true then (if bt220.1 = 8 then (some (bt220.2 == (x1.length : Int))) else (some false)) else (some false)))) else (none)) else (none))
end
def tachographlaw12_TraceParts.f (k : Nat) (l0 : List (S106)) (l1 : List (S44)) (a2 : Int) : Option (Bool) := (tachographlaw09_Great.f k l0).bind fun t179 => (if t179 = true then (tachographlaw12_TraceParts.j0 k l0 l1 a2 true) else ((tachographlaw12_Great.f k l1 3000).bind fun t180 => (tachographlaw12_TraceParts.j0 k l0 l1 a2 t180)))
theorem tachographlaw12_TraceParts.mono_l : ∀ k, (∀ y0 y1 y2 y3, LeO (tachographlaw12_TraceParts.j0 k y0 y1 y2 y3) (tachographlaw12_TraceParts.j0 (k + 1) y0 y1 y2 y3)) ∧ (∀ y0 y1 y2, LeO (tachographlaw12_TraceParts.j1 k y0 y1 y2) (tachographlaw12_TraceParts.j1 (k + 1) y0 y1 y2)) ∧ (∀ y0 y1 y2, LeO (tachographlaw12_TraceParts.j2 k y0 y1 y2) (tachographlaw12_TraceParts.j2 (k + 1) y0 y1 y2))
  | 0 => ⟨fun _ _ _ _ r h => by simp [tachographlaw12_TraceParts.j0] at h, fun _ _ _ r h => by simp [tachographlaw12_TraceParts.j1] at h, fun _ _ _ r h => by simp [tachographlaw12_TraceParts.j2] at h⟩
  | k + 1 => by
    obtain ⟨ih0, ih1, ih2⟩ := tachographlaw12_TraceParts.mono_l k
    refine ⟨?_, ?_, ?_⟩
    · intro y0 y1 y2 y3
      unfold tachographlaw12_TraceParts.j0
      repeat' first
      | (with_reducible exact ih0 _ _ _ _)
      | (with_reducible exact ih1 _ _ _)
      | (with_reducible exact ih2 _ _ _)
      | (with_reducible exact tachographlaw09_Great.mono _ _)
      | (with_reducible exact tachographlaw12_Great.mono _ _ _)
      | (with_reducible exact tachographlaw12_fixed.mono _)
      | (with_reducible exact trace_Check.mono _ _ _)
      | (with_reducible exact LeO.refl _)
      | (with_reducible exact LeO.none _)
      | (with_reducible refine LeO.ite ?_ ?_)
      | (with_reducible refine LeO.bind ?_ (fun _ => ?_))
      | exact ih0 _ _ _ _
      | exact ih1 _ _ _
      | exact ih2 _ _ _
      | exact tachographlaw09_Great.mono _ _
      | exact tachographlaw12_Great.mono _ _ _
      | exact tachographlaw12_fixed.mono _
      | exact trace_Check.mono _ _ _
      | exact LeO.none _
      | refine LeO.ite ?_ ?_
      | refine LeO.bind ?_ (fun _ => ?_)
    · intro y0 y1 y2
      unfold tachographlaw12_TraceParts.j1
      repeat' first
      | (with_reducible exact ih0 _ _ _ _)
      | (with_reducible exact ih1 _ _ _)
      | (with_reducible exact ih2 _ _ _)
      | (with_reducible exact tachographlaw09_Great.mono _ _)
      | (with_reducible exact tachographlaw12_Great.mono _ _ _)
      | (with_reducible exact tachographlaw12_fixed.mono _)
      | (with_reducible exact trace_Check.mono _ _ _)
      | (with_reducible exact LeO.refl _)
      | (with_reducible exact LeO.none _)
      | (with_reducible refine LeO.ite ?_ ?_)
      | (with_reducible refine LeO.bind ?_ (fun _ => ?_))
      | exact ih0 _ _ _ _
      | exact ih1 _ _ _
      | exact ih2 _ _ _
      | exact tachographlaw09_Great.mono _ _
      | exact tachographlaw12_Great.mono _ _ _
      | exact tachographlaw12_fixed.mono _
      | exact trace_Check.mono _ _ _
      | exact LeO.none _
      | refine LeO.ite ?_ ?_
      | refine LeO.bind ?_ (fun _ => ?_)
    · intro y0 y1 y2
      unfold tachographlaw12_TraceParts.j2
      repeat' first
      | (with_reducible exact ih0 _ _ _ _)
      | (with_reducible exact ih1 _ _ _)
      | (with_reducible exact ih2 _ _ _)
      | (with_reducible exact tachographlaw09_Great.mono _ _)
      | (with_reducible exact tachographlaw12_Great.mono _ _ _)
      | (with_reducible exact tachographlaw12_fixed.mono _)
      | (with_reducible exact trace_Check.mono _ _ _)
      | (with_reducible exact LeO.refl _)
      | (with_reducible exact LeO.none _)
      | (with_reducible refine LeO.ite ?_ ?_)
      | (with_reducible refine LeO.bind ?_ (fun _ => ?_))
      | exact ih0 _ _ _ _
      | exact ih1 _ _ _
      | exact ih2 _ _ _
      | exact tachographlaw09_Great.mono _ _
      | exact tachographlaw12_Great.mono _ _ _
      | exact tachographlaw12_fixed.mono _
      | exact trace_Check.mono _ _ _
      | exact LeO.none _
      | refine LeO.ite ?_ ?_
      | refine LeO.bind ?_ (fun _ => ?_)
theorem tachographlaw12_TraceParts.mono : ∀ a0 a1 a2 k, LeO (tachographlaw12_TraceParts.f k a0 a1 a2) (tachographlaw12_TraceParts.f (k + 1) a0 a1 a2) := by
  intro a0 a1 a2 k
  obtain ⟨ih0, ih1, ih2⟩ := tachographlaw12_TraceParts.mono_l k
  unfold tachographlaw12_TraceParts.f
  repeat' first
      | (with_reducible exact ih0 _ _ _ _)
      | (with_reducible exact ih1 _ _ _)
      | (with_reducible exact ih2 _ _ _)
      | (with_reducible exact tachographlaw09_Great.mono _ _)
      | (with_reducible exact tachographlaw12_Great.mono _ _ _)
      | (with_reducible exact tachographlaw12_fixed.mono _)
      | (with_reducible exact trace_Check.mono _ _ _)
      | (with_reducible exact LeO.refl _)
      | (with_reducible exact LeO.none _)
      | (with_reducible refine LeO.ite ?_ ?_)
      | (with_reducible refine LeO.bind ?_ (fun _ => ?_))
      | exact ih0 _ _ _ _
      | exact ih1 _ _ _
      | exact ih2 _ _ _
      | exact tachographlaw09_Great.mono _ _
      | exact tachographlaw12_Great.mono _ _ _
      | exact tachographlaw12_fixed.mono _
      | exact trace_Check.mono _ _ _
      | exact LeO.none _
      | refine LeO.ite ?_ ?_
      | refine LeO.bind ?_ (fun _ => ?_)
set_option maxHeartbeats 8000000 in
set_option maxRecDepth 100000 in
theorem tachographlaw12_TraceParts.calls (k : Nat) (A0 : Option Addr) (c0 : Nat) (l0 : List (S106)) (A1 : Option Addr) (c1 : Nat) (l1 : List (S44)) (a2 : Int) (r : Bool) (w : World) (hr0 : Kd.C k106 w A0 l0.length l0) (hc0 : l0.length ≤ c0) (hr1 : Kd.C k44 w A1 l1.length l1) (hc1 : l1.length ≤ c1) (h : tachographlaw12_TraceParts.f k l0 l1 a2 = some r) :
    Calls Try.prog 6 #[.slice A0 l0.length c0, .slice A1 l1.length c1, .int .u16 a2] w fun e w' => e = .returned (.bool r) ∧ Below w.heap.size w w' := by
  have hu44 := Try.underlying44
  have HR0 := Aside0.mk hr0
  have HC0 := Aside0.mk hc0
  clear hr0 hc0
  have HR1 := Aside0.mk hr1
  have HC1 := Aside0.mk hc1
  clear hr1 hc1
  have HB := Aside0.mk (Below.refl w.heap.size w)
  have H : ((tachographlaw09_Great.f k l0).bind fun t179 => (if t179 = true then (tachographlaw12_TraceParts.j0 k l0 l1 a2 true) else ((tachographlaw12_Great.f k l1 3000).bind fun t180 => (tachographlaw12_TraceParts.j0 k l0 l1 a2 t180)))) = some r := h
  clear h
  have HC4 := Aside0.mk H
  clear H
  go_enter Try.func6, Try.ntmps6
  go_upto_region 1 with (fail)
  go_cut [30] (fun v30 wc => ∃ (kq : Nat) (x30_3 : Bool), v30 = .bool x30_3 ∧ Aside0 (tachographlaw12_TraceParts.j0 kq l0 l1 a2 x30_3 = some r) ∧ Aside0 (kq ≤ k) ∧ Aside0 (Below w.heap.size w wc))
  case first =>
    have H := HC4.out
    clear HC4
    replace H := Option.bind_eq_some_iff.mp H
    obtain ⟨t179, A50, H⟩ := H
    replace H : (if t179 = true then (tachographlaw12_TraceParts.j0 k l0 l1 a2 true) else ((tachographlaw12_Great.f k l1 3000).bind fun t180 => (tachographlaw12_TraceParts.j0 k l0 l1 a2 t180))) = some r := H
    have A5 := Aside0.mk A50
    clear A50
    by_cases c6 : t179 = true
    · subst c6
      have H1 : (tachographlaw12_TraceParts.j0 k l0 l1 a2 true) = some r := by rw [if_pos rfl] at H; exact H
      clear H
      have H := H1
      clear H1
      have H' := Aside0.mk H
      clear H
      go_wp2_with (first | ((with_reducible refine gate_callee (f := 29) rfl ?_); refine goesL_ (some 26) rfl rfl Try.func29 (by kernel_rfl) rfl #[.slice A0 l0.length c0] rfl (by (try simp only [List.map_toArray, List.map_cons, List.map_nil]); first | done | rfl | (simp only [List.length_drop, List.length_take]; rfl) | (refine congrArg (fun z_ => #[z_]) (congrArg (Value.int IntKind.u64) (Eq.symm (Go.Proofs.YtjfklfmfeghjnabAid.wrap_len _ (by omega)))))) ?_; (with_reducible refine (tachographlaw09_Great.calls k _ _ l0 true _ ?side1 ?side2 A5.out).mono ?_); (case side1 => repeat (first | exact (Kd.C_below HR0.out HB.out) | (with_reducible refine Kd.C_alloc ?_ _) | (with_reducible refine Kd.C_drewN ?_ _) | (with_reducible refine Kd.C_drew ?_))); (case side2 => exact HC0.out); rintro e w7 ⟨rfl, hb⟩; refine ⟨_, rfl, ?_⟩; have n0_ := Aside0.mk (below_step (by repeat (first | (with_reducible first | exact HB.out | apply below_alloc | apply pw_below_drewN | apply below_drew1) | exact HB.out)) hb); clear HB; have HB := n0_; clear n0_; (try clear hb); (try clear hb2); (try clear hk); (try clear hi)))
      go_meet
      case rel => exact ⟨_, (true), (by first | rfl | (simp; done) | (simp [*]; done)), H', ⟨by first | omega | exact Nat.le_refl _⟩, ⟨by repeat (first | (with_reducible first | exact HB.out | apply below_alloc | apply pw_below_drewN | apply below_drew1) | exact HB.out)⟩⟩
    · replace c6 := Bool.eq_false_iff.mpr c6
      subst c6
      have H1 : ((tachographlaw12_Great.f k l1 3000).bind fun t180 => (tachographlaw12_TraceParts.j0 k l0 l1 a2 t180)) = some r := by rw [if_neg (show ¬ (false = true) by decide)] at H; exact H
      clear H
      have H := H1
      clear H1
      replace H := Option.bind_eq_some_iff.mp H
      obtain ⟨t180, A80, H⟩ := H
      replace H : (tachographlaw12_TraceParts.j0 k l0 l1 a2 t180) = some r := H
      have A8 := Aside0.mk A80
      clear A80
      have H' := Aside0.mk H
      clear H
      go_wp2_with (first | ((with_reducible refine gate_callee (f := 29) rfl ?_); refine goesL_ (some 26) rfl rfl Try.func29 (by kernel_rfl) rfl #[.slice A0 l0.length c0] rfl (by (try simp only [List.map_toArray, List.map_cons, List.map_nil]); first | done | rfl | (simp only [List.length_drop, List.length_take]; rfl) | (refine congrArg (fun z_ => #[z_]) (congrArg (Value.int IntKind.u64) (Eq.symm (Go.Proofs.YtjfklfmfeghjnabAid.wrap_len _ (by omega)))))) ?_; (with_reducible refine (tachographlaw09_Great.calls k _ _ l0 false _ ?side1 ?side2 A5.out).mono ?_); (case side1 => repeat (first | exact (Kd.C_below HR0.out HB.out) | (with_reducible refine Kd.C_alloc ?_ _) | (with_reducible refine Kd.C_drewN ?_ _) | (with_reducible refine Kd.C_drew ?_))); (case side2 => exact HC0.out); rintro e w9 ⟨rfl, hb⟩; refine ⟨_, rfl, ?_⟩; have n0_ := Aside0.mk (below_step (by repeat (first | (with_reducible first | exact HB.out | apply below_alloc | apply pw_below_drewN | apply below_drew1) | exact HB.out)) hb); clear HB; have HB := n0_; clear n0_; (try clear hb); (try clear hb2); (try clear hk); (try clear hi)) | (go_at_call 24; (with_reducible refine (tachographlaw12_Great.calls k _ _ l1 3000 t180 _ ?side1 ?side2 A8.out).mono ?_); (case side1 => repeat (first | exact (Kd.C_below HR1.out HB.out) | (with_reducible refine Kd.C_alloc ?_ _) | (with_reducible refine Kd.C_drewN ?_ _) | (with_reducible refine Kd.C_drew ?_))); (case side2 => exact HC1.out); rintro e w10 ⟨rfl, hb⟩; have n0_ := Aside0.mk (below_step (by repeat (first | (with_reducible first | exact HB.out | apply below_alloc | apply pw_below_drewN | apply below_drew1) | exact HB.out)) hb); clear HB; have HB := n0_; clear n0_; (try clear hb); (try clear hb2); (try clear hk); (try clear hi)))
      go_meet
      case rel => exact ⟨_, (t180), (by first | rfl | (simp; done) | (simp [*]; done)), H', ⟨by first | omega | exact Nat.le_refl _⟩, ⟨by repeat (first | (with_reducible first | exact HB.out | apply below_alloc | apply pw_below_drewN | apply below_drew1) | exact HB.out)⟩⟩
  case rest =>
    clear HC4
    try clear c1
    try clear c2
    try clear p2
    try clear c6
    obtain ⟨kq, x30_3, rfl, HA, HJ3, HB⟩ := hcut
    cases kq with
    | zero => exact absurd HA.out (by simp [tachographlaw12_TraceParts.j0])
    | succ kj3 =>
      have H := HA.out
      clear HA
      simp only [tachographlaw12_TraceParts.j0] at H
      by_cases c11 : x30_3 = true
      · subst c11
        have H1 : ((tachographlaw12_fixed.f kj3).bind fun t181 => (some t181)) = some r := by rw [if_pos rfl] at H; exact H
        clear H
        have H := H1
        clear H1
        replace H := Option.bind_eq_some_iff.mp H
        obtain ⟨t181, A120, H⟩ := H
        replace H : (some t181) = some r := H
        have A12 := Aside0.mk A120
        clear A120
        obtain rfl := Option.some.inj H
        go_wp2_with (first | ((with_reducible refine gate_callee (f := 30) rfl ?_); refine goesL_ (some 31) rfl rfl Try.func30 (by kernel_rfl) rfl #[] rfl (by (try simp only [List.map_toArray, List.map_cons, List.map_nil]); first | done | rfl | (simp only [List.length_drop, List.length_take]; rfl) | (refine congrArg (fun z_ => #[z_]) (congrArg (Value.int IntKind.u64) (Eq.symm (Go.Proofs.YtjfklfmfeghjnabAid.wrap_len _ (by omega)))))) ?_; (with_reducible refine (tachographlaw12_fixed.calls kj3  t181 _ A12.out).mono ?_); rintro e w13 ⟨rfl, hb⟩; refine ⟨_, rfl, ?_⟩; have n0_ := Aside0.mk (below_step (by repeat (first | (with_reducible first | exact HB.out | apply below_alloc | apply pw_below_drewN | apply below_drew1) | exact HB.out)) hb); clear HB; have HB := n0_; clear n0_; (try clear hb); (try clear hb2); (try clear hk); (try clear hi)))
        go_ret
        exact ⟨by first | rfl | (simp [errW_none, errW_some] <;> rfl) | (simp [*, errW_none, errW_some] <;> rfl), by repeat (first | (with_reducible first | exact HB.out | apply below_alloc | apply pw_below_drewN | apply below_drew1) | exact HB.out)⟩
      · replace c11 := Bool.eq_false_iff.mpr c11
        subst c11
        have H1 : ((trace_Check.f kj3 l0 l1).bind fun bt182 => (if bt182.1 = 0 then (if (wrap64 ((l1.length : Int) + 1)) = 0 then (none) else (if 0 ≤ (Int.tmod (wrap64 (a2)) (wrap64 ((l1.length : Int) + 1))) then (if (Int.tmod (wrap64 (a2)) (wrap64 ((l1.length : Int) + 1))) ≤ (l1.length : Int) then ((trace_Check.f kj3 l0 (l1.take ((Int.tmod (wrap64 (a2)) (wrap64 ((l1.length : Int) + 1))) : Int).toNat)).bind fun bt189 => ((trace_Check.f kj3 l0 (l1.drop ((Int.tmod (wrap64 (a2)) (wrap64 ((l1.length : Int) + 1))) : Int).toNat)).bind fun bt195 => ((trace_Count.f (l1.take ((Int.tmod (wrap64 (a2)) (wrap64 ((l1.length : Int) + 1))) : Int).toNat)).bind fun bt201 => ((trace_Count.f (l1.drop ((Int.tmod (wrap64 (a2)) (wrap64 ((l1.length : Int) + 1))) : Int).toNat)).bind fun bt208 => ((trace_Count.f l1).bind fun bt211 => (if bt189.1 = 0 then (if bt195.1 = 0 then (if (wrap64 (bt201.1 + bt208.1)) = bt211.1 then (if (wrap64 (bt201.2.1 + bt208.2.1)) = bt211.2.1 then (tachographlaw12_TraceParts.j1 kj3 l0 l1 ((wrap64 (bt201.2.2 + bt208.2.2)) != bt211.2.2)) else (tachographlaw12_TraceParts.j1 kj3 l0 l1 true)) else (tachographlaw12_TraceParts.j1 kj3 l0 l1 true)) else (tachographlaw12_TraceParts.j1 kj3 l0 l1 true)) else (tachographlaw12_TraceParts.j1 kj3 l0 l1 true))))))) else (none)) else (none))) else ((tachographlaw12_fixed.f kj3).bind fun t184 => (some t184)))) = some r := by rw [if_neg (show ¬ (false = true) by decide)] at H; exact H
        clear H
        have H := H1
        clear H1
        replace H := Option.bind_eq_some_iff.mp H
        obtain ⟨⟨t182, t183⟩, A140, H⟩ := H
        replace H : (if t182 = 0 then (if (wrap64 ((l1.length : Int) + 1)) = 0 then (none) else (if 0 ≤ (Int.tmod (wrap64 (a2)) (wrap64 ((l1.length : Int) + 1))) then (if (Int.tmod (wrap64 (a2)) (wrap64 ((l1.length : Int) + 1))) ≤ (l1.length : Int) then ((trace_Check.f kj3 l0 (l1.take ((Int.tmod (wrap64 (a2)) (wrap64 ((l1.length : Int) + 1))) : Int).toNat)).bind fun bt189 => ((trace_Check.f kj3 l0 (l1.drop ((Int.tmod (wrap64 (a2)) (wrap64 ((l1.length : Int) + 1))) : Int).toNat)).bind fun bt195 => ((trace_Count.f (l1.take ((Int.tmod (wrap64 (a2)) (wrap64 ((l1.length : Int) + 1))) : Int).toNat)).bind fun bt201 => ((trace_Count.f (l1.drop ((Int.tmod (wrap64 (a2)) (wrap64 ((l1.length : Int) + 1))) : Int).toNat)).bind fun bt208 => ((trace_Count.f l1).bind fun bt211 => (if bt189.1 = 0 then (if bt195.1 = 0 then (if (wrap64 (bt201.1 + bt208.1)) = bt211.1 then (if (wrap64 (bt201.2.1 + bt208.2.1)) = bt211.2.1 then (tachographlaw12_TraceParts.j1 kj3 l0 l1 ((wrap64 (bt201.2.2 + bt208.2.2)) != bt211.2.2)) else (tachographlaw12_TraceParts.j1 kj3 l0 l1 true)) else (tachographlaw12_TraceParts.j1 kj3 l0 l1 true)) else (tachographlaw12_TraceParts.j1 kj3 l0 l1 true)) else (tachographlaw12_TraceParts.j1 kj3 l0 l1 true))))))) else (none)) else (none))) else ((tachographlaw12_fixed.f kj3).bind fun t184 => (some t184))) = some r := H
        have A14 := Aside0.mk A140
        clear A140
        by_cases c15 : t182 = 0
        · rw [if_pos c15] at H
          have c15b0 : (t182 == 0) = true := beq_iff_eq.mpr c15
          have c15b1 : (t182 != 0) = false := bne_eq_false_iff_eq.mpr c15
          clear c15
          by_cases c16 : (wrap64 ((l1.length : Int) + 1)) = 0
          · rw [if_pos c16] at H
            exact absurd H (by simp)
          · rw [if_neg c16] at H
            have c16b0 : ((wrap64 ((l1.length : Int) + 1)) == 0) = false := beq_eq_false_iff_ne.mpr c16
            have c16b1 : ((wrap64 ((l1.length : Int) + 1)) != 0) = true := bne_iff_ne.mpr c16
            obtain ⟨ji17, hji17⟩ : ∃ j_ : Int, (Int.tmod (wrap64 (a2)) (wrap64 ((l1.length : Int) + 1))) = j_ := ⟨_, rfl⟩
            replace H : (if 0 ≤ (ji17) then (if (ji17) ≤ (l1.length : Int) then ((trace_Check.f kj3 l0 (l1.take ((ji17) : Int).toNat)).bind fun bt189 => ((trace_Check.f kj3 l0 (l1.drop ((ji17) : Int).toNat)).bind fun bt195 => ((trace_Count.f (l1.take ((ji17) : Int).toNat)).bind fun bt201 => ((trace_Count.f (l1.drop ((ji17) : Int).toNat)).bind fun bt208 => ((trace_Count.f l1).bind fun bt211 => (if bt189.1 = 0 then (if bt195.1 = 0 then (if (wrap64 (bt201.1 + bt208.1)) = bt211.1 then (if (wrap64 (bt201.2.1 + bt208.2.1)) = bt211.2.1 then (tachographlaw12_TraceParts.j1 kj3 l0 l1 ((wrap64 (bt201.2.2 + bt208.2.2)) != bt211.2.2)) else (tachographlaw12_TraceParts.j1 kj3 l0 l1 true)) else (tachographlaw12_TraceParts.j1 kj3 l0 l1 true)) else (tachographlaw12_TraceParts.j1 kj3 l0 l1 true)) else (tachographlaw12_TraceParts.j1 kj3 l0 l1 true))))))) else (none)) else (none)) = some r := by first | (rw [hji17] at H; exact H) | (simp only [hji17] at H ⊢; exact H)
            (try rw [hji17] at A14)
            by_cases c18 : 0 ≤ (ji17)
            · rw [if_pos c18] at H
              have c18b0 := eq_true c18
              have c18b1 : decide (0 ≤ (ji17)) = true := decide_eq_true c18
              clear c18
              by_cases c19 : (ji17) ≤ (l1.length : Int)
              · rw [if_pos c19] at H
                have c19b0 := eq_true c19
                have c19b1 : decide ((ji17) ≤ (l1.length : Int)) = true := decide_eq_true c19
                clear c19
                obtain ⟨y185, hy185⟩ : ∃ y_ : List (S44), y_ = (l1.take ((ji17) : Int).toNat) := ⟨_, rfl⟩
                replace H : ((trace_Check.f kj3 l0 y185).bind fun bt189 => ((trace_Check.f kj3 l0 (l1.drop ((ji17) : Int).toNat)).bind fun bt195 => ((trace_Count.f (l1.take ((ji17) : Int).toNat)).bind fun bt201 => ((trace_Count.f (l1.drop ((ji17) : Int).toNat)).bind fun bt208 => ((trace_Count.f l1).bind fun bt211 => (if bt189.1 = 0 then (if bt195.1 = 0 then (if (wrap64 (bt201.1 + bt208.1)) = bt211.1 then (if (wrap64 (bt201.2.1 + bt208.2.1)) = bt211.2.1 then (tachographlaw12_TraceParts.j1 kj3 l0 l1 ((wrap64 (bt201.2.2 + bt208.2.2)) != bt211.2.2)) else (tachographlaw12_TraceParts.j1 kj3 l0 l1 true)) else (tachographlaw12_TraceParts.j1 kj3 l0 l1 true)) else (tachographlaw12_TraceParts.j1 kj3 l0 l1 true)) else (tachographlaw12_TraceParts.j1 kj3 l0 l1 true))))))) = some r := by first | (rw [hy185]; with_reducible exact H) | (have H2_ := (Option.bind_some _ _).symm.trans H; rw [hy185]; with_reducible exact H2_) | (have H2_ := (Option.bind_some _ _).symm.trans H; with_reducible exact H2_) | with_reducible exact H | (rw [hy185]; exact H) | exact H
                have Ny185 := Aside0.mk hy185
                clear hy185
                replace H := Option.bind_eq_some_iff.mp H
                obtain ⟨⟨t189, t190⟩, A200, H⟩ := H
                replace H : ((trace_Check.f kj3 l0 (l1.drop ((ji17) : Int).toNat)).bind fun bt195 => ((trace_Count.f (l1.take ((ji17) : Int).toNat)).bind fun bt201 => ((trace_Count.f (l1.drop ((ji17) : Int).toNat)).bind fun bt208 => ((trace_Count.f l1).bind fun bt211 => (if t189 = 0 then (if bt195.1 = 0 then (if (wrap64 (bt201.1 + bt208.1)) = bt211.1 then (if (wrap64 (bt201.2.1 + bt208.2.1)) = bt211.2.1 then (tachographlaw12_TraceParts.j1 kj3 l0 l1 ((wrap64 (bt201.2.2 + bt208.2.2)) != bt211.2.2)) else (tachographlaw12_TraceParts.j1 kj3 l0 l1 true)) else (tachographlaw12_TraceParts.j1 kj3 l0 l1 true)) else (tachographlaw12_TraceParts.j1 kj3 l0 l1 true)) else (tachographlaw12_TraceParts.j1 kj3 l0 l1 true)))))) = some r := H
                have A20 := Aside0.mk A200
                clear A200
                have c21b0 := eq_true (of_decide_eq_true (by first | (with_reducible assumption) | assumption) : 0 ≤ (ji17))
                have c22b0 := eq_true (of_decide_eq_true (by first | (with_reducible assumption) | assumption) : (ji17) ≤ (l1.length : Int))
                obtain ⟨y191, hy191⟩ : ∃ y_ : List (S44), y_ = (l1.drop ((ji17) : Int).toNat) := ⟨_, rfl⟩
                replace H : ((trace_Check.f kj3 l0 y191).bind fun bt195 => ((trace_Count.f (l1.take ((ji17) : Int).toNat)).bind fun bt201 => ((trace_Count.f (l1.drop ((ji17) : Int).toNat)).bind fun bt208 => ((trace_Count.f l1).bind fun bt211 => (if t189 = 0 then (if bt195.1 = 0 then (if (wrap64 (bt201.1 + bt208.1)) = bt211.1 then (if (wrap64 (bt201.2.1 + bt208.2.1)) = bt211.2.1 then (tachographlaw12_TraceParts.j1 kj3 l0 l1 ((wrap64 (bt201.2.2 + bt208.2.2)) != bt211.2.2)) else (tachographlaw12_TraceParts.j1 kj3 l0 l1 true)) else (tachographlaw12_TraceParts.j1 kj3 l0 l1 true)) else (tachographlaw12_TraceParts.j1 kj3 l0 l1 true)) else (tachographlaw12_TraceParts.j1 kj3 l0 l1 true)))))) = some r := by first | (rw [hy191]; with_reducible exact H) | (have H2_ := (Option.bind_some _ _).symm.trans H; rw [hy191]; with_reducible exact H2_) | (have H2_ := (Option.bind_some _ _).symm.trans H; with_reducible exact H2_) | with_reducible exact H | (rw [hy191]; exact H) | exact H
                have Ny191 := Aside0.mk hy191
                clear hy191
                replace H := Option.bind_eq_some_iff.mp H
                obtain ⟨⟨t195, t196⟩, A230, H⟩ := H
                replace H : ((trace_Count.f (l1.take ((ji17) : Int).toNat)).bind fun bt201 => ((trace_Count.f (l1.drop ((ji17) : Int).toNat)).bind fun bt208 => ((trace_Count.f l1).bind fun bt211 => (if t189 = 0 then (if t195 = 0 then (if (wrap64 (bt201.1 + bt208.1)) = bt211.1 then (if (wrap64 (bt201.2.1 + bt208.2.1)) = bt211.2.1 then (tachographlaw12_TraceParts.j1 kj3 l0 l1 ((wrap64 (bt201.2.2 + bt208.2.2)) != bt211.2.2)) else (tachographlaw12_TraceParts.j1 kj3 l0 l1 true)) else (tachographlaw12_TraceParts.j1 kj3 l0 l1 true)) else (tachographlaw12_TraceParts.j1 kj3 l0 l1 true)) else (tachographlaw12_TraceParts.j1 kj3 l0 l1 true))))) = some r := H
                have A23 := Aside0.mk A230
                clear A230
                have c24b0 := eq_true (of_decide_eq_true (by first | (with_reducible assumption) | assumption) : 0 ≤ (ji17))
                have c25b0 := eq_true (of_decide_eq_true (by first | (with_reducible assumption) | assumption) : (ji17) ≤ (l1.length : Int))
                have hy197 := Ny185.out
                replace H : ((trace_Count.f y185).bind fun bt201 => ((trace_Count.f (l1.drop ((ji17) : Int).toNat)).bind fun bt208 => ((trace_Count.f l1).bind fun bt211 => (if t189 = 0 then (if t195 = 0 then (if (wrap64 (bt201.1 + bt208.1)) = bt211.1 then (if (wrap64 (bt201.2.1 + bt208.2.1)) = bt211.2.1 then (tachographlaw12_TraceParts.j1 kj3 l0 l1 ((wrap64 (bt201.2.2 + bt208.2.2)) != bt211.2.2)) else (tachographlaw12_TraceParts.j1 kj3 l0 l1 true)) else (tachographlaw12_TraceParts.j1 kj3 l0 l1 true)) else (tachographlaw12_TraceParts.j1 kj3 l0 l1 true)) else (tachographlaw12_TraceParts.j1 kj3 l0 l1 true))))) = some r := by first | (rw [hy197]; with_reducible exact H) | (have H2_ := (Option.bind_some _ _).symm.trans H; rw [hy197]; with_reducible exact H2_) | (have H2_ := (Option.bind_some _ _).symm.trans H; with_reducible exact H2_) | with_reducible exact H | (rw [hy197]; exact H) | exact H
                have Ny185 := Aside0.mk hy197
                clear hy197
                replace H := Option.bind_eq_some_iff.mp H
                obtain ⟨⟨t201, t202, t203⟩, A260, H⟩ := H
                replace H : ((trace_Count.f (l1.drop ((ji17) : Int).toNat)).bind fun bt208 => ((trace_Count.f l1).bind fun bt211 => (if t189 = 0 then (if t195 = 0 then (if (wrap64 (t201 + bt208.1)) = bt211.1 then (if (wrap64 (t202 + bt208.2.1)) = bt211.2.1 then (tachographlaw12_TraceParts.j1 kj3 l0 l1 ((wrap64 (t203 + bt208.2.2)) != bt211.2.2)) else (tachographlaw12_TraceParts.j1 kj3 l0 l1 true)) else (tachographlaw12_TraceParts.j1 kj3 l0 l1 true)) else (tachographlaw12_TraceParts.j1 kj3 l0 l1 true)) else (tachographlaw12_TraceParts.j1 kj3 l0 l1 true)))) = some r := H
                have A26 := Aside0.mk A260
                clear A260
                have c27b0 := eq_true (of_decide_eq_true (by first | (with_reducible assumption) | assumption) : 0 ≤ (ji17))
                have c28b0 := eq_true (of_decide_eq_true (by first | (with_reducible assumption) | assumption) : (ji17) ≤ (l1.length : Int))
                have hy204 := Ny191.out
                replace H : ((trace_Count.f y191).bind fun bt208 => ((trace_Count.f l1).bind fun bt211 => (if t189 = 0 then (if t195 = 0 then (if (wrap64 (t201 + bt208.1)) = bt211.1 then (if (wrap64 (t202 + bt208.2.1)) = bt211.2.1 then (tachographlaw12_TraceParts.j1 kj3 l0 l1 ((wrap64 (t203 + bt208.2.2)) != bt211.2.2)) else (tachographlaw12_TraceParts.j1 kj3 l0 l1 true)) else (tachographlaw12_TraceParts.j1 kj3 l0 l1 true)) else (tachographlaw12_TraceParts.j1 kj3 l0 l1 true)) else (tachographlaw12_TraceParts.j1 kj3 l0 l1 true)))) = some r := by first | (rw [hy204]; with_reducible exact H) | (have H2_ := (Option.bind_some _ _).symm.trans H; rw [hy204]; with_reducible exact H2_) | (have H2_ := (Option.bind_some _ _).symm.trans H; with_reducible exact H2_) | with_reducible exact H | (rw [hy204]; exact H) | exact H
                have Ny191 := Aside0.mk hy204
                clear hy204
                replace H := Option.bind_eq_some_iff.mp H
                obtain ⟨⟨t208, t209, t210⟩, A290, H⟩ := H
                replace H : ((trace_Count.f l1).bind fun bt211 => (if t189 = 0 then (if t195 = 0 then (if (wrap64 (t201 + t208)) = bt211.1 then (if (wrap64 (t202 + t209)) = bt211.2.1 then (tachographlaw12_TraceParts.j1 kj3 l0 l1 ((wrap64 (t203 + t210)) != bt211.2.2)) else (tachographlaw12_TraceParts.j1 kj3 l0 l1 true)) else (tachographlaw12_TraceParts.j1 kj3 l0 l1 true)) else (tachographlaw12_TraceParts.j1 kj3 l0 l1 true)) else (tachographlaw12_TraceParts.j1 kj3 l0 l1 true))) = some r := H
                have A29 := Aside0.mk A290
                clear A290
                replace H := Option.bind_eq_some_iff.mp H
                obtain ⟨⟨t211, t212, t213⟩, A300, H⟩ := H
                replace H : (if t189 = 0 then (if t195 = 0 then (if (wrap64 (t201 + t208)) = t211 then (if (wrap64 (t202 + t209)) = t212 then (tachographlaw12_TraceParts.j1 kj3 l0 l1 ((wrap64 (t203 + t210)) != t213)) else (tachographlaw12_TraceParts.j1 kj3 l0 l1 true)) else (tachographlaw12_TraceParts.j1 kj3 l0 l1 true)) else (tachographlaw12_TraceParts.j1 kj3 l0 l1 true)) else (tachographlaw12_TraceParts.j1 kj3 l0 l1 true)) = some r := H
                have A30 := Aside0.mk A300
                clear A300
                have HC31 := Aside0.mk H
                clear H
                go_upto_region 12 with (first | ((with_reducible refine gate_callee (f := 31) rfl ?_); refine goesL_ (some 35) rfl rfl Try.func31 (by kernel_rfl) rfl #[.slice A0 l0.length c0, .slice A1 l1.length c1] rfl (by (try simp only [List.map_toArray, List.map_cons, List.map_nil]); first | done | rfl | (simp only [List.length_drop, List.length_take]; rfl) | (refine congrArg (fun z_ => #[z_]) (congrArg (Value.int IntKind.u64) (Eq.symm (Go.Proofs.YtjfklfmfeghjnabAid.wrap_len _ (by omega)))))) ?_; (with_reducible refine (trace_Check.calls kj3 _ _ l0 _ _ l1 t182 t183 _ ?side1 ?side2 ?side3 ?side4 A14.out).mono ?_); (case side1 => repeat (first | exact (Kd.C_below HR0.out HB.out) | (with_reducible refine Kd.C_alloc ?_ _) | (with_reducible refine Kd.C_drewN ?_ _) | (with_reducible refine Kd.C_drew ?_))); (case side2 => exact HC0.out); (case side3 => repeat (first | exact (Kd.C_below HR1.out HB.out) | (with_reducible refine Kd.C_alloc ?_ _) | (with_reducible refine Kd.C_drewN ?_ _) | (with_reducible refine Kd.C_drew ?_))); (case side4 => exact HC1.out); rintro e w32 ⟨rfl, hb⟩; refine ⟨_, rfl, ?_⟩; have n0_ := Aside0.mk (below_step (by repeat (first | (with_reducible first | exact HB.out | apply below_alloc | apply pw_below_drewN | apply below_drew1) | exact HB.out)) hb); clear HB; have HB := n0_; clear n0_; (try clear hb); (try clear hb2); (try clear hk); (try clear hi); have q33 : ((ji17) : Int) ≤ ((l1.length : Int) : Int) := of_decide_eq_true (by first | (with_reducible assumption) | assumption); obtain ⟨i033, hi033, _, hsz33, _⟩ := info_parts info44; have hroom33 : l1.length ≤ c1 := HC1.out; have hC33 : Kd.C k44 _ A1 l1.length l1 := HR1.out; have hcut33 := cut_to (P := Try.prog) 37 44 .i64 Try.underlying37 hi033 A1 l1.length c1 (ji17) (of_decide_eq_true (by first | (with_reducible assumption) | assumption)) q33 hroom33; have hr33 := Kd.C_take (m := ((ji17) : Int).toNat) hC33 (by omega); have hy33 : y185.length = ((ji17) : Int).toNat := (by rw [Ny185.out, List.length_take]; omega); rw [← Ny185.out] at hr33; rw [← hy33] at hcut33; have HR188 := Aside0.mk hr33; have HC188 := Aside0.mk (show y185.length ≤ c1 from by omega); clear hr33 hC33 hroom33 hi033 hsz33; have KY33 := Aside0.mk hy33; clear hy33; replace q33 := eq_true q33) | ((with_reducible refine gate_callee (f := 31) rfl ?_); refine goesL_ (some 52) rfl rfl Try.func31 (by kernel_rfl) rfl #[.slice A0 l0.length c0, .slice A1 y185.length c1] rfl (by (try simp only [List.map_toArray, List.map_cons, List.map_nil]); first | done | rfl | (simp only [List.length_drop, List.length_take]; rfl) | (refine congrArg (fun z_ => #[z_]) (congrArg (Value.int IntKind.u64) (Eq.symm (Go.Proofs.YtjfklfmfeghjnabAid.wrap_len _ (by omega)))))) ?_; (with_reducible refine (trace_Check.calls kj3 _ _ l0 _ _ y185 t189 t190 _ ?side1 ?side2 ?side3 ?side4 A20.out).mono ?_); (case side1 => repeat (first | exact (Kd.C_below HR0.out HB.out) | (with_reducible refine Kd.C_alloc ?_ _) | (with_reducible refine Kd.C_drewN ?_ _) | (with_reducible refine Kd.C_drew ?_))); (case side2 => exact HC0.out); (case side3 => repeat (first | exact (Kd.C_below HR188.out HB.out) | (with_reducible refine Kd.C_alloc ?_ _) | (with_reducible refine Kd.C_drewN ?_ _) | (with_reducible refine Kd.C_drew ?_))); (case side4 => exact HC188.out); rintro e w34 ⟨rfl, hb⟩; refine ⟨_, rfl, ?_⟩; have n0_ := Aside0.mk (below_step (by repeat (first | (with_reducible first | exact HB.out | apply below_alloc | apply pw_below_drewN | apply below_drew1) | exact HB.out)) hb); clear HB; have HB := n0_; clear n0_; (try clear hb); (try clear hb2); (try clear hk); (try clear hi); have q35 : ((ji17) : Int) ≤ ((l1.length : Int) : Int) := of_decide_eq_true (by first | (with_reducible assumption) | assumption); obtain ⟨i035, hi035, _, hsz35, _⟩ := info_parts info44; have hroom35 : l1.length ≤ c1 := HC1.out; have hC35 : Kd.C k44 _ A1 l1.length l1 := HR1.out; have q035 : (0 : Int) ≤ ((ji17) : Int) := of_decide_eq_true (by first | (with_reducible assumption) | assumption); have hcut35 := cut_from (P := Try.prog) 37 44 .i64 Try.underlying37 hi035 2 hsz35 A1 l1.length c1 (ji17) q035 q35; have hr35 := Kd.C_drop (m := ((ji17) : Int).toNat) (c := c1) hC35 (by omega) hroom35; obtain ⟨A35, hA35⟩ : ∃ A_9, A_9 = (if c1 = ((ji17) : Int).toNat then A1 else (A1 : Option Addr).map (·.add (((ji17) : Int).toNat * 2))) := ⟨_, rfl⟩; obtain ⟨c35, hc35⟩ : ∃ c_9, c_9 = c1 - ((ji17) : Int).toNat := ⟨_, rfl⟩; have hy35 : y191.length = l1.length - ((ji17) : Int).toNat := (by rw [Ny191.out, List.length_drop] <;> omega); rw [show (l1).drop ((ji17) : Int).toNat = y191 from Ny191.out.symm] at hr35; replace hr35 : Kd.C k44 _ A35 y191.length y191 := (by rw [hA35]; exact hr35); rw [← hy35, ← hA35, ← hc35] at hcut35; have HR194 := Aside0.mk hr35; have HC194 := Aside0.mk (show y191.length ≤ c35 from by rw [hy35, hc35]; exact Nat.sub_le_sub_right hroom35 _); clear hr35 hC35 hroom35 hi035 hsz35 hc35; have KY35 := Aside0.mk hy35; have KA35 := Aside0.mk hA35; clear hy35 hA35; replace q35 := eq_true q35) | ((with_reducible refine gate_callee (f := 31) rfl ?_); refine goesL_ (some 60) rfl rfl Try.func31 (by kernel_rfl) rfl #[.slice A0 l0.length c0, .slice A35 y191.length c35] rfl (by (try simp only [List.map_toArray, List.map_cons, List.map_nil]); first | done | rfl | (simp only [List.length_drop, List.length_take]; rfl) | (refine congrArg (fun z_ => #[z_]) (congrArg (Value.int IntKind.u64) (Eq.symm (Go.Proofs.YtjfklfmfeghjnabAid.wrap_len _ (by omega)))))) ?_; (with_reducible refine (trace_Check.calls kj3 _ _ l0 _ _ y191 t195 t196 _ ?side1 ?side2 ?side3 ?side4 A23.out).mono ?_); (case side1 => repeat (first | exact (Kd.C_below HR0.out HB.out) | (with_reducible refine Kd.C_alloc ?_ _) | (with_reducible refine Kd.C_drewN ?_ _) | (with_reducible refine Kd.C_drew ?_))); (case side2 => exact HC0.out); (case side3 => repeat (first | exact (Kd.C_below HR194.out HB.out) | (with_reducible refine Kd.C_alloc ?_ _) | (with_reducible refine Kd.C_drewN ?_ _) | (with_reducible refine Kd.C_drew ?_))); (case side4 => exact HC194.out); rintro e w36 ⟨rfl, hb⟩; refine ⟨_, rfl, ?_⟩; have n0_ := Aside0.mk (below_step (by repeat (first | (with_reducible first | exact HB.out | apply below_alloc | apply pw_below_drewN | apply below_drew1) | exact HB.out)) hb); clear HB; have HB := n0_; clear n0_; (try clear hb); (try clear hb2); (try clear hk); (try clear hi)) | ((with_reducible refine gate_callee (f := 33) rfl ?_); refine goesL_ (some 67) rfl rfl Try.func33 (by kernel_rfl) rfl #[.slice A1 y185.length c1] rfl (by (try simp only [List.map_toArray, List.map_cons, List.map_nil]); first | done | rfl | (simp only [List.length_drop, List.length_take]; rfl) | (refine congrArg (fun z_ => #[z_]) (congrArg (Value.int IntKind.u64) (Eq.symm (Go.Proofs.YtjfklfmfeghjnabAid.wrap_len _ (by omega)))))) ?_; (with_reducible refine (trace_Count.calls _ _ y185 t201 t202 t203 _ ?side1 ?side2 A26.out).mono ?_); (case side1 => repeat (first | exact (Kd.C_below HR188.out HB.out) | (with_reducible refine Kd.C_alloc ?_ _) | (with_reducible refine Kd.C_drewN ?_ _) | (with_reducible refine Kd.C_drew ?_))); (case side2 => exact HC188.out); rintro e w38 ⟨rfl, hb⟩; refine ⟨_, rfl, ?_⟩; have n0_ := Aside0.mk (below_step (by repeat (first | (with_reducible first | exact HB.out | apply below_alloc | apply pw_below_drewN | apply below_drew1) | exact HB.out)) hb); clear HB; have HB := n0_; clear n0_; (try clear hb); (try clear hb2); (try clear hk); (try clear hi)) | ((with_reducible refine gate_callee (f := 33) rfl ?_); refine goesL_ (some 75) rfl rfl Try.func33 (by kernel_rfl) rfl #[.slice A35 y191.length c35] rfl (by (try simp only [List.map_toArray, List.map_cons, List.map_nil]); first | done | rfl | (simp only [List.length_drop, List.length_take]; rfl) | (refine congrArg (fun z_ => #[z_]) (congrArg (Value.int IntKind.u64) (Eq.symm (Go.Proofs.YtjfklfmfeghjnabAid.wrap_len _ (by omega)))))) ?_; (with_reducible refine (trace_Count.calls _ _ y191 t208 t209 t210 _ ?side1 ?side2 A29.out).mono ?_); (case side1 => repeat (first | exact (Kd.C_below HR194.out HB.out) | (with_reducible refine Kd.C_alloc ?_ _) | (with_reducible refine Kd.C_drewN ?_ _) | (with_reducible refine Kd.C_drew ?_))); (case side2 => exact HC194.out); rintro e w40 ⟨rfl, hb⟩; refine ⟨_, rfl, ?_⟩; have n0_ := Aside0.mk (below_step (by repeat (first | (with_reducible first | exact HB.out | apply below_alloc | apply pw_below_drewN | apply below_drew1) | exact HB.out)) hb); clear HB; have HB := n0_; clear n0_; (try clear hb); (try clear hb2); (try clear hk); (try clear hi)) | ((with_reducible refine gate_callee (f := 33) rfl ?_); refine goesL_ (some 81) rfl rfl Try.func33 (by kernel_rfl) rfl #[.slice A1 l1.length c1] rfl (by (try simp only [List.map_toArray, List.map_cons, List.map_nil]); first | done | rfl | (simp only [List.length_drop, List.length_take]; rfl) | (refine congrArg (fun z_ => #[z_]) (congrArg (Value.int IntKind.u64) (Eq.symm (Go.Proofs.YtjfklfmfeghjnabAid.wrap_len _ (by omega)))))) ?_; (with_reducible refine (trace_Count.calls _ _ l1 t211 t212 t213 _ ?side1 ?side2 A30.out).mono ?_); (case side1 => repeat (first | exact (Kd.C_below HR1.out HB.out) | (with_reducible refine Kd.C_alloc ?_ _) | (with_reducible refine Kd.C_drewN ?_ _) | (with_reducible refine Kd.C_drew ?_))); (case side2 => exact HC1.out); rintro e w41 ⟨rfl, hb⟩; refine ⟨_, rfl, ?_⟩; have n0_ := Aside0.mk (below_step (by repeat (first | (with_reducible first | exact HB.out | apply below_alloc | apply pw_below_drewN | apply below_drew1) | exact HB.out)) hb); clear HB; have HB := n0_; clear n0_; (try clear hb); (try clear hb2); (try clear hk); (try clear hi)))
                (try simp only [Act.put, List.setIfInBounds_toArray, List.set_cons_zero, List.set_cons_succ])
                go_cut [111] (fun v111 wc => ∃ (kq : Nat) (x111_30 : Bool), v111 = .bool x111_30 ∧ Aside0 (tachographlaw12_TraceParts.j1 kq l0 l1 x111_30 = some r) ∧ Aside0 (kq ≤ kj3) ∧ Aside0 (Below w.heap.size w wc))
                case first =>
                  have H := HC31.out
                  clear HC31
                  by_cases c42 : t189 = 0
                  · rw [if_pos c42] at H
                    have c42b0 : (t189 == 0) = true := beq_iff_eq.mpr c42
                    have c42b1 : (t189 != 0) = false := bne_eq_false_iff_eq.mpr c42
                    clear c42
                    (first | rw [c42b0] | (simp only [i64_w, i32_w]; rw [c42b0]) | skip)
                    by_cases c43 : t195 = 0
                    · rw [if_pos c43] at H
                      have c43b0 : (t195 == 0) = true := beq_iff_eq.mpr c43
                      have c43b1 : (t195 != 0) = false := bne_eq_false_iff_eq.mpr c43
                      clear c43
                      by_cases c44 : (wrap64 (t201 + t208)) = t211
                      · rw [if_pos c44] at H
                        have c44b0 : ((wrap64 (t201 + t208)) == t211) = true := beq_iff_eq.mpr c44
                        have c44b1 : ((wrap64 (t201 + t208)) != t211) = false := bne_eq_false_iff_eq.mpr c44
                        clear c44
                        by_cases c45 : (wrap64 (t202 + t209)) = t212
                        · rw [if_pos c45] at H
                          have c45b0 : ((wrap64 (t202 + t209)) == t212) = true := beq_iff_eq.mpr c45
                          have c45b1 : ((wrap64 (t202 + t209)) != t212) = false := bne_eq_false_iff_eq.mpr c45
                          clear c45
                          have H' := Aside0.mk H
                          clear H
                          go_wp2
                          go_meet
                          case rel => exact ⟨_, (((wrap64 (t203 + t210)) != t213)), (by first | rfl | (simp; done) | (simp [*]; done)), H', ⟨by have := HJ3.out; first | omega | exact Nat.le_refl _⟩, ⟨by repeat (first | (with_reducible first | exact HB.out | apply below_alloc | apply pw_below_drewN | apply below_drew1) | exact HB.out)⟩⟩
                        · rw [if_neg c45] at H
                          have c45b0 : ((wrap64 (t202 + t209)) == t212) = false := beq_eq_false_iff_ne.mpr c45
                          have c45b1 : ((wrap64 (t202 + t209)) != t212) = true := bne_iff_ne.mpr c45
                          have H' := Aside0.mk H
                          clear H
                          go_wp2
                          go_meet
                          case rel => exact ⟨_, (true), (by first | rfl | (simp; done) | (simp [*]; done)), H', ⟨by have := HJ3.out; first | omega | exact Nat.le_refl _⟩, ⟨by repeat (first | (with_reducible first | exact HB.out | apply below_alloc | apply pw_below_drewN | apply below_drew1) | exact HB.out)⟩⟩
                      · rw [if_neg c44] at H
                        have c44b0 : ((wrap64 (t201 + t208)) == t211) = false := beq_eq_false_iff_ne.mpr c44
                        have c44b1 : ((wrap64 (t201 + t208)) != t211) = true := bne_iff_ne.mpr c44
                        have H' := Aside0.mk H
                        clear H
                        go_wp2
                        go_meet
                        case rel => exact ⟨_, (true), (by first | rfl | (simp; done) | (simp [*]; done)), H', ⟨by have := HJ3.out; first | omega | exact Nat.le_refl _⟩, ⟨by repeat (first | (with_reducible first | exact HB.out | apply below_alloc | apply pw_below_drewN | apply below_drew1) | exact HB.out)⟩⟩
                    · rw [if_neg c43] at H
                      have c43b0 : (t195 == 0) = false := beq_eq_false_iff_ne.mpr c43
                      have c43b1 : (t195 != 0) = true := bne_iff_ne.mpr c43
                      have H' := Aside0.mk H
                      clear H
                      go_wp2
                      go_meet
                      case rel => exact ⟨_, (true), (by first | rfl | (simp; done) | (simp [*]; done)), H', ⟨by have := HJ3.out; first | omega | exact Nat.le_refl _⟩, ⟨by repeat (first | (with_reducible first | exact HB.out | apply below_alloc | apply pw_below_drewN | apply below_drew1) | exact HB.out)⟩⟩
                  · rw [if_neg c42] at H
                    have c42b0 : (t189 == 0) = false := beq_eq_false_iff_ne.mpr c42
                    have c42b1 : (t189 != 0) = true := bne_iff_ne.mpr c42
                    (first | rw [c42b0] | (simp only [i64_w, i32_w]; rw [c42b0]) | skip)
                    have H' := Aside0.mk H
                    clear H
                    go_wp2
                    go_meet
                    case rel => exact ⟨_, (true), (by first | rfl | (simp; done) | (simp [*]; done)), H', ⟨by have := HJ3.out; first | omega | exact Nat.le_refl _⟩, ⟨by repeat (first | (with_reducible first | exact HB.out | apply below_alloc | apply pw_below_drewN | apply below_drew1) | exact HB.out)⟩⟩
                case rest =>
                  clear HC31
                  try clear c1
                  try clear c2
                  try clear p2
                  try clear c3
                  try clear q3
                  try clear c4
                  try clear c6
                  try clear p6
                  try clear c11
                  try clear c15
                  try clear c15b0
                  try clear c15b1
                  try clear c16
                  try clear c16b0
                  try clear c16b1
                  try clear c18
                  try clear c18b0
                  try clear c18b1
                  try clear c19
                  try clear c19b0
                  try clear c19b1
                  try clear c21
                  try clear c21b0
                  try clear c22
                  try clear c22b0
                  try clear c24
                  try clear c24b0
                  try clear c25
                  try clear c25b0
                  try clear c27
                  try clear c27b0
                  try clear c28
                  try clear c28b0
                  try clear c29
                  try clear c30
                  try clear c31
                  try clear c33
                  try clear q33
                  try clear c35
                  try clear q35
                  try clear q37
                  try clear c35
                  try clear q39
                  try clear c42
                  try clear c42b0
                  try clear c42b1
                  try clear c43
                  try clear c43b0
                  try clear c43b1
                  try clear c44
                  try clear c44b0
                  try clear c44b1
                  try clear c45
                  try clear c45b0
                  try clear c45b1
                  try clear p2
                  try clear q035
                  try clear q039
                  try clear q33
                  try clear q35
                  try clear q37
                  try clear q39
                  obtain ⟨kq, x111_30, rfl, HA, HJ30, HB⟩ := hcut
                  cases kq with
                  | zero => exact absurd HA.out (by simp [tachographlaw12_TraceParts.j1])
                  | succ kj30 =>
                    have H := HA.out
                    clear HA
                    simp only [tachographlaw12_TraceParts.j1] at H
                    by_cases c46 : x111_30 = true
                    · subst c46
                      have H1 : (some false) = some r := by rw [if_pos rfl] at H; exact H
                      clear H
                      have H := H1
                      clear H1
                      obtain rfl := Option.some.inj H
                      go_wp2
                      go_ret
                      exact ⟨by first | rfl | (simp [errW_none, errW_some] <;> rfl) | (simp only [← hji17]; first | rfl | (simp [errW_none, errW_some] <;> rfl)) | (simp [*, errW_none, errW_some] <;> rfl), by repeat (first | (with_reducible first | exact HB.out | apply below_alloc | apply pw_below_drewN | apply below_drew1) | exact HB.out)⟩
                    · replace c46 := Bool.eq_false_iff.mpr c46
                      subst c46
                      have H1 : (if (l1.length : Int) = 0 then (tachographlaw12_TraceParts.j2 kj30 l0 l1 true) else (if 0 ≤ (wrap64 ((l1.length : Int) - 1)) then (if (wrap64 ((l1.length : Int) - 1)) < (l1.length : Int) then (tachographlaw12_TraceParts.j2 kj30 l0 l1 (((rd_T44 l1 (wrap64 ((l1.length : Int) - 1))).f0) == 0)) else (none)) else (none))) = some r := by rw [if_neg (show ¬ (false = true) by decide)] at H; exact H
                      clear H
                      have H := H1
                      clear H1
                      have HC47 := Aside0.mk H
                      clear H
                      go_upto_region 14 with (fail)
                      go_cut [124] (fun v124 wc => ∃ (kq : Nat) (x124_46 : Bool), v124 = .bool x124_46 ∧ Aside0 (tachographlaw12_TraceParts.j2 kq l0 l1 x124_46 = some r) ∧ Aside0 (kq ≤ kj30) ∧ Aside0 (Below w.heap.size w wc))
                      case first =>
                        have H := HC47.out
                        clear HC47
                        by_cases c48 : (l1.length : Int) = 0
                        · rw [if_pos c48] at H
                          have c48b0 : ((l1.length : Int) == 0) = true := beq_iff_eq.mpr c48
                          have c48b1 : ((l1.length : Int) != 0) = false := bne_eq_false_iff_eq.mpr c48
                          clear c48
                          (first | rw [c48b0] | (simp only [i64_w, i32_w]; rw [c48b0]) | skip)
                          have H' := Aside0.mk H
                          clear H
                          go_wp2
                          go_meet
                          case rel => exact ⟨_, (true), (by first | rfl | (simp; done) | (simp [*]; done)), H', ⟨by have := HJ3.out; have := HJ30.out; first | omega | exact Nat.le_refl _⟩, ⟨by repeat (first | (with_reducible first | exact HB.out | apply below_alloc | apply pw_below_drewN | apply below_drew1) | exact HB.out)⟩⟩
                        · rw [if_neg c48] at H
                          have c48b0 : ((l1.length : Int) == 0) = false := beq_eq_false_iff_ne.mpr c48
                          have c48b1 : ((l1.length : Int) != 0) = true := bne_iff_ne.mpr c48
                          have c48b2 : ¬ (l1 = []) := fun h_ => c48 (by rw [h_]; rfl)
                          (first | rw [c48b0] | (simp only [i64_w, i32_w]; rw [c48b0]) | skip)
                          obtain ⟨ji49, hji49⟩ : ∃ j_ : Int, (wrap64 ((l1.length : Int) - 1)) = j_ := ⟨_, rfl⟩
                          replace H : (if 0 ≤ (ji49) then (if (ji49) < (l1.length : Int) then (tachographlaw12_TraceParts.j2 kj30 l0 l1 (((rd_T44 l1 (ji49)).f0) == 0)) else (none)) else (none)) = some r := by first | (rw [hji49] at H; exact H) | (simp only [hji49] at H ⊢; exact H)
                          have hji49w : (IntKind.i64.wrap ((l1.length : Int) - 1)) = ji49 := (i64_w _).trans hji49
                          by_cases c50 : 0 ≤ (ji49)
                          · rw [if_pos c50] at H
                            have c50b0 : decide (0 ≤ (ji49)) = true := decide_eq_true c50
                            clear c50
                            by_cases c51 : (ji49) < (l1.length : Int)
                            · rw [if_pos c51] at H
                              have c51b0 : decide ((ji49) < (l1.length : Int)) = true := decide_eq_true c51
                              clear c51
                              have H' := Aside0.mk H
                              clear H
                              have p214 : 0 ≤ ((ji49) : Int) := of_decide_eq_true (by first | (with_reducible assumption) | assumption)
                              have q214 : (ji49) < (l1.length : Int) := of_decide_eq_true (by first | (with_reducible assumption) | assumption)
                              obtain ⟨ad214, A214_1, c214_1, e214, hx214_0, hx214_1, hl214_1, hi214_1⟩ := at_T44 HR1.out (ji49) p214 q214
                              cases e214
                              replace hx214_0 := (HB.out.cell (World.block_lt_of_cell? w _ hx214_0)).trans hx214_0
                              replace hx214_1 := (HB.out.cell (World.block_lt_of_cell? w _ hx214_1)).trans hx214_1
                              have HR214_1 := Aside0.mk hi214_1
                              have HC214_1 := Aside0.mk hl214_1
                              clear hi214_1 hl214_1
                              replace p214 := eq_true p214
                              replace q214 := eq_true q214
                              go_wp2
                              go_meet
                              case rel => exact ⟨_, ((((rd_T44 l1 (ji49)).f0) == 0)), (by first | rfl | (simp; done) | (simp only [← hji49] <;> (first | rfl | simp)) | (simp [*]; done)), H', ⟨by have := HJ3.out; have := HJ30.out; first | omega | exact Nat.le_refl _⟩, ⟨by repeat (first | (with_reducible first | exact HB.out | apply below_alloc | apply pw_below_drewN | apply below_drew1) | exact HB.out)⟩⟩
                            · rw [if_neg c51] at H
                              exact absurd H (by simp)
                          · rw [if_neg c50] at H
                            exact absurd H (by simp)
                      case rest =>
                        clear HC47
                        try clear c1
                        try clear c2
                        try clear p2
                        try clear q2
                        try clear hx2
                        try clear c3
                        try clear q3
                        try clear c4
                        try clear c5
                        try clear c6
                        try clear p6
                        try clear c11
                        try clear c15
                        try clear c15b0
                        try clear c15b1
                        try clear c16
                        try clear c16b0
                        try clear c16b1
                        try clear c18
                        try clear c18b0
                        try clear c18b1
                        try clear c19
                        try clear c19b0
                        try clear c19b1
                        try clear c21
                        try clear c21b0
                        try clear p21
                        try clear q21
                        try clear hx21
                        try clear c22
                        try clear c22b0
                        try clear c24
                        try clear c24b0
                        try clear c25
                        try clear c25b0
                        try clear c27
                        try clear c27b0
                        try clear c28
                        try clear c28b0
                        try clear c29
                        try clear c30
                        try clear c31
                        try clear c33
                        try clear q33
                        try clear c35
                        try clear q35
                        try clear q37
                        try clear c35
                        try clear q39
                        try clear c42
                        try clear c42b0
                        try clear c42b1
                        try clear c43
                        try clear c43b0
                        try clear c43b1
                        try clear c44
                        try clear c44b0
                        try clear c44b1
                        try clear c45
                        try clear c45b0
                        try clear c45b1
                        try clear c46
                        try clear c48
                        try clear c48b0
                        try clear c48b1
                        try clear c48b2
                        try clear c50
                        try clear c50b0
                        try clear c51
                        try clear c51b0
                        try clear hx214_0
                        try clear hx214_1
                        try clear p2
                        try clear p214
                        try clear p6
                        try clear q035
                        try clear q039
                        try clear q214
                        try clear q3
                        try clear q33
                        try clear q35
                        try clear q37
                        try clear q39
                        obtain ⟨kq, x124_46, rfl, HA, HJ46, HB⟩ := hcut
                        cases kq with
                        | zero => exact absurd HA.out (by simp [tachographlaw12_TraceParts.j2])
                        | succ kj46 =>
                          have H := HA.out
                          clear HA
                          simp only [tachographlaw12_TraceParts.j2] at H
                          by_cases c52 : x124_46 = true
                          · subst c52
                            have H1 : ((tachographlaw12_fixed.f kj46).bind fun t215 => (some t215)) = some r := by rw [if_pos rfl] at H; exact H
                            clear H
                            have H := H1
                            clear H1
                            replace H := Option.bind_eq_some_iff.mp H
                            obtain ⟨t215, A530, H⟩ := H
                            replace H : (some t215) = some r := H
                            have A53 := Aside0.mk A530
                            clear A530
                            obtain rfl := Option.some.inj H
                            go_wp2_with (first | ((with_reducible refine gate_callee (f := 30) rfl ?_); refine goesL_ (some 125) rfl rfl Try.func30 (by kernel_rfl) rfl #[] rfl (by (try simp only [List.map_toArray, List.map_cons, List.map_nil]); first | done | rfl | (simp only [List.length_drop, List.length_take]; rfl) | (refine congrArg (fun z_ => #[z_]) (congrArg (Value.int IntKind.u64) (Eq.symm (Go.Proofs.YtjfklfmfeghjnabAid.wrap_len _ (by omega)))))) ?_; (with_reducible refine (tachographlaw12_fixed.calls kj46  t215 _ A53.out).mono ?_); rintro e w54 ⟨rfl, hb⟩; refine ⟨_, rfl, ?_⟩; have n0_ := Aside0.mk (below_step (by repeat (first | (with_reducible first | exact HB.out | apply below_alloc | apply pw_below_drewN | apply below_drew1) | exact HB.out)) hb); clear HB; have HB := n0_; clear n0_; (try clear hb); (try clear hb2); (try clear hk); (try clear hi)))
                            go_ret
                            exact ⟨by first | rfl | (simp [errW_none, errW_some] <;> rfl) | (simp only [← hji17]; first | rfl | (simp [errW_none, errW_some] <;> rfl)) | (simp [*, errW_none, errW_some] <;> rfl), by repeat (first | (with_reducible first | exact HB.out | apply below_alloc | apply pw_below_drewN | apply below_drew1) | exact HB.out)⟩
                          · replace c52 := Bool.eq_false_iff.mpr c52
                            subst c52
                            have H1 : (if 0 ≤ (wrap64 ((l1.length : Int) - 1)) then (if (wrap64 ((l1.length : Int) - 1)) < (l1.length : Int) then ((if l1.length ≤ 3000 then (trace_Check.f kj46 l0 (l1 ++ ([(⟨IntKind.u64.wrap (((rd_T44 l1 (wrap64 ((l1.length : Int) - 1))).f0) - 1), ([] : List (S61))⟩ : S44)] : List (S44)))) else none).bind fun bt220 => ((tachographlaw12_fixed.f kj46).bind fun t222 => (if t222 = true then (if bt220.1 = 8 then (some (bt220.2 == (l1.length : Int))) else (some false)) else (some false)))) else (none)) else (none)) = some r := by rw [if_neg (show ¬ (false = true) by decide)] at H; exact H
                            clear H
                            have H := H1
                            clear H1
                            obtain ⟨ji55, hji55⟩ : ∃ j_ : Int, (wrap64 ((l1.length : Int) - 1)) = j_ := ⟨_, rfl⟩
                            replace H : (if 0 ≤ (ji55) then (if (ji55) < (l1.length : Int) then ((if l1.length ≤ 3000 then (trace_Check.f kj46 l0 (l1 ++ ([(⟨IntKind.u64.wrap (((rd_T44 l1 (ji55)).f0) - 1), ([] : List (S61))⟩ : S44)] : List (S44)))) else none).bind fun bt220 => ((tachographlaw12_fixed.f kj46).bind fun t222 => (if t222 = true then (if bt220.1 = 8 then (some (bt220.2 == (l1.length : Int))) else (some false)) else (some false)))) else (none)) else (none)) = some r := by first | (rw [hji55] at H; exact H) | (simp only [hji55] at H ⊢; exact H)
                            have hji55w : (IntKind.i64.wrap ((l1.length : Int) - 1)) = ji55 := (i64_w _).trans hji55
                            by_cases c56 : 0 ≤ (ji55)
                            · rw [if_pos c56] at H
                              have c56b0 : decide (0 ≤ (ji55)) = true := decide_eq_true c56
                              clear c56
                              by_cases c57 : (ji55) < (l1.length : Int)
                              · rw [if_pos c57] at H
                                have c57b0 : decide ((ji55) < (l1.length : Int)) = true := decide_eq_true c57
                                clear c57
                                obtain ⟨y217, hy217⟩ : ∃ y_ : List (S44), y_ = l1 ++ (([(⟨IntKind.u64.wrap (((rd_T44 l1 (ji55)).f0) - 1), ([] : List (S61))⟩ : S44)] : List (S44))) := ⟨_, rfl⟩
                                replace H : ((if l1.length ≤ 3000 then (trace_Check.f kj46 l0 y217) else none).bind fun bt220 => ((tachographlaw12_fixed.f kj46).bind fun t222 => (if t222 = true then (if bt220.1 = 8 then (some (bt220.2 == (l1.length : Int))) else (some false)) else (some false)))) = some r := by first | (rw [hy217]; with_reducible exact H) | (have H2_ := (Option.bind_some _ _).symm.trans H; rw [hy217]; with_reducible exact H2_) | (have H2_ := (Option.bind_some _ _).symm.trans H; with_reducible exact H2_) | with_reducible exact H | (rw [hy217]; exact H) | exact H
                                have Ny217 := Aside0.mk hy217
                                clear hy217
                                replace H := Option.bind_eq_some_iff.mp H
                                obtain ⟨⟨t220, t221⟩, A580, H⟩ := H
                                replace H : ((tachographlaw12_fixed.f kj46).bind fun t222 => (if t222 = true then (if t220 = 8 then (some (t221 == (l1.length : Int))) else (some false)) else (some false))) = some r := H
                                have A58 := Aside0.mk A580
                                clear A580
                                have hln : l1.length ≤ 3000 := Decidable.byContradiction (fun hln => absurd A58.out (by rw [if_neg hln]; simp))
                                replace A58 := Aside0.mk ((if_pos hln).symm.trans A58.out)
                                go_upto_region 16 with (fail)
                                go_cut [23, 24] (fun v23 v24 wc => v23 = .int .i64 t220 ∧ v24 = .int .i64 t221 ∧ Aside0 (Below w.heap.size w wc))
                                case first =>
                                  have p216 := of_decide_eq_true c56b0
                                  have q216 := of_decide_eq_true c57b0
                                  obtain ⟨ad_, A9_, c9_, hA1_, hx_, hy_, hl_, hi_⟩ := at_T44 HR1.out (ji55) p216 q216
                                  subst hA1_
                                  clear hy_ hl_ hi_
                                  replace p216 := eq_true p216
                                  replace q216 := eq_true q216
                                  have hbc := Aside0.mk (below_drew1 (by repeat (first | (with_reducible first | exact HB.out | apply below_alloc | apply pw_below_drewN | apply below_drew1) | exact HB.out)))
                                  refine start_ (n := 21) (S := fun w' => w'.cell? (ad_.add ((ji55).toNat * 2)) = some (.int .u64 (rd_T44 l1 (ji55)).f0)) (ds := []) #[false, false, false, false, false, false, false, false, false, false, false, false, false, false, false, false, false, false, false, false, false] (by kernel_rfl) rfl rfl (((hbc.out.cell (World.block_lt_of_cell? w _ hx_)).trans hx_)) (fun hHeld => ?_)
                                  refine pure_ (i := 0) (N := some 127) (v := ?_) (a' := ?_) #[true, false, false, false, false, false, false, false, false, false, false, false, false, false, false, false, false, false, false, false, false] rfl rfl (by kernel_rfl) (fun _ _ _ h => h) (Or.inl ⟨by rfl, ?_⟩) ?_ ?_
                                  rotate_left
                                  · intro w'
                                    go_simp
                                    with_reducible rfl
                                  rotate_left
                                  · simp only [Act.put, List.setIfInBounds_toArray, List.set_cons_zero, List.set_cons_succ, i64_w, i32_w]
                                    rfl
                                  refine pure_ (i := 2) (N := some 129) (v := ?_) (a' := ?_) #[true, false, true, false, false, false, false, false, false, false, false, false, false, false, false, false, false, false, false, false, false] rfl rfl (by kernel_rfl) (fun _ _ _ h => h) (Or.inl ⟨by rfl, ?_⟩) ?_ ?_
                                  rotate_left
                                  · intro w'
                                    go_simp
                                    with_reducible rfl
                                  rotate_left
                                  · simp only [Act.put, List.setIfInBounds_toArray, List.set_cons_zero, List.set_cons_succ, i64_w, i32_w]
                                    rfl
                                  refine pure_ (i := 4) (N := some 131) (v := ?_) (a' := ?_) #[true, false, true, false, true, false, false, false, false, false, false, false, false, false, false, false, false, false, false, false, false] rfl rfl (by kernel_rfl) (fun _ _ _ h => h) (Or.inl ⟨by rfl, ?_⟩) ?_ ?_
                                  rotate_left
                                  · intro w'
                                    go_simp
                                    with_reducible rfl
                                  rotate_left
                                  · simp only [Act.put, List.setIfInBounds_toArray, List.set_cons_zero, List.set_cons_succ, i64_w, i32_w]
                                    rfl
                                  refine pure_ (i := 5) (N := some 132) (v := ?_) (a' := ?_) #[true, false, true, false, true, true, false, false, false, false, false, false, false, false, false, false, false, false, false, false, false] rfl rfl (by kernel_rfl) (fun _ _ _ h => h) (Or.inl ⟨by rfl, ?_⟩) ?_ ?_
                                  rotate_left
                                  · intro w'
                                    go_simp
                                    with_reducible rfl
                                  rotate_left
                                  · simp only [Act.put, List.setIfInBounds_toArray, List.set_cons_zero, List.set_cons_succ, i64_w, i32_w]
                                    rfl
                                  refine pure_ (i := 6) (N := some 133) (v := ?_) (a' := ?_) #[true, false, true, false, true, true, true, false, false, false, false, false, false, false, false, false, false, false, false, false, false] rfl rfl (by kernel_rfl) (fun _ _ _ h => h) (Or.inl ⟨by rfl, ?_⟩) ?_ ?_
                                  rotate_left
                                  · intro w'
                                    go_simp
                                    with_reducible rfl
                                  rotate_left
                                  · simp only [Act.put, List.setIfInBounds_toArray, List.set_cons_zero, List.set_cons_succ, i64_w, i32_w]
                                    rfl
                                  refine pure_ (i := 7) (N := some 134) (v := ?_) (a' := ?_) #[true, false, true, false, true, true, true, true, false, false, false, false, false, false, false, false, false, false, false, false, false] rfl rfl (by kernel_rfl) (fun _ _ _ h => h) (Or.inl ⟨by rfl, ?_⟩) ?_ ?_
                                  rotate_left
                                  · intro w'
                                    go_simp
                                    with_reducible rfl
                                  rotate_left
                                  · simp only [Act.put, List.setIfInBounds_toArray, List.set_cons_zero, List.set_cons_succ, i64_w, i32_w]
                                    rfl
                                  refine pure_ (i := 8) (N := some 135) (v := ?_) (a' := ?_) #[true, false, true, false, true, true, true, true, true, false, false, false, false, false, false, false, false, false, false, false, false] rfl rfl (by kernel_rfl) (fun _ _ _ h => h) (Or.inl ⟨by rfl, ?_⟩) ?_ ?_
                                  rotate_left
                                  · intro w'
                                    go_simp
                                    with_reducible rfl
                                  rotate_left
                                  · simp only [Act.put, List.setIfInBounds_toArray, List.set_cons_zero, List.set_cons_succ, i64_w, i32_w]
                                    rfl
                                  refine pure_ (i := 9) (N := some 136) (v := ?_) (a' := ?_) #[true, false, true, false, true, true, true, true, true, true, false, false, false, false, false, false, false, false, false, false, false] rfl rfl (by kernel_rfl) (fun _ _ _ h => h) (Or.inl ⟨by rfl, ?_⟩) ?_ ?_
                                  rotate_left
                                  · intro w'
                                    go_simp
                                    with_reducible rfl
                                  rotate_left
                                  · simp only [Act.put, List.setIfInBounds_toArray, List.set_cons_zero, List.set_cons_succ, i64_w, i32_w]
                                    rfl
                                  refine take_ (i := 10) (N := some 137) (v := ?_) (a' := ?_) #[true, false, true, false, true, true, true, true, true, true, true, false, false, false, false, false, false, false, false, false, false] rfl rfl (by kernel_rfl) (fun _ _ _ h => h) (Or.inl ⟨by rfl, ?_⟩) hHeld ?_ ?_
                                  rotate_left
                                  · intro w' s0
                                    go_simp
                                    with_reducible rfl
                                  rotate_left
                                  · simp only [Act.put, List.setIfInBounds_toArray, List.set_cons_zero, List.set_cons_succ, i64_w, i32_w]
                                    rfl
                                  refine pure_ (i := 11) (N := some 138) (v := ?_) (a' := ?_) #[true, false, true, false, true, true, true, true, true, true, true, true, false, false, false, false, false, false, false, false, false] rfl rfl (by kernel_rfl) (fun _ _ _ h => h) (Or.inl ⟨by rfl, ?_⟩) ?_ ?_
                                  rotate_left
                                  · intro w'
                                    go_simp
                                    with_reducible rfl
                                  rotate_left
                                  · simp only [Act.put, List.setIfInBounds_toArray, List.set_cons_zero, List.set_cons_succ, i64_w, i32_w]
                                    rfl
                                  refine pure_ (i := 12) (N := some 139) (v := ?_) (a' := ?_) #[true, false, true, false, true, true, true, true, true, true, true, true, true, false, false, false, false, false, false, false, false] rfl rfl (by kernel_rfl) (fun _ _ _ h => h) (Or.inl ⟨by rfl, ?_⟩) ?_ ?_
                                  rotate_left
                                  · intro w'
                                    go_simp
                                    with_reducible rfl
                                  rotate_left
                                  · simp only [Act.put, List.setIfInBounds_toArray, List.set_cons_zero, List.set_cons_succ, i64_w, i32_w]
                                    rfl
                                  refine join_ (σ := Value × Value × Value) 7 #[true, true, true, true, true, true, true, true, true, true, true, true, true, true, false, false, false, false, false, false, false] (fun s_ => [(128, s_.1), (130, s_.2.1), (140, s_.2.2)]) (fun s_ w' => (w'.cell? (ad_.add ((ji55).toNat * 2)) = some (.int .u64 (rd_T44 l1 (ji55)).f0)) ∧ (Kd.fixed k44 w).R 44 w' w.heap.size (fun _ => True) s_.2.1 l1 ∧ (Kd.fixed k44 w).R 44 w' w.heap.size (fun _ => True) s_.2.2 [(⟨IntKind.u64.wrap (((rd_T44 l1 (ji55)).f0) - 1), ([] : List (S61))⟩ : S44)] ∧ Below w.heap.size w w') ?_ ?_
                                  rotate_left
                                  · intro hCont
                                    refine two_ (i := 1) (j := 13) (Ni := some 128) (Nj := some 140) #[true, true, true, false, true, true, true, true, true, true, true, true, true, false, false, false, false, false, false, false, false] #[true, false, true, false, true, true, true, true, true, true, true, true, true, true, false, false, false, false, false, false, false] rfl rfl rfl rfl (by kernel_rfl) (by decide) (by decide) (fun K hK => ?_) (fun K hK => ?_)
                                    · skip
                                      refine Kd.R_lit_step (Kd.fixed k44 w) w.heap.size 44 ?hw (N := 128) ?hd (xs := ([] : List S44)) (inner := []) (ok := fun _ => True) (okp := fun _ => True) ?hr ?hp (fun _ hk => hk) trivial hbc.out (below_size hbc.out) (by simp) ?_
                                      case hw => rfl
                                      case hd => rfl
                                      case hr => first | (go_simp; done) | (go_simp; rfl)
                                      case hp => exact Reps.none _ _
                                      intro v128 w128 ho128 hb128 hg128 hat128
                                      replace hbc := Aside0.mk hb128
                                      clear hb128
                                      refine hK.out _ _ (((hbc.out.cell (World.block_lt_of_cell? w _ hx_)).trans hx_)) (fun hHeld => ?_)
                                      clear hK K
                                      refine norm_ (a' := ?_) ?_ ?_
                                      rotate_left
                                      · show Act.put _ (some 128) _ = _
                                        simp only [Act.put, List.setIfInBounds_toArray, List.set_cons_zero, List.set_cons_succ, i64_w, i32_w]
                                        rfl
                                      refine two_ (i := 3) (j := 13) (Ni := some 130) (Nj := some 140) #[true, true, true, true, true, true, true, true, true, true, true, true, true, false, false, false, false, false, false, false, false] #[true, true, true, false, true, true, true, true, true, true, true, true, true, true, false, false, false, false, false, false, false] rfl rfl rfl rfl (by kernel_rfl) (by decide) (by decide) (fun K hK => ?_) (fun K hK => ?_)
                                      · skip
                                        refine Kd.R_append_rows_step (Kd.fixed k44 w) (w0 := w) (Rr := k44.K w) w.heap.size (by rfl) (.tmp 128) (.tmp 129) 37 44 (.agg #[(.int .u64 0), (.slice none 0 0)]) 32 rfl Try.underlying37 info44 rfl ?a0 (by omega) v128 ([] : List S44) l1 _ _ _ (fun _ => True) (fun _ => False) rfl rfl ?aO ?aR (fun _ _ h => h) (fun _ h => h.elim) ?aF ?aB ?aS ?aL ?_
                                        case a0 => exact (by decide : 0 < 2)
                                        case aO => exact ho128
                                        case aR => exact Kd.C_below (d := (Kd.fixed k44 w)) HR1.out hbc.out
                                        case aF => exact fun _ _ => trivial
                                        case aB => exact hbc.out
                                        case aS => exact below_size hbc.out
                                        case aL => simp only [List.length_nil, List.length_cons]; omega
                                        intro v130 w130 ho130 hb130 hg130 hat130
                                        replace hbc := Aside0.mk hb130
                                        clear hb130
                                        rw [List.nil_append] at ho130
                                        refine hK.out _ _ (((hbc.out.cell (World.block_lt_of_cell? w _ hx_)).trans hx_)) (fun hHeld => ?_)
                                        clear hK K
                                        refine norm_ (a' := ?_) ?_ ?_
                                        rotate_left
                                        · show Act.put _ (some 130) _ = _
                                          simp only [Act.put, List.setIfInBounds_toArray, List.set_cons_zero, List.set_cons_succ, i64_w, i32_w]
                                          rfl
                                        refine one_ (i := 13) (N := some 140) #[true, true, true, true, true, true, true, true, true, true, true, true, true, true, false, false, false, false, false, false, false] rfl rfl (by kernel_rfl) (by decide) (fun K hK => ?_)
                                        refine Kd.R_lit_step (Kd.fixed k44 w) w.heap.size 44 ?hw (N := 140) ?hd (xs := [(⟨IntKind.u64.wrap (((rd_T44 l1 (ji55)).f0) - 1), ([] : List (S61))⟩ : S44)]) (inner := [.int .u64 (IntKind.u64.wrap (((rd_T44 l1 (ji55)).f0) - 1)), .slice none 0 0]) (ok := fun _ => True) (okp := fun _ => True) ?hr ?hp (fun _ hk => hk) trivial hbc.out (below_size hbc.out) (by simp) ?_
                                        case hw => rfl
                                        case hd => rfl
                                        case hr => first | (go_simp; done) | (go_simp; rfl)
                                        case hp => exact (Reps.c2 (show Kd.M (Kd.fixed k44 w) _ _ _ (⟨IntKind.u64.wrap (((rd_T44 l1 (ji55)).f0) - 1), ([] : List (S61))⟩ : S44) [.int .u64 (IntKind.u64.wrap (((rd_T44 l1 (ji55)).f0) - 1)), .slice none 0 0] from k44_mk w (⟨IntKind.u64.wrap (((rd_T44 l1 (ji55)).f0) - 1), ([] : List (S61))⟩ : S44) (Nat.zero_le _) (Kd.R_reads' (Kd.R_nil k61 61 w 0 (fun _ => True))).2.2) (Reps.none _ _))
                                        intro v140 w140 ho140 hb140 hg140 hat140
                                        replace hbc := Aside0.mk hb140
                                        clear hb140
                                        replace ho130 := Kd.R_grown ho130 hg140 (by simp)
                                        refine hK.out _ _ (((hbc.out.cell (World.block_lt_of_cell? w _ hx_)).trans hx_)) (fun hHeld => ?_)
                                        clear hK K
                                        refine norm_ (a' := ?_) ?_ ?_
                                        rotate_left
                                        · show Act.put _ (some 140) _ = _
                                          simp only [Act.put, List.setIfInBounds_toArray, List.set_cons_zero, List.set_cons_succ, i64_w, i32_w]
                                          rfl
                                        exact norm_ (by simp only [putAll, Act.put, List.setIfInBounds_toArray, List.set_cons_zero, List.set_cons_succ]) (hCont (v128, v130, v140) _ ⟨hHeld, ho130, ho140, hbc.out⟩)
                                      · skip
                                        have hlt128 : ∀ k, v128.ownBlock = some k → k < w128.heap.size := fun k hk => ((Kd.R_bound ho128).1 k hk).2.2.1
                                        refine Kd.R_lit_step (Kd.fixed k44 w) w.heap.size 44 ?hw (N := 140) ?hd (xs := [(⟨IntKind.u64.wrap (((rd_T44 l1 (ji55)).f0) - 1), ([] : List (S61))⟩ : S44)]) (inner := [.int .u64 (IntKind.u64.wrap (((rd_T44 l1 (ji55)).f0) - 1)), .slice none 0 0]) (ok := fun k => w128.heap.size ≤ k) (okp := fun _ => False) ?hr ?hp (fun _ hk => hk.elim) (Nat.le_refl _) hbc.out (below_size hbc.out) (by simp) ?_
                                        case hw => rfl
                                        case hd => rfl
                                        case hr => first | (go_simp; done) | (go_simp; rfl)
                                        case hp => exact (Reps.c2 (show Kd.M (Kd.fixed k44 w) _ _ _ (⟨IntKind.u64.wrap (((rd_T44 l1 (ji55)).f0) - 1), ([] : List (S61))⟩ : S44) [.int .u64 (IntKind.u64.wrap (((rd_T44 l1 (ji55)).f0) - 1)), .slice none 0 0] from k44_mk w (⟨IntKind.u64.wrap (((rd_T44 l1 (ji55)).f0) - 1), ([] : List (S61))⟩ : S44) (Nat.zero_le _) (Kd.R_reads' (Kd.R_nil k61 61 w 0 (fun _ => True))).2.2) (Reps.none _ _))
                                        intro v140 w140 ho140 hb140 hg140 hat140
                                        replace hbc := Aside0.mk hb140
                                        clear hb140
                                        replace ho128 := Kd.R_grown ho128 hg140 (by simp)
                                        refine hK.out _ _ (((hbc.out.cell (World.block_lt_of_cell? w _ hx_)).trans hx_)) (fun hHeld => ?_)
                                        clear hK K
                                        refine norm_ (a' := ?_) ?_ ?_
                                        rotate_left
                                        · show Act.put _ (some 140) _ = _
                                          simp only [Act.put, List.setIfInBounds_toArray, List.set_cons_zero, List.set_cons_succ, i64_w, i32_w]
                                          rfl
                                        refine one_ (i := 3) (N := some 130) #[true, true, true, true, true, true, true, true, true, true, true, true, true, true, false, false, false, false, false, false, false] rfl rfl (by kernel_rfl) (by decide) (fun K hK => ?_)
                                        refine Kd.R_append_rows_step (Kd.fixed k44 w) (w0 := w) (Rr := k44.K w) w.heap.size (by rfl) (.tmp 128) (.tmp 129) 37 44 (.agg #[(.int .u64 0), (.slice none 0 0)]) 32 rfl Try.underlying37 info44 rfl ?a0 (by omega) v128 ([] : List S44) l1 _ _ _ (fun _ => True) (fun _ => False) rfl rfl ?aO ?aR (fun _ _ h => h) (fun _ h => h.elim) ?aF ?aB ?aS ?aL ?_
                                        case a0 => exact (by decide : 0 < 2)
                                        case aO => exact ho128
                                        case aR => exact Kd.C_below (d := (Kd.fixed k44 w)) HR1.out hbc.out
                                        case aF => exact fun _ _ => trivial
                                        case aB => exact hbc.out
                                        case aS => exact below_size hbc.out
                                        case aL => simp only [List.length_nil, List.length_cons]; omega
                                        intro v130 w130 ho130 hb130 hg130 hat130
                                        replace hbc := Aside0.mk hb130
                                        clear hb130
                                        rw [List.nil_append] at ho130
                                        replace ho140 := Kd.R_mono (Kd.R_grown ho140 hg130 (fun k hk he => absurd (hlt128 k he.symm) (Nat.not_lt.2 hk))) (fun _ _ => trivial)
                                        refine hK.out _ _ (((hbc.out.cell (World.block_lt_of_cell? w _ hx_)).trans hx_)) (fun hHeld => ?_)
                                        clear hK K
                                        refine norm_ (a' := ?_) ?_ ?_
                                        rotate_left
                                        · show Act.put _ (some 130) _ = _
                                          simp only [Act.put, List.setIfInBounds_toArray, List.set_cons_zero, List.set_cons_succ, i64_w, i32_w]
                                          rfl
                                        exact norm_ (by simp only [putAll, Act.put, List.setIfInBounds_toArray, List.set_cons_zero, List.set_cons_succ]) (hCont (v128, v130, v140) _ ⟨hHeld, ho130, ho140, hbc.out⟩)
                                    · skip
                                      refine Kd.R_lit_step (Kd.fixed k44 w) w.heap.size 44 ?hw (N := 140) ?hd (xs := [(⟨IntKind.u64.wrap (((rd_T44 l1 (ji55)).f0) - 1), ([] : List (S61))⟩ : S44)]) (inner := [.int .u64 (IntKind.u64.wrap (((rd_T44 l1 (ji55)).f0) - 1)), .slice none 0 0]) (ok := fun _ => True) (okp := fun _ => True) ?hr ?hp (fun _ hk => hk) trivial hbc.out (below_size hbc.out) (by simp) ?_
                                      case hw => rfl
                                      case hd => rfl
                                      case hr => first | (go_simp; done) | (go_simp; rfl)
                                      case hp => exact (Reps.c2 (show Kd.M (Kd.fixed k44 w) _ _ _ (⟨IntKind.u64.wrap (((rd_T44 l1 (ji55)).f0) - 1), ([] : List (S61))⟩ : S44) [.int .u64 (IntKind.u64.wrap (((rd_T44 l1 (ji55)).f0) - 1)), .slice none 0 0] from k44_mk w (⟨IntKind.u64.wrap (((rd_T44 l1 (ji55)).f0) - 1), ([] : List (S61))⟩ : S44) (Nat.zero_le _) (Kd.R_reads' (Kd.R_nil k61 61 w 0 (fun _ => True))).2.2) (Reps.none _ _))
                                      intro v140 w140 ho140 hb140 hg140 hat140
                                      replace hbc := Aside0.mk hb140
                                      clear hb140
                                      refine hK.out _ _ (((hbc.out.cell (World.block_lt_of_cell? w _ hx_)).trans hx_)) (fun hHeld => ?_)
                                      clear hK K
                                      refine norm_ (a' := ?_) ?_ ?_
                                      rotate_left
                                      · show Act.put _ (some 140) _ = _
                                        simp only [Act.put, List.setIfInBounds_toArray, List.set_cons_zero, List.set_cons_succ, i64_w, i32_w]
                                        rfl
                                      refine one_ (i := 1) (N := some 128) #[true, true, true, false, true, true, true, true, true, true, true, true, true, true, false, false, false, false, false, false, false] rfl rfl (by kernel_rfl) (by decide) (fun K hK => ?_)
                                      refine Kd.R_lit_step (Kd.fixed k44 w) w.heap.size 44 ?hw (N := 128) ?hd (xs := ([] : List S44)) (inner := []) (ok := fun _ => True) (okp := fun _ => True) ?hr ?hp (fun _ hk => hk) trivial hbc.out (below_size hbc.out) (by simp) ?_
                                      case hw => rfl
                                      case hd => rfl
                                      case hr => first | (go_simp; done) | (go_simp; rfl)
                                      case hp => exact Reps.none _ _
                                      intro v128 w128 ho128 hb128 hg128 hat128
                                      replace hbc := Aside0.mk hb128
                                      clear hb128
                                      replace ho140 := Kd.R_grown (Kd.R_bound ho140) hg128 (by simp)
                                      refine hK.out _ _ (((hbc.out.cell (World.block_lt_of_cell? w _ hx_)).trans hx_)) (fun hHeld => ?_)
                                      clear hK K
                                      refine norm_ (a' := ?_) ?_ ?_
                                      rotate_left
                                      · show Act.put _ (some 128) _ = _
                                        simp only [Act.put, List.setIfInBounds_toArray, List.set_cons_zero, List.set_cons_succ, i64_w, i32_w]
                                        rfl
                                      refine one_ (i := 3) (N := some 130) #[true, true, true, true, true, true, true, true, true, true, true, true, true, true, false, false, false, false, false, false, false] rfl rfl (by kernel_rfl) (by decide) (fun K hK => ?_)
                                      have h140_ := ho140
                                      refine Kd.R_append_rows_step (Kd.fixed k44 w) (w0 := w) (Rr := k44.K w) w.heap.size (by rfl) (.tmp 128) (.tmp 129) 37 44 (.agg #[(.int .u64 0), (.slice none 0 0)]) 32 rfl Try.underlying37 info44 rfl ?a0 (by omega) v128 ([] : List S44) l1 _ _ _ (fun _ => True) (fun _ => False) rfl rfl ?aO ?aR (fun _ _ h => h) (fun _ h => h.elim) ?aF ?aB ?aS ?aL ?_
                                      case a0 => exact (by decide : 0 < 2)
                                      case aO => exact ho128
                                      case aR => exact Kd.C_below (d := (Kd.fixed k44 w)) HR1.out hbc.out
                                      case aF => exact fun _ _ => trivial
                                      case aB => exact hbc.out
                                      case aS => exact below_size hbc.out
                                      case aL => simp only [List.length_nil, List.length_cons]; omega
                                      intro v130 w130 ho130 hb130 hg130 hat130
                                      replace hbc := Aside0.mk hb130
                                      clear hb130
                                      rw [List.nil_append] at ho130
                                      replace ho140 := Kd.R_mono (Kd.R_grown h140_ hg130 (fun k hk => by obtain ⟨b_, hb_, hl_⟩ := hat128; rw [hb_]; intro he; injection he with he; have := hk.2.2.1; omega)) (fun _ _ => trivial)
                                      refine hK.out _ _ (((hbc.out.cell (World.block_lt_of_cell? w _ hx_)).trans hx_)) (fun hHeld => ?_)
                                      clear hK K
                                      refine norm_ (a' := ?_) ?_ ?_
                                      rotate_left
                                      · show Act.put _ (some 130) _ = _
                                        simp only [Act.put, List.setIfInBounds_toArray, List.set_cons_zero, List.set_cons_succ, i64_w, i32_w]
                                        rfl
                                      exact norm_ (by simp only [putAll, Act.put, List.setIfInBounds_toArray, List.set_cons_zero, List.set_cons_succ]) (hCont (v128, v130, v140) _ ⟨hHeld, ho130, ho140, hbc.out⟩)
                                  clear hbc
                                  rintro ⟨v128, v130, v140⟩ w143 ⟨hHeld, ho130, ho140, hbc_⟩
                                  have hbc := Aside0.mk hbc_
                                  clear hbc_
                                  obtain ⟨A140, c140, e140⟩ := Kd.R_slice ho140
                                  subst e140
                                  refine norm_ (a' := ?_) ?_ ?_
                                  rotate_left
                                  · simp only [putAll, Act.put, List.setIfInBounds_toArray, List.set_cons_zero, List.set_cons_succ]
                                    rfl
                                  refine one_ (i := 14) (N := some 141) #[true, true, true, true, true, true, true, true, true, true, true, true, true, true, true, false, false, false, false, false, false] rfl rfl (by kernel_rfl) (by decide) (fun K hK => ?_)
                                  refine Kd.R_append_rows_step (Kd.fixed k44 w) (w0 := w) (Rr := k44.K w) w.heap.size (by rfl) (.tmp 130) (.tmp 140) 37 44 (.agg #[(.int .u64 0), (.slice none 0 0)]) 32 rfl Try.underlying37 info44 rfl ?a0 (by omega) v130 (l1 : List S44) [(⟨IntKind.u64.wrap (((rd_T44 l1 (ji55)).f0) - 1), ([] : List (S61))⟩ : S44)] _ _ _ (fun _ => True) (fun _ => False) rfl rfl ?aO ?aR (fun _ _ h => h) (fun _ h => h.elim) ?aF ?aB ?aS ?aL ?_
                                  case a0 => exact (by decide : 0 < 2)
                                  case aO => exact ho130
                                  case aR => exact (Kd.R_reads' ho140).2.2
                                  case aF => exact fun _ _ => trivial
                                  case aB => exact hbc.out
                                  case aS => exact below_size hbc.out
                                  case aL => simp only [List.length_nil, List.length_cons]; omega
                                  intro v141 w141 ho141 hb141 hg141 hat141
                                  replace hbc := Aside0.mk hb141
                                  clear hb141
                                  rw [← Ny217.out] at ho141
                                  obtain ⟨A141, c141, e141⟩ := Kd.R_slice ho141
                                  subst e141
                                  refine hK.out _ _ (((hbc.out.cell (World.block_lt_of_cell? w _ hx_)).trans hx_)) (fun hHeld => ?_)
                                  clear hK K
                                  refine norm_ (a' := ?_) ?_ ?_
                                  rotate_left
                                  · show Act.put _ (some 141) _ = _
                                    simp only [Act.put, List.setIfInBounds_toArray, List.set_cons_zero, List.set_cons_succ, i64_w, i32_w]
                                    rfl
                                  refine one_ (i := 15) (N := some 142) #[true, true, true, true, true, true, true, true, true, true, true, true, true, true, true, true, false, false, false, false, false] rfl rfl (by kernel_rfl) (by decide) (fun K hK => ?_)
                                  refine goes_ Try.func31 (by kernel_rfl) rfl #[.slice A0 l0.length c0, .slice A141 y217.length c141] (by rfl) rfl rfl (by simp only [List.map_toArray, List.map_cons, List.map_nil]; rfl) ?_
                                  refine (trace_Check.calls kj46 _ _ l0 _ _ y217 t220 t221 _ (Kd.C_below HR0.out hbc.out) HC0.out (Kd.C_read (d := k44) (dm := (Kd.fixed k44 w)) rfl (fun x cs h => k44.K_below hbc.out h) (Kd.R_reads' ho141).2.2) (Kd.R_reads' ho141).2.1 A58.out).mono ?_
                                  rintro e w142 ⟨rfl, hb142⟩
                                  refine ⟨_, rfl, ?_⟩
                                  replace hbc := Aside0.mk (below_step hbc.out hb142)
                                  clear hb142
                                  refine hK.out _ _ (((hbc.out.cell (World.block_lt_of_cell? w _ hx_)).trans hx_)) (fun hHeld => ?_)
                                  clear hK K
                                  refine norm_ (a' := ?_) ?_ ?_
                                  rotate_left
                                  · show Act.put _ (some 142) _ = _
                                    simp only [Act.put, List.setIfInBounds_toArray, List.set_cons_zero, List.set_cons_succ, i64_w, i32_w]
                                    rfl
                                  refine pure_ (i := 16) (N := some 126) (v := ?_) (a' := ?_) #[true, true, true, true, true, true, true, true, true, true, true, true, true, true, true, true, true, false, false, false, false] rfl rfl (by kernel_rfl) (fun _ _ _ h => h) (Or.inl ⟨by rfl, ?_⟩) ?_ ?_
                                  rotate_left
                                  · intro w'
                                    go_simp
                                    with_reducible rfl
                                  rotate_left
                                  · simp only [Act.put, List.setIfInBounds_toArray, List.set_cons_zero, List.set_cons_succ, i64_w, i32_w]
                                    rfl
                                  refine pure_ (i := 17) (N := some 143) (v := ?_) (a' := ?_) #[true, true, true, true, true, true, true, true, true, true, true, true, true, true, true, true, true, true, false, false, false] rfl rfl (by kernel_rfl) (fun _ _ _ h => h) (Or.inl ⟨by rfl, ?_⟩) ?_ ?_
                                  rotate_left
                                  · intro w'
                                    go_simp
                                    with_reducible rfl
                                  rotate_left
                                  · simp only [Act.put, List.setIfInBounds_toArray, List.set_cons_zero, List.set_cons_succ, i64_w, i32_w]
                                    rfl
                                  refine pure_ (i := 18) (N := some 144) (v := ?_) (a' := ?_) #[true, true, true, true, true, true, true, true, true, true, true, true, true, true, true, true, true, true, true, false, false] rfl rfl (by kernel_rfl) (fun _ _ _ h => h) (Or.inl ⟨by rfl, ?_⟩) ?_ ?_
                                  rotate_left
                                  · intro w'
                                    go_simp
                                    with_reducible rfl
                                  rotate_left
                                  · simp only [Act.put, List.setIfInBounds_toArray, List.set_cons_zero, List.set_cons_succ, i64_w, i32_w]
                                    rfl
                                  refine pure_ (i := 19) (N := some 23) (v := ?_) (a' := ?_) #[true, true, true, true, true, true, true, true, true, true, true, true, true, true, true, true, true, true, true, true, false] rfl rfl (by kernel_rfl) (fun _ _ _ h => h) (Or.inl ⟨by rfl, ?_⟩) ?_ ?_
                                  rotate_left
                                  · intro w'
                                    go_simp
                                    with_reducible rfl
                                  rotate_left
                                  · simp only [Act.put, List.setIfInBounds_toArray, List.set_cons_zero, List.set_cons_succ, i64_w, i32_w]
                                    rfl
                                  refine pure_ (i := 20) (N := some 24) (v := ?_) (a' := ?_) #[true, true, true, true, true, true, true, true, true, true, true, true, true, true, true, true, true, true, true, true, true] rfl rfl (by kernel_rfl) (fun _ _ _ h => h) (Or.inl ⟨by rfl, ?_⟩) ?_ ?_
                                  rotate_left
                                  · intro w'
                                    go_simp
                                    with_reducible rfl
                                  rotate_left
                                  · simp only [Act.put, List.setIfInBounds_toArray, List.set_cons_zero, List.set_cons_succ, i64_w, i32_w]
                                    rfl
                                  refine done_ (by kernel_rfl) ?_
                                  go_wp2
                                  go_meet
                                  case rel => exact ⟨rfl, rfl, ⟨hbc.out⟩⟩
                                obtain ⟨rfl, rfl, HB⟩ := hcut
                                replace H := Option.bind_eq_some_iff.mp H
                                obtain ⟨t222, A590, H⟩ := H
                                replace H : (if t222 = true then (if t220 = 8 then (some (t221 == (l1.length : Int))) else (some false)) else (some false)) = some r := H
                                have A59 := Aside0.mk A590
                                clear A590
                                by_cases c60 : t222 = true
                                · subst c60
                                  have H1 : (if t220 = 8 then (some (t221 == (l1.length : Int))) else (some false)) = some r := by rw [if_pos rfl] at H; exact H
                                  clear H
                                  have H := H1
                                  clear H1
                                  by_cases c61 : t220 = 8
                                  · rw [if_pos c61] at H
                                    have c61b0 : (t220 == 8) = true := beq_iff_eq.mpr c61
                                    have c61b1 : (t220 != 8) = false := bne_eq_false_iff_eq.mpr c61
                                    clear c61
                                    obtain rfl := Option.some.inj H
                                    have p216 : 0 ≤ ((ji55) : Int) := of_decide_eq_true (by first | (with_reducible assumption) | assumption)
                                    have q216 : (ji55) < (l1.length : Int) := of_decide_eq_true (by first | (with_reducible assumption) | assumption)
                                    obtain ⟨ad216, A216_1, c216_1, e216, hx216_0, hx216_1, hl216_1, hi216_1⟩ := at_T44 HR1.out (ji55) p216 q216
                                    cases e216
                                    replace hx216_0 := (HB.out.cell (World.block_lt_of_cell? w _ hx216_0)).trans hx216_0
                                    replace hx216_1 := (HB.out.cell (World.block_lt_of_cell? w _ hx216_1)).trans hx216_1
                                    have HR216_1 := Aside0.mk hi216_1
                                    have HC216_1 := Aside0.mk hl216_1
                                    clear hi216_1 hl216_1
                                    replace p216 := eq_true p216
                                    replace q216 := eq_true q216
                                    go_wp2_with (first | ((with_reducible refine gate_callee (f := 30) rfl ?_); refine goesL_ (some 145) rfl rfl Try.func30 (by kernel_rfl) rfl #[] rfl (by (try simp only [List.map_toArray, List.map_cons, List.map_nil]); first | done | rfl | (simp only [List.length_drop, List.length_take]; rfl) | (refine congrArg (fun z_ => #[z_]) (congrArg (Value.int IntKind.u64) (Eq.symm (Go.Proofs.YtjfklfmfeghjnabAid.wrap_len _ (by omega)))))) ?_; (with_reducible refine (tachographlaw12_fixed.calls kj46  true _ A59.out).mono ?_); rintro e w66 ⟨rfl, hb⟩; refine ⟨_, rfl, ?_⟩; have n1_ := Aside0.mk (below_step (by repeat (first | (with_reducible first | exact HB.out | apply below_alloc | apply pw_below_drewN | apply below_drew1) | exact HB.out)) hb); clear HB; have HB := n1_; clear n1_; (try clear hb); (try clear hb2); (try clear hk); (try clear hi)))
                                    go_ret
                                    exact ⟨by first | rfl | (simp [errW_none, errW_some] <;> rfl) | (simp only [← hji17, ← hji55]; first | rfl | (simp [errW_none, errW_some] <;> rfl)) | (simp [*, errW_none, errW_some] <;> rfl), by repeat (first | (with_reducible first | exact HB.out | apply below_alloc | apply pw_below_drewN | apply below_drew1) | exact HB.out)⟩
                                  · rw [if_neg c61] at H
                                    have c61b0 : (t220 == 8) = false := beq_eq_false_iff_ne.mpr c61
                                    have c61b1 : (t220 != 8) = true := bne_iff_ne.mpr c61
                                    obtain rfl := Option.some.inj H
                                    have p216 : 0 ≤ ((ji55) : Int) := of_decide_eq_true (by first | (with_reducible assumption) | assumption)
                                    have q216 : (ji55) < (l1.length : Int) := of_decide_eq_true (by first | (with_reducible assumption) | assumption)
                                    obtain ⟨ad216, A216_1, c216_1, e216, hx216_0, hx216_1, hl216_1, hi216_1⟩ := at_T44 HR1.out (ji55) p216 q216
                                    cases e216
                                    replace hx216_0 := (HB.out.cell (World.block_lt_of_cell? w _ hx216_0)).trans hx216_0
                                    replace hx216_1 := (HB.out.cell (World.block_lt_of_cell? w _ hx216_1)).trans hx216_1
                                    have HR216_1 := Aside0.mk hi216_1
                                    have HC216_1 := Aside0.mk hl216_1
                                    clear hi216_1 hl216_1
                                    replace p216 := eq_true p216
                                    replace q216 := eq_true q216
                                    go_wp2_with (first | ((with_reducible refine gate_callee (f := 30) rfl ?_); refine goesL_ (some 145) rfl rfl Try.func30 (by kernel_rfl) rfl #[] rfl (by (try simp only [List.map_toArray, List.map_cons, List.map_nil]); first | done | rfl | (simp only [List.length_drop, List.length_take]; rfl) | (refine congrArg (fun z_ => #[z_]) (congrArg (Value.int IntKind.u64) (Eq.symm (Go.Proofs.YtjfklfmfeghjnabAid.wrap_len _ (by omega)))))) ?_; (with_reducible refine (tachographlaw12_fixed.calls kj46  true _ A59.out).mono ?_); rintro e w71 ⟨rfl, hb⟩; refine ⟨_, rfl, ?_⟩; have n1_ := Aside0.mk (below_step (by repeat (first | (with_reducible first | exact HB.out | apply below_alloc | apply pw_below_drewN | apply below_drew1) | exact HB.out)) hb); clear HB; have HB := n1_; clear n1_; (try clear hb); (try clear hb2); (try clear hk); (try clear hi)))
                                    go_ret
                                    exact ⟨by first | rfl | (simp [errW_none, errW_some] <;> rfl) | (simp only [← hji17, ← hji55]; first | rfl | (simp [errW_none, errW_some] <;> rfl)) | (simp [*, errW_none, errW_some] <;> rfl), by repeat (first | (with_reducible first | exact HB.out | apply below_alloc | apply pw_below_drewN | apply below_drew1) | exact HB.out)⟩
                                · replace c60 := Bool.eq_false_iff.mpr c60
                                  subst c60
                                  have H1 : (some false) = some r := by rw [if_neg (show ¬ (false = true) by decide)] at H; exact H
                                  clear H
                                  have H := H1
                                  clear H1
                                  obtain rfl := Option.some.inj H
                                  have p216 : 0 ≤ ((ji55) : Int) := of_decide_eq_true (by first | (with_reducible assumption) | assumption)
                                  have q216 : (ji55) < (l1.length : Int) := of_decide_eq_true (by first | (with_reducible assumption) | assumption)
                                  obtain ⟨ad216, A216_1, c216_1, e216, hx216_0, hx216_1, hl216_1, hi216_1⟩ := at_T44 HR1.out (ji55) p216 q216
                                  cases e216
                                  replace hx216_0 := (HB.out.cell (World.block_lt_of_cell? w _ hx216_0)).trans hx216_0
                                  replace hx216_1 := (HB.out.cell (World.block_lt_of_cell? w _ hx216_1)).trans hx216_1
                                  have HR216_1 := Aside0.mk hi216_1
                                  have HC216_1 := Aside0.mk hl216_1
                                  clear hi216_1 hl216_1
                                  replace p216 := eq_true p216
                                  replace q216 := eq_true q216
                                  go_wp2_with (first | ((with_reducible refine gate_callee (f := 30) rfl ?_); refine goesL_ (some 145) rfl rfl Try.func30 (by kernel_rfl) rfl #[] rfl (by (try simp only [List.map_toArray, List.map_cons, List.map_nil]); first | done | rfl | (simp only [List.length_drop, List.length_take]; rfl) | (refine congrArg (fun z_ => #[z_]) (congrArg (Value.int IntKind.u64) (Eq.symm (Go.Proofs.YtjfklfmfeghjnabAid.wrap_len _ (by omega)))))) ?_; (with_reducible refine (tachographlaw12_fixed.calls kj46  false _ A59.out).mono ?_); rintro e w76 ⟨rfl, hb⟩; refine ⟨_, rfl, ?_⟩; have n1_ := Aside0.mk (below_step (by repeat (first | (with_reducible first | exact HB.out | apply below_alloc | apply pw_below_drewN | apply below_drew1) | exact HB.out)) hb); clear HB; have HB := n1_; clear n1_; (try clear hb); (try clear hb2); (try clear hk); (try clear hi)))
                                  go_ret
                                  exact ⟨by first | rfl | (simp [errW_none, errW_some] <;> rfl) | (simp only [← hji17, ← hji55]; first | rfl | (simp [errW_none, errW_some] <;> rfl)) | (simp [*, errW_none, errW_some] <;> rfl), by repeat (first | (with_reducible first | exact HB.out | apply below_alloc | apply pw_below_drewN | apply below_drew1) | exact HB.out)⟩
                              · rw [if_neg c57] at H
                                exact absurd H (by simp)
                            · rw [if_neg c56] at H
                              exact absurd H (by simp)
              · rw [if_neg c19] at H
                exact absurd H (by simp)
            · rw [if_neg c18] at H
              exact absurd H (by simp)
        · rw [if_neg c15] at H
          have c15b0 : (t182 == 0) = false := beq_eq_false_iff_ne.mpr c15
          have c15b1 : (t182 != 0) = true := bne_iff_ne.mpr c15
          replace H := Option.bind_eq_some_iff.mp H
          obtain ⟨t184, A770, H⟩ := H
          replace H : (some t184) = some r := H
          have A77 := Aside0.mk A770
          clear A770
          obtain rfl := Option.some.inj H
          go_wp2_with (first | ((with_reducible refine gate_callee (f := 31) rfl ?_); refine goesL_ (some 35) rfl rfl Try.func31 (by kernel_rfl) rfl #[.slice A0 l0.length c0, .slice A1 l1.length c1] rfl (by (try simp only [List.map_toArray, List.map_cons, List.map_nil]); first | done | rfl | (simp only [List.length_drop, List.length_take]; rfl) | (refine congrArg (fun z_ => #[z_]) (congrArg (Value.int IntKind.u64) (Eq.symm (Go.Proofs.YtjfklfmfeghjnabAid.wrap_len _ (by omega)))))) ?_; (with_reducible refine (trace_Check.calls kj3 _ _ l0 _ _ l1 t182 t183 _ ?side1 ?side2 ?side3 ?side4 A14.out).mono ?_); (case side1 => repeat (first | exact (Kd.C_below HR0.out HB.out) | (with_reducible refine Kd.C_alloc ?_ _) | (with_reducible refine Kd.C_drewN ?_ _) | (with_reducible refine Kd.C_drew ?_))); (case side2 => exact HC0.out); (case side3 => repeat (first | exact (Kd.C_below HR1.out HB.out) | (with_reducible refine Kd.C_alloc ?_ _) | (with_reducible refine Kd.C_drewN ?_ _) | (with_reducible refine Kd.C_drew ?_))); (case side4 => exact HC1.out); rintro e w78 ⟨rfl, hb⟩; refine ⟨_, rfl, ?_⟩; have n0_ := Aside0.mk (below_step (by repeat (first | (with_reducible first | exact HB.out | apply below_alloc | apply pw_below_drewN | apply below_drew1) | exact HB.out)) hb); clear HB; have HB := n0_; clear n0_; (try clear hb); (try clear hb2); (try clear hk); (try clear hi)) | ((with_reducible refine gate_callee (f := 30) rfl ?_); refine goesL_ (some 40) rfl rfl Try.func30 (by kernel_rfl) rfl #[] rfl (by (try simp only [List.map_toArray, List.map_cons, List.map_nil]); first | done | rfl | (simp only [List.length_drop, List.length_take]; rfl) | (refine congrArg (fun z_ => #[z_]) (congrArg (Value.int IntKind.u64) (Eq.symm (Go.Proofs.YtjfklfmfeghjnabAid.wrap_len _ (by omega)))))) ?_; (with_reducible refine (tachographlaw12_fixed.calls kj3  t184 _ A77.out).mono ?_); rintro e w79 ⟨rfl, hb⟩; refine ⟨_, rfl, ?_⟩; have n0_ := Aside0.mk (below_step (by repeat (first | (with_reducible first | exact HB.out | apply below_alloc | apply pw_below_drewN | apply below_drew1) | exact HB.out)) hb); clear HB; have HB := n0_; clear n0_; (try clear hb); (try clear hb2); (try clear hk); (try clear hi)))
          go_ret
          exact ⟨by first | rfl | (simp [errW_none, errW_some] <;> rfl) | (simp [*, errW_none, errW_some] <;> rfl), by repeat (first | (with_reducible first | exact HB.out | apply below_alloc | apply pw_below_drewN | apply below_drew1) | exact HB.out)⟩

set_option maxRecDepth 100000 in
theorem tachographlaw12_TraceParts.laid0 : Go.Proofs.YtjfklfmfeghjnabOpen.Laid Try.prog 106 k106 (fun b_ : S106 => (Go.Proofs.YtjfklfmfeghjnabOpen.pairOk Go.Proofs.YtjfklfmfeghjnabOpen.strOk (Go.Proofs.YtjfklfmfeghjnabOpen.sliceOk 8 (Go.Proofs.YtjfklfmfeghjnabOpen.intOk .i64))) (b_.f0, b_.f1)) := (Go.Proofs.YtjfklfmfeghjnabOpen.laid_iso (fun b_ : S106 => (b_.f0, b_.f1)) (fun p_ => ⟨p_.1, p_.2⟩) (fun _ => rfl) (Go.Proofs.YtjfklfmfeghjnabOpen.laid_struct Try.underlying106 (by kernel_rfl) (Go.Proofs.YtjfklfmfeghjnabOpen.laidF_cons (by rfl) (Go.Proofs.YtjfklfmfeghjnabOpen.laid_string Try.underlying9 (by kernel_rfl)) (Go.Proofs.YtjfklfmfeghjnabOpen.laidF_one (by rfl) (Go.Proofs.YtjfklfmfeghjnabOpen.laid_slice 3 Try.underlying45 (by kernel_rfl) (by kernel_rfl) (Go.Proofs.YtjfklfmfeghjnabOpen.laid_int Try.underlying3 (by kernel_rfl)))))))
set_option maxRecDepth 100000 in
theorem tachographlaw12_TraceParts.laid1 : Go.Proofs.YtjfklfmfeghjnabOpen.Laid Try.prog 44 k44 (fun b_ : S44 => (Go.Proofs.YtjfklfmfeghjnabOpen.pairOk (Go.Proofs.YtjfklfmfeghjnabOpen.intOk .u64) (Go.Proofs.YtjfklfmfeghjnabOpen.sliceOk 32 (fun b_ : S61 => (Go.Proofs.YtjfklfmfeghjnabOpen.pairOk (Go.Proofs.YtjfklfmfeghjnabOpen.intOk .i64) (Go.Proofs.YtjfklfmfeghjnabOpen.sliceOk 32 (fun b_ : S70 => (Go.Proofs.YtjfklfmfeghjnabOpen.pairOk (Go.Proofs.YtjfklfmfeghjnabOpen.intOk .i64) (Go.Proofs.YtjfklfmfeghjnabOpen.pairOk (Go.Proofs.YtjfklfmfeghjnabOpen.intOk .i64) Go.Proofs.YtjfklfmfeghjnabOpen.strOk)) (b_.f0, b_.f1, b_.f2)))) (b_.f0, b_.f1)))) (b_.f0, b_.f1)) := (Go.Proofs.YtjfklfmfeghjnabOpen.laid_iso (fun b_ : S44 => (b_.f0, b_.f1)) (fun p_ => ⟨p_.1, p_.2⟩) (fun _ => rfl) (Go.Proofs.YtjfklfmfeghjnabOpen.laid_struct Try.underlying44 (by kernel_rfl) (Go.Proofs.YtjfklfmfeghjnabOpen.laidF_cons (by rfl) (Go.Proofs.YtjfklfmfeghjnabOpen.laid_int Try.underlying41 (by kernel_rfl)) (Go.Proofs.YtjfklfmfeghjnabOpen.laidF_one (by rfl) (Go.Proofs.YtjfklfmfeghjnabOpen.laid_slice 61 Try.underlying42 (by kernel_rfl) (by kernel_rfl) (Go.Proofs.YtjfklfmfeghjnabOpen.laid_iso (fun b_ : S61 => (b_.f0, b_.f1)) (fun p_ => ⟨p_.1, p_.2⟩) (fun _ => rfl) (Go.Proofs.YtjfklfmfeghjnabOpen.laid_struct Try.underlying61 (by kernel_rfl) (Go.Proofs.YtjfklfmfeghjnabOpen.laidF_cons (by rfl) (Go.Proofs.YtjfklfmfeghjnabOpen.laid_int Try.underlying3 (by kernel_rfl)) (Go.Proofs.YtjfklfmfeghjnabOpen.laidF_one (by rfl) (Go.Proofs.YtjfklfmfeghjnabOpen.laid_slice 70 Try.underlying59 (by kernel_rfl) (by kernel_rfl) (Go.Proofs.YtjfklfmfeghjnabOpen.laid_iso (fun b_ : S70 => (b_.f0, b_.f1, b_.f2)) (fun p_ => ⟨p_.1, p_.2.1, p_.2.2⟩) (fun _ => rfl) (Go.Proofs.YtjfklfmfeghjnabOpen.laid_struct Try.underlying70 (by kernel_rfl) (Go.Proofs.YtjfklfmfeghjnabOpen.laidF_cons (by rfl) (Go.Proofs.YtjfklfmfeghjnabOpen.laid_int Try.underlying3 (by kernel_rfl)) (Go.Proofs.YtjfklfmfeghjnabOpen.laidF_cons (by rfl) (Go.Proofs.YtjfklfmfeghjnabOpen.laid_int Try.underlying2 (by kernel_rfl)) (Go.Proofs.YtjfklfmfeghjnabOpen.laidF_one (by rfl) (Go.Proofs.YtjfklfmfeghjnabOpen.laid_string Try.underlying9 (by kernel_rfl)))))))))))))))))
/-- THE ONE PURE STATEMENT of tachographlaw12_TraceParts: yours. -/
def tachographlaw12_TraceParts.Pure : Prop := ∀ (l0 : List (S106)) (l1 : List (S44)) (a2 : Int), (Go.Proofs.YtjfklfmfeghjnabOpen.sliceOk 40 (fun b_ : S106 => (Go.Proofs.YtjfklfmfeghjnabOpen.pairOk Go.Proofs.YtjfklfmfeghjnabOpen.strOk (Go.Proofs.YtjfklfmfeghjnabOpen.sliceOk 8 (Go.Proofs.YtjfklfmfeghjnabOpen.intOk .i64))) (b_.f0, b_.f1))) l0 → (Go.Proofs.YtjfklfmfeghjnabOpen.sliceOk 32 (fun b_ : S44 => (Go.Proofs.YtjfklfmfeghjnabOpen.pairOk (Go.Proofs.YtjfklfmfeghjnabOpen.intOk .u64) (Go.Proofs.YtjfklfmfeghjnabOpen.sliceOk 32 (fun b_ : S61 => (Go.Proofs.YtjfklfmfeghjnabOpen.pairOk (Go.Proofs.YtjfklfmfeghjnabOpen.intOk .i64) (Go.Proofs.YtjfklfmfeghjnabOpen.sliceOk 32 (fun b_ : S70 => (Go.Proofs.YtjfklfmfeghjnabOpen.pairOk (Go.Proofs.YtjfklfmfeghjnabOpen.intOk .i64) (Go.Proofs.YtjfklfmfeghjnabOpen.pairOk (Go.Proofs.YtjfklfmfeghjnabOpen.intOk .i64) Go.Proofs.YtjfklfmfeghjnabOpen.strOk)) (b_.f0, b_.f1, b_.f2)))) (b_.f0, b_.f1)))) (b_.f0, b_.f1))) l1 → (Lit.int .u16 a2).wf = true → ∃ k, tachographlaw12_TraceParts.f k l0 l1 a2 = some true
theorem tachographlaw12_TraceParts.walk (P : tachographlaw12_TraceParts.Pure) (a0 : Option Addr) (cap0 : Nat) (l0 : List (S106)) (a1 : Option Addr) (cap1 : Nat) (l1 : List (S44)) (a2 : Int) (w : World) (w0 : (Go.Proofs.YtjfklfmfeghjnabOpen.sliceOk 40 (fun b_ : S106 => (Go.Proofs.YtjfklfmfeghjnabOpen.pairOk Go.Proofs.YtjfklfmfeghjnabOpen.strOk (Go.Proofs.YtjfklfmfeghjnabOpen.sliceOk 8 (Go.Proofs.YtjfklfmfeghjnabOpen.intOk .i64))) (b_.f0, b_.f1))) l0) (e0 : l0.length ≤ cap0) (C0 : Kd.C k106 w a0 l0.length l0) (w1 : (Go.Proofs.YtjfklfmfeghjnabOpen.sliceOk 32 (fun b_ : S44 => (Go.Proofs.YtjfklfmfeghjnabOpen.pairOk (Go.Proofs.YtjfklfmfeghjnabOpen.intOk .u64) (Go.Proofs.YtjfklfmfeghjnabOpen.sliceOk 32 (fun b_ : S61 => (Go.Proofs.YtjfklfmfeghjnabOpen.pairOk (Go.Proofs.YtjfklfmfeghjnabOpen.intOk .i64) (Go.Proofs.YtjfklfmfeghjnabOpen.sliceOk 32 (fun b_ : S70 => (Go.Proofs.YtjfklfmfeghjnabOpen.pairOk (Go.Proofs.YtjfklfmfeghjnabOpen.intOk .i64) (Go.Proofs.YtjfklfmfeghjnabOpen.pairOk (Go.Proofs.YtjfklfmfeghjnabOpen.intOk .i64) Go.Proofs.YtjfklfmfeghjnabOpen.strOk)) (b_.f0, b_.f1, b_.f2)))) (b_.f0, b_.f1)))) (b_.f0, b_.f1))) l1) (e1 : l1.length ≤ cap1) (C1 : Kd.C k44 w a1 l1.length l1) (w2 : (Lit.int .u16 a2).wf = true) :
    Calls Try.prog 6 #[.slice a0 l0.length cap0, .slice a1 l1.length cap1, .int .u16 a2] w fun e w' => e = .returned (.bool true) ∧ Below w.heap.size w w' := by
  obtain ⟨k, h⟩ := P l0 l1 a2 w0 w1 w2
  refine (tachographlaw12_TraceParts.calls k _ _ l0 _ _ l1 a2 true w C0 e0 C1 e1 h).mono ?_
  rintro e w' ⟨rfl, hd⟩
  exact ⟨rfl, hd⟩

end Go.Proofs.Ytjfklfmfeghjnab.PT
