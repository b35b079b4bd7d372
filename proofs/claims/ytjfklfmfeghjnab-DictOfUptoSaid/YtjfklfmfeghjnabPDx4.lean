-- Contracts of Go functions, each with its plain Lean function: written by wip/tools/myprint.py of this work (the kit's print, with contracts proved by hand spliced in).
import Derived.Test.YtjfklfmfeghjnabPDx0
import Derived.Test.YtjfklfmfeghjnabPDx1
import Derived.Test.YtjfklfmfeghjnabPDx2
import Derived.Test.YtjfklfmfeghjnabPDx3
namespace Go.Proofs.Ytjfklfmfeghjnab.PD
open Go.RowKit Go.Proofs.YtjfklfmfeghjnabW.PrintWords Go.Proofs.YtjfklfmfeghjnabW.PrintLast Go.Proofs.YtjfklfmfeghjnabW.PrintMore
attribute [local go_sem] max2_int min2_int max_two min_two max_three min_three max_four min_four   -- for this text's walks alone
set_option linter.unusedVariables false
set_option linter.unusedSimpArgs false

/-! ### tachographlaw13_DictOf: function 4 -/
mutual
def tachographlaw13_DictOf.l0 : Nat → List (S44) → List ByteArray → Int → Int → ByteArray → Option (Bool)
  | 0, _, _, _, _, _ => none
  | k + 1, x0, x32, x33, x34, x170000 => if x34 < x33 then (if 0 ≤ x34 then (if x34 < (x32.length : Int) then ((dict_Dict_Find.f x170000 (rdOf ByteArray.empty x32 x34)).bind fun bt183 => ((dict_Dict_Text.f bt183.2.2 x34).bind fun bt186 => (if bt183.1 = x34 then (if bt183.2.1 = true then (if bt186.1.toList = (rdOf ByteArray.empty x32 x34).toList then (if bt186.2.1 = true then (tachographlaw13_DictOf.l0 k x0 x32 x33 (wrap64 (x34 + 1)) bt186.2.2) else (some false)) else (some false)) else (some false)) else (some false)))) else (none)) else (none)) else (tachographlaw13_DictOf.l1 k x0 (x0.length : Int) 0)
def tachographlaw13_DictOf.l1 : Nat → List (S44) → Int → Int → Option (Bool)
  | 0, _, _, _ => none
  | k + 1, x68, x69, x70 => if x70 < x69 then (if 0 ≤ x70 then (if x70 < (x68.length : Int) then ((dict_Runs.f k ((rd_T44 x68 x70).f1)).bind fun t192 => ((tachographref13_Runs.f k ((rd_T44 x68 x70).f1)).bind fun t195 => (if (t192.length : Int) = (t195.length : Int) then (tachographlaw13_DictOf.l2 k t192 t195 0 x68 x69 x70 (t192.length : Int) 0 ((rd_T44 x68 x70).f0) ((rd_T44 x68 x70).f1)) else (some false)))) else (none)) else (none)) else ((tachographlaw13_fixed.f).bind fun t189 => (some t189))
def tachographlaw13_DictOf.l2 : Nat → List Int → List Int → Int → List (S44) → Int → Int → Int → Int → Int → List (S61) → Option (Bool)
  | 0, _, _, _, _, _, _, _, _, _, _ => none
  | k + 1, x12, x13, x14, x68, x69, x70, x86, x87, x192000, x192001 => if x87 < x86 then (if 0 ≤ x87 then (if x87 < (x12.length : Int) then (if x87 < (x13.length : Int) then (if (rd x12 x87) = (rd x13 x87) then (if (rd x12 x87) < 1 then (some false) else (tachographlaw13_DictOf.l2 k x12 x13 (wrap64 (x14 + (rd x12 x87))) x68 x69 x70 x86 (wrap64 (x87 + 1)) x192000 x192001)) else (some false)) else (none)) else (none)) else (none)) else (if x14 = (x192001.length : Int) then (tachographlaw13_DictOf.l1 k x68 x69 (wrap64 (x70 + 1))) else (some false))
end
def tachographlaw13_DictOf.f (k : Nat) (l0 : List (S44)) : Option (Bool) := (tachographlaw12_Great.f k l0 2000).bind fun t166 => (if t166 = true then ((tachographlaw13_fixed.f).bind fun t167 => (some t167)) else ((dict_Of.f k l0).bind fun t168 => ((dict_Dict_All.f t168).bind fun bt170 => ((tachographref13_Of.f k l0).bind fun t174 => ((tachographref02_Same.f k bt170.1 t174).bind fun t177 => (if t177 = true then ((dict_Dict_All.f bt170.2).bind fun bt178 => (tachographlaw13_DictOf.l0 k l0 bt178.1 (bt178.1.length : Int) 0 bt178.2)) else (some false)))))))
theorem tachographlaw13_DictOf.mono_l : ∀ k, (∀ y0 y1 y2 y3 y4, LeO (tachographlaw13_DictOf.l0 k y0 y1 y2 y3 y4) (tachographlaw13_DictOf.l0 (k + 1) y0 y1 y2 y3 y4)) ∧ (∀ y0 y1 y2, LeO (tachographlaw13_DictOf.l1 k y0 y1 y2) (tachographlaw13_DictOf.l1 (k + 1) y0 y1 y2)) ∧ (∀ y0 y1 y2 y3 y4 y5 y6 y7 y8 y9, LeO (tachographlaw13_DictOf.l2 k y0 y1 y2 y3 y4 y5 y6 y7 y8 y9) (tachographlaw13_DictOf.l2 (k + 1) y0 y1 y2 y3 y4 y5 y6 y7 y8 y9))
  | 0 => ⟨fun _ _ _ _ _ r h => by simp [tachographlaw13_DictOf.l0] at h, fun _ _ _ r h => by simp [tachographlaw13_DictOf.l1] at h, fun _ _ _ _ _ _ _ _ _ _ r h => by simp [tachographlaw13_DictOf.l2] at h⟩
  | k + 1 => by
    obtain ⟨ih0, ih1, ih2⟩ := tachographlaw13_DictOf.mono_l k
    refine ⟨?_, ?_, ?_⟩
    · intro y0 y1 y2 y3 y4
      unfold tachographlaw13_DictOf.l0
      repeat' first
      | (with_reducible exact ih0 _ _ _ _ _)
      | (with_reducible exact ih1 _ _ _)
      | (with_reducible exact ih2 _ _ _ _ _ _ _ _ _ _)
      | (with_reducible exact dict_Of.mono _ _)
      | (with_reducible exact dict_Runs.mono _ _)
      | (with_reducible exact tachographlaw12_Great.mono _ _ _)
      | (with_reducible exact tachographref02_Same.mono _ _ _)
      | (with_reducible exact tachographref13_Of.mono _ _)
      | (with_reducible exact tachographref13_Runs.mono _ _)
      | (with_reducible exact LeO.refl _)
      | (with_reducible exact LeO.none _)
      | (with_reducible refine LeO.ite ?_ ?_)
      | (with_reducible refine LeO.bind ?_ (fun _ => ?_))
      | exact ih0 _ _ _ _ _
      | exact ih1 _ _ _
      | exact ih2 _ _ _ _ _ _ _ _ _ _
      | exact dict_Of.mono _ _
      | exact dict_Runs.mono _ _
      | exact tachographlaw12_Great.mono _ _ _
      | exact tachographref02_Same.mono _ _ _
      | exact tachographref13_Of.mono _ _
      | exact tachographref13_Runs.mono _ _
      | exact LeO.none _
      | refine LeO.ite ?_ ?_
      | refine LeO.bind ?_ (fun _ => ?_)
    · intro y0 y1 y2
      unfold tachographlaw13_DictOf.l1
      repeat' first
      | (with_reducible exact ih0 _ _ _ _ _)
      | (with_reducible exact ih1 _ _ _)
      | (with_reducible exact ih2 _ _ _ _ _ _ _ _ _ _)
      | (with_reducible exact dict_Of.mono _ _)
      | (with_reducible exact dict_Runs.mono _ _)
      | (with_reducible exact tachographlaw12_Great.mono _ _ _)
      | (with_reducible exact tachographref02_Same.mono _ _ _)
      | (with_reducible exact tachographref13_Of.mono _ _)
      | (with_reducible exact tachographref13_Runs.mono _ _)
      | (with_reducible exact LeO.refl _)
      | (with_reducible exact LeO.none _)
      | (with_reducible refine LeO.ite ?_ ?_)
      | (with_reducible refine LeO.bind ?_ (fun _ => ?_))
      | exact ih0 _ _ _ _ _
      | exact ih1 _ _ _
      | exact ih2 _ _ _ _ _ _ _ _ _ _
      | exact dict_Of.mono _ _
      | exact dict_Runs.mono _ _
      | exact tachographlaw12_Great.mono _ _ _
      | exact tachographref02_Same.mono _ _ _
      | exact tachographref13_Of.mono _ _
      | exact tachographref13_Runs.mono _ _
      | exact LeO.none _
      | refine LeO.ite ?_ ?_
      | refine LeO.bind ?_ (fun _ => ?_)
    · intro y0 y1 y2 y3 y4 y5 y6 y7 y8 y9
      unfold tachographlaw13_DictOf.l2
      repeat' first
      | (with_reducible exact ih0 _ _ _ _ _)
      | (with_reducible exact ih1 _ _ _)
      | (with_reducible exact ih2 _ _ _ _ _ _ _ _ _ _)
      | (with_reducible exact dict_Of.mono _ _)
      | (with_reducible exact dict_Runs.mono _ _)
      | (with_reducible exact tachographlaw12_Great.mono _ _ _)
      | (with_reducible exact tachographref02_Same.mono _ _ _)
      | (with_reducible exact tachographref13_Of.mono _ _)
      | (with_reducible exact tachographref13_Runs.mono _ _)
      | (with_reducible exact LeO.refl _)
      | (with_reducible exact LeO.none _)
      | (with_reducible refine LeO.ite ?_ ?_)
      | (with_reducible refine LeO.bind ?_ (fun _ => ?_))
      | exact ih0 _ _ _ _ _
      | exact ih1 _ _ _
      | exact ih2 _ _ _ _ _ _ _ _ _ _
      | exact dict_Of.mono _ _
      | exact dict_Runs.mono _ _
      | exact tachographlaw12_Great.mono _ _ _
      | exact tachographref02_Same.mono _ _ _
      | exact tachographref13_Of.mono _ _
      | exact tachographref13_Runs.mono _ _
      | exact LeO.none _
      | refine LeO.ite ?_ ?_
      | refine LeO.bind ?_ (fun _ => ?_)
theorem tachographlaw13_DictOf.mono : ∀ a0 k, LeO (tachographlaw13_DictOf.f k a0) (tachographlaw13_DictOf.f (k + 1) a0) := by
  intro a0 k
  obtain ⟨ih0, ih1, ih2⟩ := tachographlaw13_DictOf.mono_l k
  unfold tachographlaw13_DictOf.f
  repeat' first
      | (with_reducible exact ih0 _ _ _ _ _)
      | (with_reducible exact ih1 _ _ _)
      | (with_reducible exact ih2 _ _ _ _ _ _ _ _ _ _)
      | (with_reducible exact dict_Of.mono _ _)
      | (with_reducible exact dict_Runs.mono _ _)
      | (with_reducible exact tachographlaw12_Great.mono _ _ _)
      | (with_reducible exact tachographref02_Same.mono _ _ _)
      | (with_reducible exact tachographref13_Of.mono _ _)
      | (with_reducible exact tachographref13_Runs.mono _ _)
      | (with_reducible exact LeO.refl _)
      | (with_reducible exact LeO.none _)
      | (with_reducible refine LeO.ite ?_ ?_)
      | (with_reducible refine LeO.bind ?_ (fun _ => ?_))
      | exact ih0 _ _ _ _ _
      | exact ih1 _ _ _
      | exact ih2 _ _ _ _ _ _ _ _ _ _
      | exact dict_Of.mono _ _
      | exact dict_Runs.mono _ _
      | exact tachographlaw12_Great.mono _ _ _
      | exact tachographref02_Same.mono _ _ _
      | exact tachographref13_Of.mono _ _
      | exact tachographref13_Runs.mono _ _
      | exact LeO.none _
      | refine LeO.ite ?_ ?_
      | refine LeO.bind ?_ (fun _ => ?_)
def tachographlaw13_DictOf.T17 : Bool × List (List Nat × List Nat) := (true, [([], []), ([0], [0]), ([1], [1]), ([], []), ([3], [3]), ([4, 2], [4]), ([2, 5, 0, 1, 2], [2]), ([5, 6, 0, 1, 2, 3, 4, 5, 6], [5])])
def tachographlaw13_DictOf.B17 : List Nat := [0, 1, 3, 0, 8, 31, 63, 127]
theorem tachographlaw13_DictOf.tab17 : rtab .any (opsOf Try.f4 17) = tachographlaw13_DictOf.T17 := by kernel_rfl
theorem tachographlaw13_DictOf.bits17 : waitsOk tachographlaw13_DictOf.T17.2 tachographlaw13_DictOf.B17 = true := by kernel_rfl
def tachographlaw13_DictOf.T24 : Bool × List (List Nat × List Nat) := (true, [([], []), ([], []), ([0, 1], [0, 1]), ([2], [2]), ([], []), ([], []), ([4, 5], [4, 5]), ([6], [6]), ([3, 7], [3, 7]), ([8], [8]), ([9], [9]), ([9], [9]), ([10, 11, 9], [9, 10, 11]), ([12, 9], [9, 12]), ([13, 9], [9, 13]), ([9, 14], [9, 14])])
def tachographlaw13_DictOf.B24 : List Nat := [0, 0, 3, 7, 0, 0, 48, 112, 255, 511, 1023, 1023, 4095, 8191, 16383, 32767]
theorem tachographlaw13_DictOf.tab24 : rtab .any (opsOf Try.f4 24) = tachographlaw13_DictOf.T24 := by kernel_rfl
theorem tachographlaw13_DictOf.bits24 : waitsOk tachographlaw13_DictOf.T24.2 tachographlaw13_DictOf.B24 = true := by kernel_rfl
set_option maxHeartbeats 8000000 in
set_option maxRecDepth 100000 in
theorem tachographlaw13_DictOf.calls (k : Nat) (A0 : Option Addr) (c0 : Nat) (l0 : List (S44)) (r : Bool) (w : World) (hr0 : Kd.C k44 w A0 l0.length l0) (hc0 : l0.length ≤ c0) (h : tachographlaw13_DictOf.f k l0 = some r) :
    Calls Try.prog 4 #[.slice A0 l0.length c0] w fun e w' => e = .returned (.bool r) ∧ Below w.heap.size w w' := by
  have hu44 := Try.underlying44
  have HR0 := Aside0.mk hr0
  have HC0 := Aside0.mk hc0
  clear hr0 hc0
  have HB := Aside0.mk (Below.refl w.heap.size w)
  have H : ((tachographlaw12_Great.f k l0 2000).bind fun t166 => (if t166 = true then ((tachographlaw13_fixed.f).bind fun t167 => (some t167)) else ((dict_Of.f k l0).bind fun t168 => ((dict_Dict_All.f t168).bind fun bt170 => ((tachographref13_Of.f k l0).bind fun t174 => ((tachographref02_Same.f k bt170.1 t174).bind fun t177 => (if t177 = true then ((dict_Dict_All.f bt170.2).bind fun bt178 => (tachographlaw13_DictOf.l0 k l0 bt178.1 (bt178.1.length : Int) 0 bt178.2)) else (some false)))))))) = some r := h
  clear h
  replace H := Option.bind_eq_some_iff.mp H
  obtain ⟨t166, A20, H⟩ := H
  replace H : (if t166 = true then ((tachographlaw13_fixed.f).bind fun t167 => (some t167)) else ((dict_Of.f k l0).bind fun t168 => ((dict_Dict_All.f t168).bind fun bt170 => ((tachographref13_Of.f k l0).bind fun t174 => ((tachographref02_Same.f k bt170.1 t174).bind fun t177 => (if t177 = true then ((dict_Dict_All.f bt170.2).bind fun bt178 => (tachographlaw13_DictOf.l0 k l0 bt178.1 (bt178.1.length : Int) 0 bt178.2)) else (some false))))))) = some r := H
  have A2 := Aside0.mk A20
  clear A20
  by_cases c3 : t166 = true
  · subst c3
    have H1 : ((tachographlaw13_fixed.f).bind fun t167 => (some t167)) = some r := by rw [if_pos rfl] at H; exact H
    clear H
    have H := H1
    clear H1
    replace H := Option.bind_eq_some_iff.mp H
    obtain ⟨t167, A40, H⟩ := H
    replace H : (some t167) = some r := H
    have A4 := Aside0.mk A40
    clear A40
    obtain rfl := Option.some.inj H
    go_enter Try.func4, Try.ntmps4
    go_wp2_with (first | ((with_reducible refine gate_callee (f := 24) rfl ?_); refine goesL_ (some 17) rfl rfl Try.func24 (by kernel_rfl) rfl #[.slice A0 l0.length c0, .int .i64 2000] rfl (by (try simp only [List.map_toArray, List.map_cons, List.map_nil]); first | done | rfl | (simp only [List.length_drop, List.length_take]; rfl) | (refine congrArg (fun z_ => #[z_]) (congrArg (Value.int IntKind.u64) (Eq.symm (Go.Proofs.YtjfklfmfeghjnabAid.wrap_len _ (by omega)))))) ?_; (with_reducible refine (tachographlaw12_Great.calls k _ _ l0 2000 true _ ?side1 ?side2 A2.out).mono ?_); (case side1 => repeat (first | exact HR0.out | (with_reducible refine Kd.C_alloc ?_ _) | (with_reducible refine Kd.C_drewN ?_ _) | (with_reducible refine Kd.C_drew ?_))); (case side2 => exact HC0.out); rintro e w5 ⟨rfl, hb⟩; refine ⟨_, rfl, ?_⟩; have n0_ := Aside0.mk (below_step (by repeat (first | (with_reducible first | exact HB.out | apply below_alloc | apply pw_below_drewN | apply below_drew1) | exact HB.out)) hb); clear HB; have HB := n0_; clear n0_; (try clear hb); (try clear hb2); (try clear hk); (try clear hi)) | ((with_reducible refine gate_callee (f := 15) rfl ?_); refine goesL_ (some 18) rfl rfl Try.func15 (by kernel_rfl) rfl #[] rfl (by (try simp only [List.map_toArray, List.map_cons, List.map_nil]); first | done | rfl | (simp only [List.length_drop, List.length_take]; rfl) | (refine congrArg (fun z_ => #[z_]) (congrArg (Value.int IntKind.u64) (Eq.symm (Go.Proofs.YtjfklfmfeghjnabAid.wrap_len _ (by omega)))))) ?_; (with_reducible refine (tachographlaw13_fixed.calls  t167 _ A4.out).mono ?_); rintro e w6 ⟨rfl, hb⟩; refine ⟨_, rfl, ?_⟩; have n0_ := Aside0.mk (below_step (by repeat (first | (with_reducible first | exact HB.out | apply below_alloc | apply pw_below_drewN | apply below_drew1) | exact HB.out)) hb); clear HB; have HB := n0_; clear n0_; (try clear hb); (try clear hb2); (try clear hk); (try clear hi)))
    go_ret
    exact ⟨by first | rfl | (simp [errW_none, errW_some] <;> rfl) | (simp [*, errW_none, errW_some] <;> rfl), by repeat (first | (with_reducible first | exact HB.out | apply below_alloc | apply pw_below_drewN | apply below_drew1) | exact HB.out)⟩
  · replace c3 := Bool.eq_false_iff.mpr c3
    subst c3
    have H1 : ((dict_Of.f k l0).bind fun t168 => ((dict_Dict_All.f t168).bind fun bt170 => ((tachographref13_Of.f k l0).bind fun t174 => ((tachographref02_Same.f k bt170.1 t174).bind fun t177 => (if t177 = true then ((dict_Dict_All.f bt170.2).bind fun bt178 => (tachographlaw13_DictOf.l0 k l0 bt178.1 (bt178.1.length : Int) 0 bt178.2)) else (some false)))))) = some r := by rw [if_neg (show ¬ (false = true) by decide)] at H; exact H
    clear H
    have H := H1
    clear H1
    replace H := Option.bind_eq_some_iff.mp H
    obtain ⟨t168, A70, H⟩ := H
    replace H : ((dict_Dict_All.f t168).bind fun bt170 => ((tachographref13_Of.f k l0).bind fun t174 => ((tachographref02_Same.f k bt170.1 t174).bind fun t177 => (if t177 = true then ((dict_Dict_All.f bt170.2).bind fun bt178 => (tachographlaw13_DictOf.l0 k l0 bt178.1 (bt178.1.length : Int) 0 bt178.2)) else (some false))))) = some r := H
    have A7 := Aside0.mk A70
    clear A70
    replace H := Option.bind_eq_some_iff.mp H
    obtain ⟨⟨t170, t173⟩, A80, H⟩ := H
    replace H : ((tachographref13_Of.f k l0).bind fun t174 => ((tachographref02_Same.f k t170 t174).bind fun t177 => (if t177 = true then ((dict_Dict_All.f t173).bind fun bt178 => (tachographlaw13_DictOf.l0 k l0 bt178.1 (bt178.1.length : Int) 0 bt178.2)) else (some false)))) = some r := H
    have A8 := Aside0.mk A80
    clear A80
    replace H := Option.bind_eq_some_iff.mp H
    obtain ⟨t174, A90, H⟩ := H
    replace H : ((tachographref02_Same.f k t170 t174).bind fun t177 => (if t177 = true then ((dict_Dict_All.f t173).bind fun bt178 => (tachographlaw13_DictOf.l0 k l0 bt178.1 (bt178.1.length : Int) 0 bt178.2)) else (some false))) = some r := H
    have A9 := Aside0.mk A90
    clear A90
    replace H := Option.bind_eq_some_iff.mp H
    obtain ⟨t177, A100, H⟩ := H
    replace H : (if t177 = true then ((dict_Dict_All.f t173).bind fun bt178 => (tachographlaw13_DictOf.l0 k l0 bt178.1 (bt178.1.length : Int) 0 bt178.2)) else (some false)) = some r := H
    have A10 := Aside0.mk A100
    clear A100
    by_cases c11 : t177 = true
    · subst c11
      have H1 : ((dict_Dict_All.f t173).bind fun bt178 => (tachographlaw13_DictOf.l0 k l0 bt178.1 (bt178.1.length : Int) 0 bt178.2)) = some r := by rw [if_pos rfl] at H; exact H
      clear H
      have H := H1
      clear H1
      replace H := Option.bind_eq_some_iff.mp H
      obtain ⟨⟨t178, t181⟩, A120, H⟩ := H
      replace H : (tachographlaw13_DictOf.l0 k l0 t178 (t178.length : Int) 0 t181) = some r := H
      have A12 := Aside0.mk A120
      clear A120
      have H' := Aside0.mk H
      clear H
      go_enter Try.func4, Try.ntmps4
      go_wp2_with (first | ((with_reducible refine gate_callee (f := 24) rfl ?_); refine goesL_ (some 17) rfl rfl Try.func24 (by kernel_rfl) rfl #[.slice A0 l0.length c0, .int .i64 2000] rfl (by (try simp only [List.map_toArray, List.map_cons, List.map_nil]); first | done | rfl | (simp only [List.length_drop, List.length_take]; rfl) | (refine congrArg (fun z_ => #[z_]) (congrArg (Value.int IntKind.u64) (Eq.symm (Go.Proofs.YtjfklfmfeghjnabAid.wrap_len _ (by omega)))))) ?_; (with_reducible refine (tachographlaw12_Great.calls k _ _ l0 2000 false _ ?side1 ?side2 A2.out).mono ?_); (case side1 => repeat (first | exact HR0.out | (with_reducible refine Kd.C_alloc ?_ _) | (with_reducible refine Kd.C_drewN ?_ _) | (with_reducible refine Kd.C_drew ?_))); (case side2 => exact HC0.out); rintro e w13 ⟨rfl, hb⟩; refine ⟨_, rfl, ?_⟩; have n0_ := Aside0.mk (below_step (by repeat (first | (with_reducible first | exact HB.out | apply below_alloc | apply pw_below_drewN | apply below_drew1) | exact HB.out)) hb); clear HB; have HB := n0_; clear n0_; (try clear hb); (try clear hb2); (try clear hk); (try clear hi)) | ((with_reducible refine gate_callee (f := 25) rfl ?_); refine goesL_ (some 20) rfl rfl Try.func25 (by kernel_rfl) rfl #[.slice A0 l0.length c0] rfl (by (try simp only [List.map_toArray, List.map_cons, List.map_nil]); first | done | rfl | (simp only [List.length_drop, List.length_take]; rfl) | (refine congrArg (fun z_ => #[z_]) (congrArg (Value.int IntKind.u64) (Eq.symm (Go.Proofs.YtjfklfmfeghjnabAid.wrap_len _ (by omega)))))) ?_; (with_reducible refine (dict_Of.calls k _ _ l0 t168 w _ ?side1 ?side2 ?side3 A7.out).mono ?_); (case side1 => repeat (first | (with_reducible first | exact HB.out | apply below_alloc | apply pw_below_drewN | apply below_drew1) | exact HB.out)); (case side2 => repeat (first | exact (Kd.C_below HR0.out HB.out) | (with_reducible refine Kd.C_alloc ?_ _) | (with_reducible refine Kd.C_drewN ?_ _) | (with_reducible refine Kd.C_drew ?_))); (case side3 => exact HC0.out); rintro e w14 ⟨g169, rfl, hi, hb, hb2⟩; refine ⟨_, rfl, ?_⟩; have n0_ := Aside0.mk (hb); have n1_ := Aside0.mk (hi); clear HB; have HB := n0_; have HI169 := n1_; clear n0_ n1_; (try clear hb); (try clear hb2); (try clear hk); (try clear hi)) | (go_at_call 19; (with_reducible refine (dict_Dict_All.calls g169 t168 t170 t173 w _ ?side1 ?side2 A8.out).mono ?_); (case side1 => repeat (first | (with_reducible first | exact HI169.out | apply IsS100.alloc | apply IsS100.drewN | apply IsS100.drew | apply IsS100.set_0) | exact HI169.out)); (case side2 => repeat (first | (with_reducible first | exact HB.out | apply below_alloc | apply pw_below_drewN | apply below_drew1 | refine below_set ?_ (IsS100.ge HI169.out)) | exact HB.out)); rintro e w15 ⟨v171, rfl, ho0, hi, hb, hk⟩; have n0_ := Aside0.mk (Kd.R_lower ho0 (below_size (by repeat (first | (with_reducible first | exact HB.out | apply below_alloc | apply pw_below_drewN | apply below_drew1 | refine below_set ?_ (IsS100.ge HI169.out)) | exact HB.out)))); have n1_ := Aside0.mk (hb); have n2_ := Aside0.mk (hi); clear HB; clear HI169; have HO172 := n0_; have HB := n1_; have HI169 := n2_; clear n0_ n1_ n2_; (try clear hb); (try clear hb2); (try clear hk); (try clear hi); (try clear ho0)) | (go_at_call 26; (with_reducible refine (tachographref13_Of.calls k _ _ l0 t174 _ ?side1 ?side2 A9.out).mono ?_); (case side1 => repeat (first | exact (Kd.C_below HR0.out HB.out) | (with_reducible refine Kd.C_alloc ?_ _) | (with_reducible refine Kd.C_drewN ?_ _) | (with_reducible refine Kd.C_drew ?_))); (case side2 => exact HC0.out); rintro e w16 ⟨v175, rfl, ho0, hb⟩; have n0_ := Aside0.mk (Kd.R_elder' (by (with_reducible repeat (first | apply Kd.R_alloc | apply Kd.R_drewN | apply Kd.R_drew)); exact HO172.out) (Kd.R_base ho0) hb); have n1_ := Aside0.mk (Kd.R_lower (Kd.R_new' ho0 (Kd.R_lt (by (with_reducible repeat (first | apply Kd.R_alloc | apply Kd.R_drewN | apply Kd.R_drew)); exact HO172.out))) (below_size (by repeat (first | (with_reducible first | exact HB.out | apply below_alloc | apply pw_below_drewN | apply below_drew1 | refine below_set ?_ (IsS100.ge HI169.out)) | exact HB.out)))); have n2_ := Aside0.mk (IsS100.below (by repeat (first | (with_reducible first | exact HI169.out | apply IsS100.alloc | apply IsS100.drewN | apply IsS100.drew | apply IsS100.set_0) | exact HI169.out)) hb); have n3_ := Aside0.mk (below_step (by repeat (first | (with_reducible first | exact HB.out | apply below_alloc | apply pw_below_drewN | apply below_drew1 | refine below_set ?_ (IsS100.ge HI169.out)) | exact HB.out)) hb); clear HO172; clear HI169; clear HB; have HO172 := n0_; have HO176 := n1_; have HI169 := n2_; have HB := n3_; clear n0_ n1_ n2_ n3_; (try clear hb); (try clear hb2); (try clear hk); (try clear hi); (try clear ho0); obtain ⟨Ao17, co17, eo17⟩ := Kd.R_slice HO172.out; subst eo17; obtain ⟨Ao18, co18, eo18⟩ := Kd.R_slice HO176.out; subst eo18) | (go_at_call 20; (with_reducible refine (tachographref02_Same.calls k _ _ t170 _ _ t174 true _ ?side1 ?side2 ?side3 ?side4 A10.out).mono ?_); (case side1 => repeat (first | exact (Kd.R_reads' HO172.out).2.2 | (with_reducible refine Kd.C_alloc ?_ _) | (with_reducible refine Kd.C_drewN ?_ _) | (with_reducible refine Kd.C_drew ?_))); (case side2 => exact (Kd.R_reads' HO172.out).2.1); (case side3 => repeat (first | exact (Kd.R_reads' HO176.out).2.2 | (with_reducible refine Kd.C_alloc ?_ _) | (with_reducible refine Kd.C_drewN ?_ _) | (with_reducible refine Kd.C_drew ?_))); (case side4 => exact (Kd.R_reads' HO176.out).2.1); rintro e w' ⟨rfl, ⟨nd, rfl⟩⟩) | ((with_reducible refine gate_callee (f := 19) rfl ?_); refine goesL_ (some 32) rfl rfl Try.func19 (by kernel_rfl) rfl #[.pointer (some ⟨g169, 0, none⟩)] rfl (by (try simp only [List.map_toArray, List.map_cons, List.map_nil]); first | done | rfl | (simp only [List.length_drop, List.length_take]; rfl) | (refine congrArg (fun z_ => #[z_]) (congrArg (Value.int IntKind.u64) (Eq.symm (Go.Proofs.YtjfklfmfeghjnabAid.wrap_len _ (by omega)))))) ?_; (with_reducible refine (dict_Dict_All.calls g169 t173 t178 t181 w _ ?side1 ?side2 A12.out).mono ?_); (case side1 => repeat (first | (with_reducible first | exact HI169.out | apply IsS100.alloc | apply IsS100.drewN | apply IsS100.drew | apply IsS100.set_0) | exact HI169.out)); (case side2 => repeat (first | (with_reducible first | exact HB.out | apply below_alloc | apply pw_below_drewN | apply below_drew1 | refine below_set ?_ (IsS100.ge HI169.out)) | exact HB.out)); rintro e w19 ⟨v179, rfl, ho0, hi, hb, hk⟩; refine ⟨_, rfl, ?_⟩; have n0_ := Aside0.mk (Kd.R_mono (Kd.R_told (Kd.R_oldK (IsS100.apart (show IsS100 w _ g169 t173 from by repeat (first | (with_reducible first | exact HI169.out | apply IsS100.alloc | apply IsS100.drewN | apply IsS100.drew | apply IsS100.set_0) | exact HI169.out)) (by (with_reducible repeat (first | apply Kd.R_alloc | apply Kd.R_drewN | apply Kd.R_drew)); exact HO172.out) (by decide)) hk) (Kd.R_base ho0)) (fun _ h_ => h_.1)); have n1_ := Aside0.mk (Kd.R_mono (Kd.R_told (Kd.R_oldK (IsS100.apart (show IsS100 w _ g169 t173 from by repeat (first | (with_reducible first | exact HI169.out | apply IsS100.alloc | apply IsS100.drewN | apply IsS100.drew | apply IsS100.set_0) | exact HI169.out)) (by (with_reducible repeat (first | apply Kd.R_alloc | apply Kd.R_drewN | apply Kd.R_drew)); exact HO176.out) (by decide)) hk) (Kd.R_base ho0)) (fun _ h_ => h_.1)); have n2_ := Aside0.mk (Kd.R_lower (Kd.R_new' (Kd.R_new' ho0 (Kd.R_lt (by (with_reducible repeat (first | apply Kd.R_alloc | apply Kd.R_drewN | apply Kd.R_drew)); exact HO172.out))) (Kd.R_lt (by (with_reducible repeat (first | apply Kd.R_alloc | apply Kd.R_drewN | apply Kd.R_drew)); exact HO176.out))) (below_size (by repeat (first | (with_reducible first | exact HB.out | apply below_alloc | apply pw_below_drewN | apply below_drew1 | refine below_set ?_ (IsS100.ge HI169.out)) | exact HB.out)))); have n3_ := Aside0.mk (hb); have n4_ := Aside0.mk (hi); clear HO172; clear HO176; clear HB; clear HI169; have HO172 := n0_; have HO176 := n1_; have HO180 := n2_; have HB := n3_; have HI169 := n4_; clear n0_ n1_ n2_ n3_ n4_; (try clear hb); (try clear hb2); (try clear hk); (try clear hi); (try clear ho0); obtain ⟨Ao20, co20, eo20⟩ := Kd.R_slice HO180.out; subst eo20))
      go_loopg [34] k (fun kq v34 w' => ∃ (x34_1 : Int) (x170000_1 : ByteArray), v34 = .int .i64 x34_1 ∧ Aside0 (tachographlaw13_DictOf.l0 kq l0 t178 (t178.length : Int) x34_1 x170000_1 = some r) ∧ Aside0 (kq ≤ k) ∧ Aside0 (Kd.R Kd.string 9 w' w.heap.size (fun _ => True) (.slice Ao20 t178.length co20) t178) ∧ Aside0 (IsS100 w w' g169 x170000_1) ∧ Aside0 (Below w.heap.size w w'))
      case atStart => exact ⟨(0), (t181), (by first | rfl | (simp; done) | (simp [*]; done)), H', ⟨Nat.le_refl _⟩, ⟨by (with_reducible repeat (first | apply Kd.R_alloc | apply Kd.R_drewN | apply Kd.R_drew)); exact Kd.R_mono HO180.out (fun _ hk => trivial)⟩, ⟨by repeat (first | (with_reducible first | exact HI169.out | apply IsS100.alloc | apply IsS100.drewN | apply IsS100.drew | apply IsS100.set_0) | exact HI169.out)⟩, ⟨by repeat (first | (with_reducible first | exact HB.out | apply below_alloc | apply pw_below_drewN | apply below_drew1 | refine below_set ?_ (IsS100.ge HI169.out)) | exact HB.out)⟩⟩
      case round =>
        clear H'
        try clear c1
        try clear c2
        try clear p2
        try clear c3
        try clear c4
        try clear c11
        try clear c15
        try clear c19
        obtain ⟨x34_1, x170000_1, rfl, HA, HK1, HO_32, HI169, HB⟩ := hrel
        cases gk with
        | zero => exact absurd HA.out (by simp [tachographlaw13_DictOf.l0])
        | succ k1 =>
          have H := HA.out
          clear HA
          simp only [tachographlaw13_DictOf.l0] at H
          by_cases c21 : x34_1 < (t178.length : Int)
          · rw [if_pos c21] at H
            have c21b0 : decide (x34_1 < (t178.length : Int)) = true := decide_eq_true c21
            clear c21
            by_cases c22 : 0 ≤ x34_1
            · rw [if_pos c22] at H
              have c22b0 : decide (0 ≤ x34_1) = true := decide_eq_true c22
              clear c22
              by_cases c23 : x34_1 < (t178.length : Int)
              · rw [if_pos c23] at H
                have c23b0 : decide (x34_1 < (t178.length : Int)) = true := decide_eq_true c23
                clear c23
                replace H := Option.bind_eq_some_iff.mp H
                obtain ⟨⟨t183, t184, t185⟩, A240, H⟩ := H
                replace H : ((dict_Dict_Text.f t185 x34_1).bind fun bt186 => (if t183 = x34_1 then (if t184 = true then (if bt186.1.toList = (rdOf ByteArray.empty t178 x34_1).toList then (if bt186.2.1 = true then (tachographlaw13_DictOf.l0 k1 l0 t178 (t178.length : Int) (wrap64 (x34_1 + 1)) bt186.2.2) else (some false)) else (some false)) else (some false)) else (some false))) = some r := H
                have A24 := Aside0.mk A240
                clear A240
                replace H := Option.bind_eq_some_iff.mp H
                obtain ⟨⟨t186, t187, t188⟩, A250, H⟩ := H
                replace H : (if t183 = x34_1 then (if t184 = true then (if t186.toList = (rdOf ByteArray.empty t178 x34_1).toList then (if t187 = true then (tachographlaw13_DictOf.l0 k1 l0 t178 (t178.length : Int) (wrap64 (x34_1 + 1)) t188) else (some false)) else (some false)) else (some false)) else (some false)) = some r := H
                have A25 := Aside0.mk A250
                clear A250
                by_cases c26 : t183 = x34_1
                · rw [if_pos c26] at H
                  have c26b0 : (t183 == x34_1) = true := beq_iff_eq.mpr c26
                  have c26b1 : (t183 != x34_1) = false := bne_eq_false_iff_eq.mpr c26
                  clear c26
                  by_cases c27 : t184 = true
                  · subst c27
                    have H1 : (if t186.toList = (rdOf ByteArray.empty t178 x34_1).toList then (if t187 = true then (tachographlaw13_DictOf.l0 k1 l0 t178 (t178.length : Int) (wrap64 (x34_1 + 1)) t188) else (some false)) else (some false)) = some r := by rw [if_pos rfl] at H; exact H
                    clear H
                    have H := H1
                    clear H1
                    by_cases c28 : t186.toList = (rdOf ByteArray.empty t178 x34_1).toList
                    · rw [if_pos c28] at H
                      have c28b0 : (t186.toList == (rdOf ByteArray.empty t178 x34_1).toList) = true := beq_iff_eq.mpr c28
                      have c28b1 : (t186.toList != (rdOf ByteArray.empty t178 x34_1).toList) = false := bne_eq_false_iff_eq.mpr c28
                      clear c28
                      by_cases c29 : t187 = true
                      · subst c29
                        have H1 : (tachographlaw13_DictOf.l0 k1 l0 t178 (t178.length : Int) (wrap64 (x34_1 + 1)) t188) = some r := by rw [if_pos rfl] at H; exact H
                        clear H
                        have H := H1
                        clear H1
                        have H' := Aside0.mk H
                        clear H
                        have p182 : 0 ≤ (x34_1 : Int) := of_decide_eq_true (by first | (with_reducible assumption) | assumption)
                        have q182 : x34_1 < (t178.length : Int) := of_decide_eq_true (by first | (with_reducible assumption) | assumption)
                        obtain ⟨ad182, e182, hx182_0⟩ := Kd.at_string (Kd.R_reads' HO_32.out).2.2 x34_1 p182 q182
                        cases e182
                        replace p182 := eq_true p182
                        replace q182 := eq_true q182
                        go_wp2_with (first | ((with_reducible refine gate_callee (f := 21) rfl ?_); refine goesL_ (some 42) rfl rfl Try.func21 (by kernel_rfl) rfl #[.pointer (some ⟨g169, 0, none⟩), .string (rdOf ByteArray.empty t178 x34_1)] rfl (by (try simp only [List.map_toArray, List.map_cons, List.map_nil]); first | done | rfl | (simp only [List.length_drop, List.length_take]; rfl) | (refine congrArg (fun z_ => #[z_]) (congrArg (Value.int IntKind.u64) (Eq.symm (Go.Proofs.YtjfklfmfeghjnabAid.wrap_len _ (by omega)))))) ?_; (with_reducible refine (dict_Dict_Find.calls g169 x170000_1 (rdOf ByteArray.empty t178 x34_1) t183 true t185 w _ ?side1 ?side2 A24.out).mono ?_); (case side1 => repeat (first | (with_reducible first | exact HI169.out | apply IsS100.alloc | apply IsS100.drewN | apply IsS100.drew | apply IsS100.set_0) | exact HI169.out)); (case side2 => repeat (first | (with_reducible first | exact HB.out | apply below_alloc | apply pw_below_drewN | apply below_drew1 | refine below_set ?_ (IsS100.ge HI169.out)) | exact HB.out)); rintro e w30 ⟨rfl, hi, hb, hk⟩; refine ⟨_, rfl, ?_⟩; have n0_ := Aside0.mk (Kd.R_mono (Kd.R_keep (IsS100.apart (show IsS100 w _ g169 x170000_1 from by repeat (first | (with_reducible first | exact HI169.out | apply IsS100.alloc | apply IsS100.drewN | apply IsS100.drew | apply IsS100.set_0) | exact HI169.out)) (by (with_reducible repeat (first | apply Kd.R_alloc | apply Kd.R_drewN | apply Kd.R_drew)); exact HO_32.out) (by decide)) hk (fun _ h => h.2)) (fun _ h => h.1)); have n1_ := Aside0.mk (hb); have n2_ := Aside0.mk (hi); clear HO_32; clear HB; clear HI169; have HO_32 := n0_; have HB := n1_; have HI169 := n2_; clear n0_ n1_ n2_; (try clear hb); (try clear hb2); (try clear hk); (try clear hi)) | ((with_reducible refine gate_callee (f := 23) rfl ?_); refine goesL_ (some 48) rfl rfl Try.func23 (by kernel_rfl) rfl #[.pointer (some ⟨g169, 0, none⟩), .int .i64 x34_1] rfl (by (try simp only [List.map_toArray, List.map_cons, List.map_nil]); first | done | rfl | (simp only [List.length_drop, List.length_take]; rfl) | (refine congrArg (fun z_ => #[z_]) (congrArg (Value.int IntKind.u64) (Eq.symm (Go.Proofs.YtjfklfmfeghjnabAid.wrap_len _ (by omega)))))) ?_; (with_reducible refine (dict_Dict_Text.calls g169 t185 x34_1 t186 true t188 w _ ?side1 ?side2 A25.out).mono ?_); (case side1 => repeat (first | (with_reducible first | exact HI169.out | apply IsS100.alloc | apply IsS100.drewN | apply IsS100.drew | apply IsS100.set_0) | exact HI169.out)); (case side2 => repeat (first | (with_reducible first | exact HB.out | apply below_alloc | apply pw_below_drewN | apply below_drew1 | refine below_set ?_ (IsS100.ge HI169.out)) | exact HB.out)); rintro e w31 ⟨rfl, hi, hb, hk⟩; refine ⟨_, rfl, ?_⟩; have n0_ := Aside0.mk (Kd.R_mono (Kd.R_keep (IsS100.apart (show IsS100 w _ g169 t185 from by repeat (first | (with_reducible first | exact HI169.out | apply IsS100.alloc | apply IsS100.drewN | apply IsS100.drew | apply IsS100.set_0) | exact HI169.out)) (by (with_reducible repeat (first | apply Kd.R_alloc | apply Kd.R_drewN | apply Kd.R_drew)); exact HO_32.out) (by decide)) hk (fun _ h => h.2)) (fun _ h => h.1)); have n1_ := Aside0.mk (hb); have n2_ := Aside0.mk (hi); clear HO_32; clear HB; clear HI169; have HO_32 := n0_; have HB := n1_; have HI169 := n2_; clear n0_ n1_ n2_; (try clear hb); (try clear hb2); (try clear hk); (try clear hi)))
                        go_roundg k1
                        case measure => have := HK1.out; omega
                        case rel => exact ⟨(wrap64 (x34_1 + 1)), (t188), (by first | rfl | (simp; done) | (simp [*]; done)), H', ⟨by have := HK1.out; omega⟩, ⟨by (with_reducible repeat (first | apply Kd.R_alloc | apply Kd.R_drewN | apply Kd.R_drew)); exact HO_32.out⟩, ⟨by repeat (first | (with_reducible first | exact HI169.out | apply IsS100.alloc | apply IsS100.drewN | apply IsS100.drew | apply IsS100.set_0) | exact HI169.out)⟩, ⟨by repeat (first | (with_reducible first | exact HB.out | apply below_alloc | apply pw_below_drewN | apply below_drew1 | refine below_set ?_ (IsS100.ge HI169.out)) | exact HB.out)⟩⟩
                      · replace c29 := Bool.eq_false_iff.mpr c29
                        subst c29
                        have H1 : (some false) = some r := by rw [if_neg (show ¬ (false = true) by decide)] at H; exact H
                        clear H
                        have H := H1
                        clear H1
                        obtain rfl := Option.some.inj H
                        have p182 : 0 ≤ (x34_1 : Int) := of_decide_eq_true (by first | (with_reducible assumption) | assumption)
                        have q182 : x34_1 < (t178.length : Int) := of_decide_eq_true (by first | (with_reducible assumption) | assumption)
                        obtain ⟨ad182, e182, hx182_0⟩ := Kd.at_string (Kd.R_reads' HO_32.out).2.2 x34_1 p182 q182
                        cases e182
                        replace p182 := eq_true p182
                        replace q182 := eq_true q182
                        go_wp2_with (first | ((with_reducible refine gate_callee (f := 21) rfl ?_); refine goesL_ (some 42) rfl rfl Try.func21 (by kernel_rfl) rfl #[.pointer (some ⟨g169, 0, none⟩), .string (rdOf ByteArray.empty t178 x34_1)] rfl (by (try simp only [List.map_toArray, List.map_cons, List.map_nil]); first | done | rfl | (simp only [List.length_drop, List.length_take]; rfl) | (refine congrArg (fun z_ => #[z_]) (congrArg (Value.int IntKind.u64) (Eq.symm (Go.Proofs.YtjfklfmfeghjnabAid.wrap_len _ (by omega)))))) ?_; (with_reducible refine (dict_Dict_Find.calls g169 x170000_1 (rdOf ByteArray.empty t178 x34_1) t183 true t185 w _ ?side1 ?side2 A24.out).mono ?_); (case side1 => repeat (first | (with_reducible first | exact HI169.out | apply IsS100.alloc | apply IsS100.drewN | apply IsS100.drew | apply IsS100.set_0) | exact HI169.out)); (case side2 => repeat (first | (with_reducible first | exact HB.out | apply below_alloc | apply pw_below_drewN | apply below_drew1 | refine below_set ?_ (IsS100.ge HI169.out)) | exact HB.out)); rintro e w32 ⟨rfl, hi, hb, hk⟩; refine ⟨_, rfl, ?_⟩; have n0_ := Aside0.mk (Kd.R_mono (Kd.R_keep (IsS100.apart (show IsS100 w _ g169 x170000_1 from by repeat (first | (with_reducible first | exact HI169.out | apply IsS100.alloc | apply IsS100.drewN | apply IsS100.drew | apply IsS100.set_0) | exact HI169.out)) (by (with_reducible repeat (first | apply Kd.R_alloc | apply Kd.R_drewN | apply Kd.R_drew)); exact HO_32.out) (by decide)) hk (fun _ h => h.2)) (fun _ h => h.1)); have n1_ := Aside0.mk (hb); have n2_ := Aside0.mk (hi); clear HO_32; clear HB; clear HI169; have HO_32 := n0_; have HB := n1_; have HI169 := n2_; clear n0_ n1_ n2_; (try clear hb); (try clear hb2); (try clear hk); (try clear hi)) | ((with_reducible refine gate_callee (f := 23) rfl ?_); refine goesL_ (some 48) rfl rfl Try.func23 (by kernel_rfl) rfl #[.pointer (some ⟨g169, 0, none⟩), .int .i64 x34_1] rfl (by (try simp only [List.map_toArray, List.map_cons, List.map_nil]); first | done | rfl | (simp only [List.length_drop, List.length_take]; rfl) | (refine congrArg (fun z_ => #[z_]) (congrArg (Value.int IntKind.u64) (Eq.symm (Go.Proofs.YtjfklfmfeghjnabAid.wrap_len _ (by omega)))))) ?_; (with_reducible refine (dict_Dict_Text.calls g169 t185 x34_1 t186 false t188 w _ ?side1 ?side2 A25.out).mono ?_); (case side1 => repeat (first | (with_reducible first | exact HI169.out | apply IsS100.alloc | apply IsS100.drewN | apply IsS100.drew | apply IsS100.set_0) | exact HI169.out)); (case side2 => repeat (first | (with_reducible first | exact HB.out | apply below_alloc | apply pw_below_drewN | apply below_drew1 | refine below_set ?_ (IsS100.ge HI169.out)) | exact HB.out)); rintro e w33 ⟨rfl, hi, hb, hk⟩; refine ⟨_, rfl, ?_⟩; have n0_ := Aside0.mk (Kd.R_mono (Kd.R_keep (IsS100.apart (show IsS100 w _ g169 t185 from by repeat (first | (with_reducible first | exact HI169.out | apply IsS100.alloc | apply IsS100.drewN | apply IsS100.drew | apply IsS100.set_0) | exact HI169.out)) (by (with_reducible repeat (first | apply Kd.R_alloc | apply Kd.R_drewN | apply Kd.R_drew)); exact HO_32.out) (by decide)) hk (fun _ h => h.2)) (fun _ h => h.1)); have n1_ := Aside0.mk (hb); have n2_ := Aside0.mk (hi); clear HO_32; clear HB; clear HI169; have HO_32 := n0_; have HB := n1_; have HI169 := n2_; clear n0_ n1_ n2_; (try clear hb); (try clear hb2); (try clear hk); (try clear hi)))
                        go_ret
                        exact ⟨by first | rfl | (simp [errW_none, errW_some] <;> rfl) | (simp [*, errW_none, errW_some] <;> rfl), by repeat (first | (with_reducible first | exact HB.out | apply below_alloc | apply pw_below_drewN | apply below_drew1 | refine below_set ?_ (IsS100.ge HI169.out)) | exact HB.out)⟩
                    · rw [if_neg c28] at H
                      have c28b0 : (t186.toList == (rdOf ByteArray.empty t178 x34_1).toList) = false := beq_eq_false_iff_ne.mpr c28
                      have c28b1 : (t186.toList != (rdOf ByteArray.empty t178 x34_1).toList) = true := bne_iff_ne.mpr c28
                      obtain rfl := Option.some.inj H
                      have p182 : 0 ≤ (x34_1 : Int) := of_decide_eq_true (by first | (with_reducible assumption) | assumption)
                      have q182 : x34_1 < (t178.length : Int) := of_decide_eq_true (by first | (with_reducible assumption) | assumption)
                      obtain ⟨ad182, e182, hx182_0⟩ := Kd.at_string (Kd.R_reads' HO_32.out).2.2 x34_1 p182 q182
                      cases e182
                      replace p182 := eq_true p182
                      replace q182 := eq_true q182
                      go_wp2_with (first | ((with_reducible refine gate_callee (f := 21) rfl ?_); refine goesL_ (some 42) rfl rfl Try.func21 (by kernel_rfl) rfl #[.pointer (some ⟨g169, 0, none⟩), .string (rdOf ByteArray.empty t178 x34_1)] rfl (by (try simp only [List.map_toArray, List.map_cons, List.map_nil]); first | done | rfl | (simp only [List.length_drop, List.length_take]; rfl) | (refine congrArg (fun z_ => #[z_]) (congrArg (Value.int IntKind.u64) (Eq.symm (Go.Proofs.YtjfklfmfeghjnabAid.wrap_len _ (by omega)))))) ?_; (with_reducible refine (dict_Dict_Find.calls g169 x170000_1 (rdOf ByteArray.empty t178 x34_1) t183 true t185 w _ ?side1 ?side2 A24.out).mono ?_); (case side1 => repeat (first | (with_reducible first | exact HI169.out | apply IsS100.alloc | apply IsS100.drewN | apply IsS100.drew | apply IsS100.set_0) | exact HI169.out)); (case side2 => repeat (first | (with_reducible first | exact HB.out | apply below_alloc | apply pw_below_drewN | apply below_drew1 | refine below_set ?_ (IsS100.ge HI169.out)) | exact HB.out)); rintro e w34 ⟨rfl, hi, hb, hk⟩; refine ⟨_, rfl, ?_⟩; have n0_ := Aside0.mk (Kd.R_mono (Kd.R_keep (IsS100.apart (show IsS100 w _ g169 x170000_1 from by repeat (first | (with_reducible first | exact HI169.out | apply IsS100.alloc | apply IsS100.drewN | apply IsS100.drew | apply IsS100.set_0) | exact HI169.out)) (by (with_reducible repeat (first | apply Kd.R_alloc | apply Kd.R_drewN | apply Kd.R_drew)); exact HO_32.out) (by decide)) hk (fun _ h => h.2)) (fun _ h => h.1)); have n1_ := Aside0.mk (hb); have n2_ := Aside0.mk (hi); clear HO_32; clear HB; clear HI169; have HO_32 := n0_; have HB := n1_; have HI169 := n2_; clear n0_ n1_ n2_; (try clear hb); (try clear hb2); (try clear hk); (try clear hi)) | ((with_reducible refine gate_callee (f := 23) rfl ?_); refine goesL_ (some 48) rfl rfl Try.func23 (by kernel_rfl) rfl #[.pointer (some ⟨g169, 0, none⟩), .int .i64 x34_1] rfl (by (try simp only [List.map_toArray, List.map_cons, List.map_nil]); first | done | rfl | (simp only [List.length_drop, List.length_take]; rfl) | (refine congrArg (fun z_ => #[z_]) (congrArg (Value.int IntKind.u64) (Eq.symm (Go.Proofs.YtjfklfmfeghjnabAid.wrap_len _ (by omega)))))) ?_; (with_reducible refine (dict_Dict_Text.calls g169 t185 x34_1 t186 t187 t188 w _ ?side1 ?side2 A25.out).mono ?_); (case side1 => repeat (first | (with_reducible first | exact HI169.out | apply IsS100.alloc | apply IsS100.drewN | apply IsS100.drew | apply IsS100.set_0) | exact HI169.out)); (case side2 => repeat (first | (with_reducible first | exact HB.out | apply below_alloc | apply pw_below_drewN | apply below_drew1 | refine below_set ?_ (IsS100.ge HI169.out)) | exact HB.out)); rintro e w35 ⟨rfl, hi, hb, hk⟩; refine ⟨_, rfl, ?_⟩; have n0_ := Aside0.mk (Kd.R_mono (Kd.R_keep (IsS100.apart (show IsS100 w _ g169 t185 from by repeat (first | (with_reducible first | exact HI169.out | apply IsS100.alloc | apply IsS100.drewN | apply IsS100.drew | apply IsS100.set_0) | exact HI169.out)) (by (with_reducible repeat (first | apply Kd.R_alloc | apply Kd.R_drewN | apply Kd.R_drew)); exact HO_32.out) (by decide)) hk (fun _ h => h.2)) (fun _ h => h.1)); have n1_ := Aside0.mk (hb); have n2_ := Aside0.mk (hi); clear HO_32; clear HB; clear HI169; have HO_32 := n0_; have HB := n1_; have HI169 := n2_; clear n0_ n1_ n2_; (try clear hb); (try clear hb2); (try clear hk); (try clear hi)))
                      go_ret
                      exact ⟨by first | rfl | (simp [errW_none, errW_some] <;> rfl) | (simp [*, errW_none, errW_some] <;> rfl), by repeat (first | (with_reducible first | exact HB.out | apply below_alloc | apply pw_below_drewN | apply below_drew1 | refine below_set ?_ (IsS100.ge HI169.out)) | exact HB.out)⟩
                  · replace c27 := Bool.eq_false_iff.mpr c27
                    subst c27
                    have H1 : (some false) = some r := by rw [if_neg (show ¬ (false = true) by decide)] at H; exact H
                    clear H
                    have H := H1
                    clear H1
                    obtain rfl := Option.some.inj H
                    have p182 : 0 ≤ (x34_1 : Int) := of_decide_eq_true (by first | (with_reducible assumption) | assumption)
                    have q182 : x34_1 < (t178.length : Int) := of_decide_eq_true (by first | (with_reducible assumption) | assumption)
                    obtain ⟨ad182, e182, hx182_0⟩ := Kd.at_string (Kd.R_reads' HO_32.out).2.2 x34_1 p182 q182
                    cases e182
                    replace p182 := eq_true p182
                    replace q182 := eq_true q182
                    go_wp2_with (first | ((with_reducible refine gate_callee (f := 21) rfl ?_); refine goesL_ (some 42) rfl rfl Try.func21 (by kernel_rfl) rfl #[.pointer (some ⟨g169, 0, none⟩), .string (rdOf ByteArray.empty t178 x34_1)] rfl (by (try simp only [List.map_toArray, List.map_cons, List.map_nil]); first | done | rfl | (simp only [List.length_drop, List.length_take]; rfl) | (refine congrArg (fun z_ => #[z_]) (congrArg (Value.int IntKind.u64) (Eq.symm (Go.Proofs.YtjfklfmfeghjnabAid.wrap_len _ (by omega)))))) ?_; (with_reducible refine (dict_Dict_Find.calls g169 x170000_1 (rdOf ByteArray.empty t178 x34_1) t183 false t185 w _ ?side1 ?side2 A24.out).mono ?_); (case side1 => repeat (first | (with_reducible first | exact HI169.out | apply IsS100.alloc | apply IsS100.drewN | apply IsS100.drew | apply IsS100.set_0) | exact HI169.out)); (case side2 => repeat (first | (with_reducible first | exact HB.out | apply below_alloc | apply pw_below_drewN | apply below_drew1 | refine below_set ?_ (IsS100.ge HI169.out)) | exact HB.out)); rintro e w36 ⟨rfl, hi, hb, hk⟩; refine ⟨_, rfl, ?_⟩; have n0_ := Aside0.mk (Kd.R_mono (Kd.R_keep (IsS100.apart (show IsS100 w _ g169 x170000_1 from by repeat (first | (with_reducible first | exact HI169.out | apply IsS100.alloc | apply IsS100.drewN | apply IsS100.drew | apply IsS100.set_0) | exact HI169.out)) (by (with_reducible repeat (first | apply Kd.R_alloc | apply Kd.R_drewN | apply Kd.R_drew)); exact HO_32.out) (by decide)) hk (fun _ h => h.2)) (fun _ h => h.1)); have n1_ := Aside0.mk (hb); have n2_ := Aside0.mk (hi); clear HO_32; clear HB; clear HI169; have HO_32 := n0_; have HB := n1_; have HI169 := n2_; clear n0_ n1_ n2_; (try clear hb); (try clear hb2); (try clear hk); (try clear hi)) | ((with_reducible refine gate_callee (f := 23) rfl ?_); refine goesL_ (some 48) rfl rfl Try.func23 (by kernel_rfl) rfl #[.pointer (some ⟨g169, 0, none⟩), .int .i64 x34_1] rfl (by (try simp only [List.map_toArray, List.map_cons, List.map_nil]); first | done | rfl | (simp only [List.length_drop, List.length_take]; rfl) | (refine congrArg (fun z_ => #[z_]) (congrArg (Value.int IntKind.u64) (Eq.symm (Go.Proofs.YtjfklfmfeghjnabAid.wrap_len _ (by omega)))))) ?_; (with_reducible refine (dict_Dict_Text.calls g169 t185 x34_1 t186 t187 t188 w _ ?side1 ?side2 A25.out).mono ?_); (case side1 => repeat (first | (with_reducible first | exact HI169.out | apply IsS100.alloc | apply IsS100.drewN | apply IsS100.drew | apply IsS100.set_0) | exact HI169.out)); (case side2 => repeat (first | (with_reducible first | exact HB.out | apply below_alloc | apply pw_below_drewN | apply below_drew1 | refine below_set ?_ (IsS100.ge HI169.out)) | exact HB.out)); rintro e w37 ⟨rfl, hi, hb, hk⟩; refine ⟨_, rfl, ?_⟩; have n0_ := Aside0.mk (Kd.R_mono (Kd.R_keep (IsS100.apart (show IsS100 w _ g169 t185 from by repeat (first | (with_reducible first | exact HI169.out | apply IsS100.alloc | apply IsS100.drewN | apply IsS100.drew | apply IsS100.set_0) | exact HI169.out)) (by (with_reducible repeat (first | apply Kd.R_alloc | apply Kd.R_drewN | apply Kd.R_drew)); exact HO_32.out) (by decide)) hk (fun _ h => h.2)) (fun _ h => h.1)); have n1_ := Aside0.mk (hb); have n2_ := Aside0.mk (hi); clear HO_32; clear HB; clear HI169; have HO_32 := n0_; have HB := n1_; have HI169 := n2_; clear n0_ n1_ n2_; (try clear hb); (try clear hb2); (try clear hk); (try clear hi)))
                    go_ret
                    exact ⟨by first | rfl | (simp [errW_none, errW_some] <;> rfl) | (simp [*, errW_none, errW_some] <;> rfl), by repeat (first | (with_reducible first | exact HB.out | apply below_alloc | apply pw_below_drewN | apply below_drew1 | refine below_set ?_ (IsS100.ge HI169.out)) | exact HB.out)⟩
                · rw [if_neg c26] at H
                  have c26b0 : (t183 == x34_1) = false := beq_eq_false_iff_ne.mpr c26
                  have c26b1 : (t183 != x34_1) = true := bne_iff_ne.mpr c26
                  obtain rfl := Option.some.inj H
                  have p182 : 0 ≤ (x34_1 : Int) := of_decide_eq_true (by first | (with_reducible assumption) | assumption)
                  have q182 : x34_1 < (t178.length : Int) := of_decide_eq_true (by first | (with_reducible assumption) | assumption)
                  obtain ⟨ad182, e182, hx182_0⟩ := Kd.at_string (Kd.R_reads' HO_32.out).2.2 x34_1 p182 q182
                  cases e182
                  replace p182 := eq_true p182
                  replace q182 := eq_true q182
                  go_wp2_with (first | ((with_reducible refine gate_callee (f := 21) rfl ?_); refine goesL_ (some 42) rfl rfl Try.func21 (by kernel_rfl) rfl #[.pointer (some ⟨g169, 0, none⟩), .string (rdOf ByteArray.empty t178 x34_1)] rfl (by (try simp only [List.map_toArray, List.map_cons, List.map_nil]); first | done | rfl | (simp only [List.length_drop, List.length_take]; rfl) | (refine congrArg (fun z_ => #[z_]) (congrArg (Value.int IntKind.u64) (Eq.symm (Go.Proofs.YtjfklfmfeghjnabAid.wrap_len _ (by omega)))))) ?_; (with_reducible refine (dict_Dict_Find.calls g169 x170000_1 (rdOf ByteArray.empty t178 x34_1) t183 t184 t185 w _ ?side1 ?side2 A24.out).mono ?_); (case side1 => repeat (first | (with_reducible first | exact HI169.out | apply IsS100.alloc | apply IsS100.drewN | apply IsS100.drew | apply IsS100.set_0) | exact HI169.out)); (case side2 => repeat (first | (with_reducible first | exact HB.out | apply below_alloc | apply pw_below_drewN | apply below_drew1 | refine below_set ?_ (IsS100.ge HI169.out)) | exact HB.out)); rintro e w38 ⟨rfl, hi, hb, hk⟩; refine ⟨_, rfl, ?_⟩; have n0_ := Aside0.mk (Kd.R_mono (Kd.R_keep (IsS100.apart (show IsS100 w _ g169 x170000_1 from by repeat (first | (with_reducible first | exact HI169.out | apply IsS100.alloc | apply IsS100.drewN | apply IsS100.drew | apply IsS100.set_0) | exact HI169.out)) (by (with_reducible repeat (first | apply Kd.R_alloc | apply Kd.R_drewN | apply Kd.R_drew)); exact HO_32.out) (by decide)) hk (fun _ h => h.2)) (fun _ h => h.1)); have n1_ := Aside0.mk (hb); have n2_ := Aside0.mk (hi); clear HO_32; clear HB; clear HI169; have HO_32 := n0_; have HB := n1_; have HI169 := n2_; clear n0_ n1_ n2_; (try clear hb); (try clear hb2); (try clear hk); (try clear hi)) | ((with_reducible refine gate_callee (f := 23) rfl ?_); refine goesL_ (some 48) rfl rfl Try.func23 (by kernel_rfl) rfl #[.pointer (some ⟨g169, 0, none⟩), .int .i64 x34_1] rfl (by (try simp only [List.map_toArray, List.map_cons, List.map_nil]); first | done | rfl | (simp only [List.length_drop, List.length_take]; rfl) | (refine congrArg (fun z_ => #[z_]) (congrArg (Value.int IntKind.u64) (Eq.symm (Go.Proofs.YtjfklfmfeghjnabAid.wrap_len _ (by omega)))))) ?_; (with_reducible refine (dict_Dict_Text.calls g169 t185 x34_1 t186 t187 t188 w _ ?side1 ?side2 A25.out).mono ?_); (case side1 => repeat (first | (with_reducible first | exact HI169.out | apply IsS100.alloc | apply IsS100.drewN | apply IsS100.drew | apply IsS100.set_0) | exact HI169.out)); (case side2 => repeat (first | (with_reducible first | exact HB.out | apply below_alloc | apply pw_below_drewN | apply below_drew1 | refine below_set ?_ (IsS100.ge HI169.out)) | exact HB.out)); rintro e w39 ⟨rfl, hi, hb, hk⟩; refine ⟨_, rfl, ?_⟩; have n0_ := Aside0.mk (Kd.R_mono (Kd.R_keep (IsS100.apart (show IsS100 w _ g169 t185 from by repeat (first | (with_reducible first | exact HI169.out | apply IsS100.alloc | apply IsS100.drewN | apply IsS100.drew | apply IsS100.set_0) | exact HI169.out)) (by (with_reducible repeat (first | apply Kd.R_alloc | apply Kd.R_drewN | apply Kd.R_drew)); exact HO_32.out) (by decide)) hk (fun _ h => h.2)) (fun _ h => h.1)); have n1_ := Aside0.mk (hb); have n2_ := Aside0.mk (hi); clear HO_32; clear HB; clear HI169; have HO_32 := n0_; have HB := n1_; have HI169 := n2_; clear n0_ n1_ n2_; (try clear hb); (try clear hb2); (try clear hk); (try clear hi)))
                  go_ret
                  exact ⟨by first | rfl | (simp [errW_none, errW_some] <;> rfl) | (simp [*, errW_none, errW_some] <;> rfl), by repeat (first | (with_reducible first | exact HB.out | apply below_alloc | apply pw_below_drewN | apply below_drew1 | refine below_set ?_ (IsS100.ge HI169.out)) | exact HB.out)⟩
              · rw [if_neg c23] at H
                exact absurd H (by simp)
            · rw [if_neg c22] at H
              exact absurd H (by simp)
          · rw [if_neg c21] at H
            have c21b0 : decide (x34_1 < (t178.length : Int)) = false := decide_eq_false c21
            clear c21
            have H' := Aside0.mk H
            clear H
            go_wp2
            go_loopg [70] k1 (fun kq v70 w' => ∃ (x70_2 : Int), v70 = .int .i64 x70_2 ∧ Aside0 (tachographlaw13_DictOf.l1 kq l0 (l0.length : Int) x70_2 = some r) ∧ Aside0 (kq ≤ k1) ∧ Aside0 (Below w.heap.size w w'))
            case atStart => exact ⟨(0), (by first | rfl | (simp; done) | (simp [*]; done)), H', ⟨Nat.le_refl _⟩, ⟨by repeat (first | (with_reducible first | exact HB.out | apply below_alloc | apply pw_below_drewN | apply below_drew1 | refine below_set ?_ (IsS100.ge HI169.out)) | exact HB.out)⟩⟩
            case round =>
              clear H'
              try clear c1
              try clear p1
              try clear q1
              try clear hx1
              try clear c2
              try clear p2
              try clear c3
              try clear c4
              try clear p6
              try clear c11
              try clear c15
              try clear p18
              try clear q18
              try clear hx18
              try clear c19
              try clear c21
              try clear c21b0
              try clear c22
              try clear c22b0
              try clear c23
              try clear c23b0
              try clear c24
              try clear c25
              try clear c26
              try clear c26b0
              try clear c26b1
              try clear c27
              try clear c28
              try clear c28b0
              try clear c28b1
              try clear c29
              try clear hx182_0
              try clear p182
              try clear p2
              try clear q182
              obtain ⟨x70_2, rfl, HA, HK2, HB⟩ := hrel
              cases gk with
              | zero => exact absurd HA.out (by simp [tachographlaw13_DictOf.l1])
              | succ k2 =>
                have H := HA.out
                clear HA
                simp only [tachographlaw13_DictOf.l1] at H
                by_cases c40 : x70_2 < (l0.length : Int)
                · rw [if_pos c40] at H
                  have c40b0 : decide (x70_2 < (l0.length : Int)) = true := decide_eq_true c40
                  clear c40
                  by_cases c41 : 0 ≤ x70_2
                  · rw [if_pos c41] at H
                    have c41b0 : decide (0 ≤ x70_2) = true := decide_eq_true c41
                    clear c41
                    by_cases c42 : x70_2 < (l0.length : Int)
                    · rw [if_pos c42] at H
                      have c42b0 : decide (x70_2 < (l0.length : Int)) = true := decide_eq_true c42
                      clear c42
                      replace H := Option.bind_eq_some_iff.mp H
                      obtain ⟨t192, A430, H⟩ := H
                      replace H : ((tachographref13_Runs.f k2 ((rd_T44 l0 x70_2).f1)).bind fun t195 => (if (t192.length : Int) = (t195.length : Int) then (tachographlaw13_DictOf.l2 k2 t192 t195 0 l0 (l0.length : Int) x70_2 (t192.length : Int) 0 ((rd_T44 l0 x70_2).f0) ((rd_T44 l0 x70_2).f1)) else (some false))) = some r := H
                      have A43 := Aside0.mk A430
                      clear A430
                      replace H := Option.bind_eq_some_iff.mp H
                      obtain ⟨t195, A440, H⟩ := H
                      replace H : (if (t192.length : Int) = (t195.length : Int) then (tachographlaw13_DictOf.l2 k2 t192 t195 0 l0 (l0.length : Int) x70_2 (t192.length : Int) 0 ((rd_T44 l0 x70_2).f0) ((rd_T44 l0 x70_2).f1)) else (some false)) = some r := H
                      have A44 := Aside0.mk A440
                      clear A440
                      by_cases c45 : (t192.length : Int) = (t195.length : Int)
                      · rw [if_pos c45] at H
                        have c45b0 : ((t192.length : Int) == (t195.length : Int)) = true := beq_iff_eq.mpr c45
                        have c45b1 : ((t192.length : Int) != (t195.length : Int)) = false := bne_eq_false_iff_eq.mpr c45
                        have c45b2 : (t192.length == t195.length) = true := by first | simpa using c45 | (simp at c45 ⊢; omega)
                        clear c45
                        have H' := Aside0.mk H
                        clear H
                        have p190 : 0 ≤ (x70_2 : Int) := of_decide_eq_true (by first | (with_reducible assumption) | assumption)
                        have q190 : x70_2 < (l0.length : Int) := of_decide_eq_true (by first | (with_reducible assumption) | assumption)
                        obtain ⟨ad190, A190_1, c190_1, e190, hx190_0, hx190_1, hl190_1, hi190_1⟩ := at_T44 HR0.out x70_2 p190 q190
                        cases e190
                        replace hx190_0 := (HB.out.cell (World.block_lt_of_cell? w _ hx190_0)).trans hx190_0
                        replace hx190_1 := (HB.out.cell (World.block_lt_of_cell? w _ hx190_1)).trans hx190_1
                        have HR190_1 := Aside0.mk hi190_1
                        have HC190_1 := Aside0.mk hl190_1
                        clear hi190_1 hl190_1
                        replace p190 := eq_true p190
                        replace q190 := eq_true q190
                        try go_wp2_with (first | ((with_reducible refine gate_dst (N := 11) rfl ?_); refine box_event ?hg (N := 11) ?hd (cs := #[.int .u64 0, .slice none 0 0]) (t := 44) ?hr ?_; (case hd => rfl); (case hg => rfl); (case hr => first | (go_simp; done) | (go_simp; rfl)); intro gb191 hg w46 hbox hb; have n0_ := Aside0.mk (below_step (by repeat (first | (with_reducible first | exact HB.out | apply below_alloc | apply pw_below_drewN | apply below_drew1) | exact HB.out)) hb); have n1_ := Aside0.mk (hbox); have n2_ := Aside0.mk ((by rw [hg]; exact (below_size (by repeat (first | (with_reducible first | exact HB.out | apply below_alloc | apply pw_below_drewN | apply below_drew1) | exact HB.out))) : w.heap.size ≤ gb191)); have n3_ := Aside0.mk ((by rw [hg]; exact (below_size (by repeat (first | (with_reducible first | exact HB.out | apply below_alloc | apply pw_below_drewN | apply below_drew1) | exact HB.out))) : w.heap.size ≤ gb191)); clear HB; have HB := n0_; have BK191 := n1_; have GW191 := n2_; have GE191 := n3_; clear n0_ n1_ n2_ n3_; clear hb hbox hg; have hcz47_0 : w46.cell? ⟨gb191, 0, none⟩ = some (.int .u64 0) := (blk_cell BK191.out 0).trans rfl; have hcz47_1 : w46.cell? ⟨gb191, 1, none⟩ = some (.slice none 0 0) := (blk_cell BK191.out 1).trans rfl; have hfz47_0 := blk_frozen BK191.out 0; have hfz47_1 := blk_frozen BK191.out 1))
                        have n0_ : Aside0 (((w46.setCell ⟨gb191, 0, none⟩ (.int .u64 ((rd_T44 l0 x70_2).f0))).setCell ⟨gb191, 1, none⟩ (.slice A190_1 ((rd_T44 l0 x70_2).f1).length c190_1)).heap[gb191]? = some (.cells #[.int .u64 ((rd_T44 l0 x70_2).f0), .slice A190_1 ((rd_T44 l0 x70_2).f1).length c190_1] 44 (0, 0))) := ⟨by (with_reducible repeat (first | refine blk_drewN ?_ _ | refine blk_drew ?_ | refine blk_alloc ?_ _)); refine blk_put (cs := #[.int .u64 ((rd_T44 l0 x70_2).f0), .slice none 0 0]) ?_ 1 _ rfl; (with_reducible repeat (first | refine blk_drewN ?_ _ | refine blk_drew ?_ | refine blk_alloc ?_ _)); refine blk_put (cs := #[.int .u64 0, .slice none 0 0]) ?_ 0 _ rfl; (with_reducible repeat (first | refine blk_drewN ?_ _ | refine blk_drew ?_ | refine blk_alloc ?_ _)); exact BK191.out⟩
                        have n1_ : Aside0 (Below w.heap.size w ((w46.setCell ⟨gb191, 0, none⟩ (.int .u64 ((rd_T44 l0 x70_2).f0))).setCell ⟨gb191, 1, none⟩ (.slice A190_1 ((rd_T44 l0 x70_2).f1).length c190_1))) := ⟨by repeat (first | (with_reducible first | exact HB.out | apply below_alloc | apply pw_below_drewN | apply below_drew1 | refine below_set ?_ GE191.out) | exact HB.out)⟩
                        (try clear BK191)
                        (try clear HB)
                        generalize ((w46.setCell ⟨gb191, 0, none⟩ (.int .u64 ((rd_T44 l0 x70_2).f0))).setCell ⟨gb191, 1, none⟩ (.slice A190_1 ((rd_T44 l0 x70_2).f1).length c190_1)) = w48 at n0_ n1_ ⊢
                        have BK191 := n0_
                        have HB := n1_
                        clear n0_ n1_
                        have n0_ := Aside0.mk (blk_drew BK191.out)
                        have n1_ := Aside0.mk (below_drew1 HB.out)
                        clear BK191
                        clear HB
                        have BK191 := n0_
                        have HB := n1_
                        clear n0_ n1_
                        refine start_ (n := 8) (S := fun w' => w'.cell? ⟨gb191, 0, none⟩ = some (.int .u64 ((rd_T44 l0 x70_2).f0)) ∧ w'.cell? ⟨gb191, 1, none⟩ = some (.slice A190_1 ((rd_T44 l0 x70_2).f1).length c190_1)) (ds := []) #[false, false, false, false, false, false, false, false] (by kernel_rfl) rfl rfl ⟨(blk_cell BK191.out 0).trans rfl, (blk_cell BK191.out 1).trans rfl⟩ (fun hHeld => ?_); refine with_tabW tachographlaw13_DictOf.tab17 tachographlaw13_DictOf.bits17 (fun HT_ HW_ => ?_)
                        generalize w48.drew = w49 at BK191 HB hHeld ⊢
                        refine pure_ (i := 0) (N := some 74) (v := ?_) (a' := ?_) #[true, false, false, false, false, false, false, false] rfl rfl (any_of HT_.out (by kernel_rfl)) (fun _ _ _ h => h) (Or.inl ⟨by rfl, ?_⟩) ?_ ?_
                        rotate_left
                        · intro w'
                          go_simp
                          with_reducible rfl
                        rotate_left
                        · simp only [Act.put, List.setIfInBounds_toArray, List.set_cons_zero, List.set_cons_succ, i64_w, i32_w]
                          rfl
                        refine pure_ (i := 3) (N := some 77) (v := ?_) (a' := ?_) #[true, false, false, true, false, false, false, false] rfl rfl (any_of HT_.out (by kernel_rfl)) (fun _ _ _ h => h) (Or.inl ⟨by rfl, ?_⟩) ?_ ?_
                        rotate_left
                        · intro w'
                          go_simp
                          with_reducible rfl
                        rotate_left
                        · simp only [Act.put, List.setIfInBounds_toArray, List.set_cons_zero, List.set_cons_succ, i64_w, i32_w]
                          rfl
                        refine take_ (i := 1) (N := some 75) (v := ?_) (a' := ?_) #[true, true, false, true, false, false, false, false] rfl rfl (take_ofW HT_.out HW_.out (by kernel_rfl)) (fun _ _ _ h => h) (Or.inl ⟨by rfl, ?_⟩) hHeld ?_ ?_
                        rotate_left
                        · rintro w' ⟨s0, s1⟩
                          go_simp
                          with_reducible rfl
                        rotate_left
                        · simp only [Act.put, List.setIfInBounds_toArray, List.set_cons_zero, List.set_cons_succ, i64_w, i32_w]
                          rfl
                        refine take_ (i := 4) (N := some 78) (v := ?_) (a' := ?_) #[true, true, false, true, true, false, false, false] rfl rfl (take_ofW HT_.out HW_.out (by kernel_rfl)) (fun _ _ _ h => h) (Or.inl ⟨by rfl, ?_⟩) hHeld ?_ ?_
                        rotate_left
                        · rintro w' ⟨s0, s1⟩
                          go_simp
                          with_reducible rfl
                        rotate_left
                        · simp only [Act.put, List.setIfInBounds_toArray, List.set_cons_zero, List.set_cons_succ, i64_w, i32_w]
                          rfl
                        refine one_ (i := 2) (N := some 76) #[true, true, true, true, true, false, false, false] rfl rfl (one_of HT_.out (by kernel_rfl)) (by decide) (fun K hK => ?_)
                        refine goes_ Try.func27 (by kernel_rfl) rfl #[.slice A190_1 ((rd_T44 l0 x70_2).f1).length c190_1] (by rfl) rfl rfl (by (try simp only [List.map_toArray, List.map_cons, List.map_nil]); first | done | rfl | (simp only [List.length_drop, List.length_take]; rfl) | (refine congrArg (fun z_ => #[z_]) (congrArg (Value.int IntKind.u64) (Eq.symm (Go.Proofs.YtjfklfmfeghjnabAid.wrap_len _ (by omega)))))) ?_
                        with_reducible refine (dict_Runs.calls k2 _ _ ((rd_T44 l0 x70_2).f1) t192 _ ?side1 ?side2 A43.out).mono ?_
                        (case side1 => repeat (first | exact (Kd.C_below HR190_1.out HB.out) | (with_reducible refine Kd.C_alloc ?_ _) | (with_reducible refine Kd.C_drewN ?_ _) | (with_reducible refine Kd.C_drew ?_)))
                        (case side2 => exact HC190_1.out)
                        rintro e w50 ⟨v193, rfl, ho0, hb⟩
                        refine ⟨_, rfl, ?_⟩
                        have n0_ := Aside0.mk (Kd.R_lower ho0 (below_size (by repeat (first | (with_reducible first | exact HB.out | apply below_alloc | apply pw_below_drewN | apply below_drew1 | refine below_set ?_ GE191.out) | exact HB.out))))
                        have n1_ := Aside0.mk (blk_below (g := gb191) (o := .cells #[.int .u64 ((rd_T44 l0 x70_2).f0), .slice A190_1 ((rd_T44 l0 x70_2).f1).length c190_1] 44 (0, 0)) (by (with_reducible repeat (first | refine blk_drewN ?_ _ | refine blk_drew ?_ | refine blk_alloc ?_ _)); exact BK191.out) hb)
                        have n2_ := Aside0.mk (below_step (by repeat (first | (with_reducible first | exact HB.out | apply below_alloc | apply pw_below_drewN | apply below_drew1 | refine below_set ?_ GE191.out) | exact HB.out)) hb)
                        clear BK191
                        clear HB
                        have HO194 := n0_
                        have BK191 := n1_
                        have HB := n2_
                        clear n0_ n1_ n2_
                        (try clear hb)
                        (try clear hb2)
                        (try clear hk)
                        (try clear hi)
                        (try clear ho0)
                        refine hK.out _ _ ⟨(blk_cell BK191.out 0).trans rfl, (blk_cell BK191.out 1).trans rfl⟩ (fun hHeld => ?_)
                        clear hK K
                        refine norm_ (a' := ?_) ?_ ?_
                        rotate_left
                        · show Act.put _ (some 76) _ = _
                          simp only [Act.put, List.setIfInBounds_toArray, List.set_cons_zero, List.set_cons_succ, i64_w, i32_w]
                          rfl
                        refine one_ (i := 5) (N := some 79) #[true, true, true, true, true, true, false, false] rfl rfl (one_of HT_.out (by kernel_rfl)) (by decide) (fun K hK => ?_)
                        refine goes_ Try.func28 (by kernel_rfl) rfl #[.slice A190_1 ((rd_T44 l0 x70_2).f1).length c190_1] (by rfl) rfl rfl (by (try simp only [List.map_toArray, List.map_cons, List.map_nil]); first | done | rfl | (simp only [List.length_drop, List.length_take]; rfl) | (refine congrArg (fun z_ => #[z_]) (congrArg (Value.int IntKind.u64) (Eq.symm (Go.Proofs.YtjfklfmfeghjnabAid.wrap_len _ (by omega)))))) ?_
                        with_reducible refine (tachographref13_Runs.calls k2 _ _ ((rd_T44 l0 x70_2).f1) t195 _ ?side1 ?side2 A44.out).mono ?_
                        (case side1 => repeat (first | exact (Kd.C_below HR190_1.out HB.out) | (with_reducible refine Kd.C_alloc ?_ _) | (with_reducible refine Kd.C_drewN ?_ _) | (with_reducible refine Kd.C_drew ?_)))
                        (case side2 => exact HC190_1.out)
                        rintro e w51 ⟨v196, rfl, ho0, hb⟩
                        refine ⟨_, rfl, ?_⟩
                        have n0_ := Aside0.mk (Kd.R_elder' (by (with_reducible repeat (first | apply Kd.R_alloc | apply Kd.R_drewN | apply Kd.R_drew)); exact HO194.out) (Kd.R_base ho0) hb)
                        have n1_ := Aside0.mk (Kd.R_lower (Kd.R_new' ho0 (Kd.R_lt (by (with_reducible repeat (first | apply Kd.R_alloc | apply Kd.R_drewN | apply Kd.R_drew)); exact HO194.out))) (below_size (by repeat (first | (with_reducible first | exact HB.out | apply below_alloc | apply pw_below_drewN | apply below_drew1 | refine below_set ?_ GE191.out) | exact HB.out))))
                        have n2_ := Aside0.mk (blk_below (g := gb191) (o := .cells #[.int .u64 ((rd_T44 l0 x70_2).f0), .slice A190_1 ((rd_T44 l0 x70_2).f1).length c190_1] 44 (0, 0)) (by (with_reducible repeat (first | refine blk_drewN ?_ _ | refine blk_drew ?_ | refine blk_alloc ?_ _)); exact BK191.out) hb)
                        have n3_ := Aside0.mk (below_step (by repeat (first | (with_reducible first | exact HB.out | apply below_alloc | apply pw_below_drewN | apply below_drew1 | refine below_set ?_ GE191.out) | exact HB.out)) hb)
                        clear HO194
                        clear BK191
                        clear HB
                        have HO194 := n0_
                        have HO197 := n1_
                        have BK191 := n2_
                        have HB := n3_
                        clear n0_ n1_ n2_ n3_
                        (try clear hb)
                        (try clear hb2)
                        (try clear hk)
                        (try clear hi)
                        (try clear ho0)
                        refine hK.out _ _ ⟨(blk_cell BK191.out 0).trans rfl, (blk_cell BK191.out 1).trans rfl⟩ (fun hHeld => ?_)
                        clear hK K
                        refine norm_ (a' := ?_) ?_ ?_
                        rotate_left
                        · show Act.put _ (some 79) _ = _
                          simp only [Act.put, List.setIfInBounds_toArray, List.set_cons_zero, List.set_cons_succ, i64_w, i32_w]
                          rfl
                        refine pure_ (i := 6) (N := some 12) (v := ?_) (a' := ?_) #[true, true, true, true, true, true, true, false] rfl rfl (any_of HT_.out (by kernel_rfl)) (fun _ _ _ h => h) (Or.inl ⟨by rfl, ?_⟩) ?_ ?_
                        rotate_left
                        · intro w'
                          go_simp
                          with_reducible rfl
                        rotate_left
                        · simp only [Act.put, List.setIfInBounds_toArray, List.set_cons_zero, List.set_cons_succ, i64_w, i32_w]
                          rfl
                        refine pure_ (i := 7) (N := some 13) (v := ?_) (a' := ?_) #[true, true, true, true, true, true, true, true] rfl rfl (any_of HT_.out (by kernel_rfl)) (fun _ _ _ h => h) (Or.inl ⟨by rfl, ?_⟩) ?_ ?_
                        rotate_left
                        · intro w'
                          go_simp
                          with_reducible rfl
                        rotate_left
                        · simp only [Act.put, List.setIfInBounds_toArray, List.set_cons_zero, List.set_cons_succ, i64_w, i32_w]
                          rfl
                        refine done_ (done_of HT_.out (by kernel_rfl)) ?_
                        obtain ⟨Ao52, co52, eo52⟩ := Kd.R_slice HO194.out
                        subst eo52
                        obtain ⟨Ao53, co53, eo53⟩ := Kd.R_slice HO197.out
                        subst eo53
                        try go_wp2
                        go_loopg [14, 87] k2 (fun kq v14 v87 w' => ∃ (x14_3 : Int) (x87_3 : Int), v14 = .int .i64 x14_3 ∧ v87 = .int .i64 x87_3 ∧ Aside0 (tachographlaw13_DictOf.l2 kq t192 t195 x14_3 l0 (l0.length : Int) x70_2 (t192.length : Int) x87_3 ((rd_T44 l0 x70_2).f0) ((rd_T44 l0 x70_2).f1) = some r) ∧ Aside0 (kq ≤ k2) ∧ Aside0 (Kd.R (Kd.int .i64) 3 w' w.heap.size (fun k_ => some k_ ≠ ((.slice Ao53 t195.length co53) : Value).ownBlock) (.slice Ao52 t192.length co52) t192) ∧ Aside0 (Kd.R (Kd.int .i64) 3 w' w.heap.size (fun k_ => some k_ ≠ ((.slice Ao52 t192.length co52) : Value).ownBlock) (.slice Ao53 t195.length co53) t195) ∧ Aside0 (w'.heap[gb191]? = some (.cells #[.int .u64 ((rd_T44 l0 x70_2).f0), (.slice A190_1 ((rd_T44 l0 x70_2).f1).length c190_1)] 44 (0, 0))) ∧ Aside0 (Below w.heap.size w w'))
                        case atStart => exact ⟨(0), (0), (by first | rfl | (simp; done) | (simp [*]; done)), (by first | rfl | (simp; done) | (simp [*]; done)), H', ⟨Nat.le_refl _⟩, ⟨by (with_reducible repeat (first | apply Kd.R_alloc | apply Kd.R_drewN | apply Kd.R_drew)); exact Kd.R_mono HO194.out (fun _ hk => hk.2)⟩, ⟨by (with_reducible repeat (first | apply Kd.R_alloc | apply Kd.R_drewN | apply Kd.R_drew)); exact Kd.R_mono HO197.out (fun _ hk => hk.2)⟩, ⟨by (with_reducible repeat (first | refine blk_drewN ?_ _ | refine blk_drew ?_ | refine blk_alloc ?_ _)); exact BK191.out⟩, ⟨by repeat (first | (with_reducible first | exact HB.out | apply below_alloc | apply pw_below_drewN | apply below_drew1 | refine below_set ?_ GE191.out) | exact HB.out)⟩⟩
                        case round =>
                          clear H'
                          try clear c1
                          try clear p1
                          try clear q1
                          try clear hx1
                          try clear c2
                          try clear p2
                          try clear c3
                          try clear c4
                          try clear p6
                          try clear c11
                          try clear c15
                          try clear p18
                          try clear q18
                          try clear hx18
                          try clear c19
                          try clear p19
                          try clear q19
                          try clear hx19
                          try clear c21
                          try clear c21b0
                          try clear c22
                          try clear c22b0
                          try clear c23
                          try clear c23b0
                          try clear c24
                          try clear c25
                          try clear c26
                          try clear c26b0
                          try clear c26b1
                          try clear c27
                          try clear c28
                          try clear c28b0
                          try clear c28b1
                          try clear c29
                          try clear c40
                          try clear c40b0
                          try clear c41
                          try clear c41b0
                          try clear c42
                          try clear c42b0
                          try clear c45
                          try clear c45b0
                          try clear c45b1
                          try clear c45b2
                          try clear hcz47_0
                          try clear hcz47_1
                          try clear hfz47_0
                          try clear hfz47_1
                          try clear hx182_0
                          try clear hx190_0
                          try clear hx190_1
                          try clear p1
                          try clear p18
                          try clear p182
                          try clear p190
                          try clear p2
                          try clear p6
                          try clear q1
                          try clear q18
                          try clear q182
                          try clear q190
                          obtain ⟨x14_3, x87_3, rfl, rfl, HA, HK3, HO_12, HO_13, BK191, HB⟩ := hrel
                          cases gk with
                          | zero => exact absurd HA.out (by simp [tachographlaw13_DictOf.l2])
                          | succ k3 =>
                            have H := HA.out
                            clear HA
                            simp only [tachographlaw13_DictOf.l2] at H
                            by_cases c54 : x87_3 < (t192.length : Int)
                            · rw [if_pos c54] at H
                              have c54b0 : decide (x87_3 < (t192.length : Int)) = true := decide_eq_true c54
                              clear c54
                              by_cases c55 : 0 ≤ x87_3
                              · rw [if_pos c55] at H
                                have c55b0 : decide (0 ≤ x87_3) = true := decide_eq_true c55
                                clear c55
                                by_cases c56 : x87_3 < (t192.length : Int)
                                · rw [if_pos c56] at H
                                  have c56b0 : decide (x87_3 < (t192.length : Int)) = true := decide_eq_true c56
                                  clear c56
                                  by_cases c57 : x87_3 < (t195.length : Int)
                                  · rw [if_pos c57] at H
                                    have c57b0 : decide (x87_3 < (t195.length : Int)) = true := decide_eq_true c57
                                    clear c57
                                    by_cases c58 : (rd t192 x87_3) = (rd t195 x87_3)
                                    · rw [if_pos c58] at H
                                      have c58b0 : ((rd t192 x87_3) == (rd t195 x87_3)) = true := beq_iff_eq.mpr c58
                                      have c58b1 : ((rd t192 x87_3) != (rd t195 x87_3)) = false := bne_eq_false_iff_eq.mpr c58
                                      clear c58
                                      by_cases c59 : (rd t192 x87_3) < 1
                                      · rw [if_pos c59] at H
                                        have c59b0 : decide ((rd t192 x87_3) < 1) = true := decide_eq_true c59
                                        clear c59
                                        obtain rfl := Option.some.inj H
                                        try go_wp2
                                        have n0_ := Aside0.mk (Kd.R_drew HO_12.out)
                                        have n1_ := Aside0.mk (Kd.R_drew HO_13.out)
                                        have n2_ := Aside0.mk (blk_drew BK191.out)
                                        have n3_ := Aside0.mk (below_drew1 HB.out)
                                        clear HO_12
                                        clear HO_13
                                        clear BK191
                                        clear HB
                                        have HO_12 := n0_
                                        have HO_13 := n1_
                                        have BK191 := n2_
                                        have HB := n3_
                                        clear n0_ n1_ n2_ n3_
                                        have p198 : 0 ≤ (x87_3 : Int) := of_decide_eq_true (by first | (with_reducible assumption) | assumption)
                                        have q198 : x87_3 < (t192.length : Int) := of_decide_eq_true (by first | (with_reducible assumption) | assumption)
                                        obtain ⟨ad198, e198, hx198_0⟩ := Kd.at_int (Kd.R_reads' HO_12.out).2.2 x87_3 p198 q198
                                        cases e198
                                        replace p198 := eq_true p198
                                        replace q198 := eq_true q198
                                        have p199 : 0 ≤ (x87_3 : Int) := of_decide_eq_true (by first | (with_reducible assumption) | assumption)
                                        have q199 : x87_3 < (t195.length : Int) := of_decide_eq_true (by first | (with_reducible assumption) | assumption)
                                        obtain ⟨ad199, e199, hx199_0⟩ := Kd.at_int (Kd.R_reads' HO_13.out).2.2 x87_3 p199 q199
                                        cases e199
                                        replace p199 := eq_true p199
                                        replace q199 := eq_true q199
                                        have p200 : 0 ≤ (x87_3 : Int) := of_decide_eq_true (by first | (with_reducible assumption) | assumption)
                                        have q200 : x87_3 < (t192.length : Int) := of_decide_eq_true (by first | (with_reducible assumption) | assumption)
                                        obtain ⟨ad200, e200, hx200_0⟩ := Kd.at_int (Kd.R_reads' HO_12.out).2.2 x87_3 p200 q200
                                        obtain rfl : ad198 = ad200 := (by injection e200)
                                        replace p200 := eq_true p200
                                        replace q200 := eq_true q200
                                        refine start_ (n := 16) (S := fun w' => w'.cell? (ad198.add (x87_3).toNat) = some (.int .i64 (rd t192 x87_3)) ∧ w'.cell? (ad199.add (x87_3).toNat) = some (.int .i64 (rd t195 x87_3)) ∧ w'.cell? (ad198.add (x87_3).toNat) = some (.int .i64 (rd t192 x87_3))) (ds := []) #[false, false, false, false, false, false, false, false, false, false, false, false, false, false, false, false] (by kernel_rfl) rfl rfl ⟨hx198_0, hx199_0, hx200_0⟩ (fun hHeld => ?_); refine with_tabW tachographlaw13_DictOf.tab24 tachographlaw13_DictOf.bits24 (fun HT_ HW_ => ?_)
                                        generalize wr.drew = w60 at HO_12 HO_13 BK191 HB hx198_0 hx199_0 hx200_0 hHeld ⊢
                                        refine pure_ (i := 0) (N := some 90) (v := ?_) (a' := ?_) #[true, false, false, false, false, false, false, false, false, false, false, false, false, false, false, false] rfl rfl (any_of HT_.out (by kernel_rfl)) (fun _ _ _ h => h) (Or.inl ⟨by rfl, ?_⟩) ?_ ?_
                                        rotate_left
                                        · intro w'
                                          go_simp
                                          with_reducible rfl
                                        rotate_left
                                        · simp only [Act.put, List.setIfInBounds_toArray, List.set_cons_zero, List.set_cons_succ, i64_w, i32_w]
                                          rfl
                                        refine pure_ (i := 1) (N := some 91) (v := ?_) (a' := ?_) #[true, true, false, false, false, false, false, false, false, false, false, false, false, false, false, false] rfl rfl (any_of HT_.out (by kernel_rfl)) (fun _ _ _ h => h) (Or.inl ⟨by rfl, ?_⟩) ?_ ?_
                                        rotate_left
                                        · intro w'
                                          go_simp
                                          with_reducible rfl
                                        rotate_left
                                        · simp only [Act.put, List.setIfInBounds_toArray, List.set_cons_zero, List.set_cons_succ, i64_w, i32_w]
                                          rfl
                                        refine pure_ (i := 2) (N := some 92) (v := ?_) (a' := ?_) #[true, true, true, false, false, false, false, false, false, false, false, false, false, false, false, false] rfl rfl (any_of HT_.out (by kernel_rfl)) (fun _ _ _ h => h) (Or.inl ⟨by rfl, ?_⟩) ?_ ?_
                                        rotate_left
                                        · intro w'
                                          go_simp
                                          with_reducible rfl
                                        rotate_left
                                        · simp only [Act.put, List.setIfInBounds_toArray, List.set_cons_zero, List.set_cons_succ, i64_w, i32_w]
                                          rfl
                                        refine pure_ (i := 4) (N := some 94) (v := ?_) (a' := ?_) #[true, true, true, false, true, false, false, false, false, false, false, false, false, false, false, false] rfl rfl (any_of HT_.out (by kernel_rfl)) (fun _ _ _ h => h) (Or.inl ⟨by rfl, ?_⟩) ?_ ?_
                                        rotate_left
                                        · intro w'
                                          go_simp
                                          with_reducible rfl
                                        rotate_left
                                        · simp only [Act.put, List.setIfInBounds_toArray, List.set_cons_zero, List.set_cons_succ, i64_w, i32_w]
                                          rfl
                                        refine pure_ (i := 5) (N := some 95) (v := ?_) (a' := ?_) #[true, true, true, false, true, true, false, false, false, false, false, false, false, false, false, false] rfl rfl (any_of HT_.out (by kernel_rfl)) (fun _ _ _ h => h) (Or.inl ⟨by rfl, ?_⟩) ?_ ?_
                                        rotate_left
                                        · intro w'
                                          go_simp
                                          with_reducible rfl
                                        rotate_left
                                        · simp only [Act.put, List.setIfInBounds_toArray, List.set_cons_zero, List.set_cons_succ, i64_w, i32_w]
                                          rfl
                                        refine pure_ (i := 6) (N := some 96) (v := ?_) (a' := ?_) #[true, true, true, false, true, true, true, false, false, false, false, false, false, false, false, false] rfl rfl (any_of HT_.out (by kernel_rfl)) (fun _ _ _ h => h) (Or.inl ⟨by rfl, ?_⟩) ?_ ?_
                                        rotate_left
                                        · intro w'
                                          go_simp
                                          with_reducible rfl
                                        rotate_left
                                        · simp only [Act.put, List.setIfInBounds_toArray, List.set_cons_zero, List.set_cons_succ, i64_w, i32_w]
                                          rfl
                                        refine take_ (i := 3) (N := some 93) (v := ?_) (a' := ?_) #[true, true, true, true, true, true, true, false, false, false, false, false, false, false, false, false] rfl rfl (take_ofW HT_.out HW_.out (by kernel_rfl)) (fun _ _ _ h => h) (Or.inl ⟨by rfl, ?_⟩) hHeld ?_ ?_
                                        rotate_left
                                        · rintro w' ⟨s0, s1, s2⟩
                                          go_simp
                                          with_reducible rfl
                                        rotate_left
                                        · simp only [Act.put, List.setIfInBounds_toArray, List.set_cons_zero, List.set_cons_succ, i64_w, i32_w]
                                          rfl
                                        refine take_ (i := 7) (N := some 97) (v := ?_) (a' := ?_) #[true, true, true, true, true, true, true, true, false, false, false, false, false, false, false, false] rfl rfl (take_ofW HT_.out HW_.out (by kernel_rfl)) (fun _ _ _ h => h) (Or.inl ⟨by rfl, ?_⟩) hHeld ?_ ?_
                                        rotate_left
                                        · rintro w' ⟨s0, s1, s2⟩
                                          go_simp
                                          with_reducible rfl
                                        rotate_left
                                        · simp only [Act.put, List.setIfInBounds_toArray, List.set_cons_zero, List.set_cons_succ, i64_w, i32_w]
                                          rfl
                                        refine pure_ (i := 8) (N := some 98) (v := ?_) (a' := ?_) #[true, true, true, true, true, true, true, true, true, false, false, false, false, false, false, false] rfl rfl (any_of HT_.out (by kernel_rfl)) (fun _ _ _ h => h) (Or.inl ⟨by rfl, ?_⟩) ?_ ?_
                                        rotate_left
                                        · intro w'
                                          go_simp
                                          with_reducible rfl
                                        rotate_left
                                        · simp only [Act.put, List.setIfInBounds_toArray, List.set_cons_zero, List.set_cons_succ, i64_w, i32_w]
                                          rfl
                                        refine pure_ (i := 9) (N := some 99) (v := ?_) (a' := ?_) #[true, true, true, true, true, true, true, true, true, true, false, false, false, false, false, false] rfl rfl (any_of HT_.out (by kernel_rfl)) (fun _ _ _ h => h) (Or.inl ⟨by rfl, ?_⟩) ?_ ?_
                                        rotate_left
                                        · intro w'
                                          go_simp
                                          with_reducible rfl
                                        rotate_left
                                        · simp only [Act.put, List.setIfInBounds_toArray, List.set_cons_zero, List.set_cons_succ, i64_w, i32_w]
                                          rfl
                                        refine pure_ (i := 10) (N := some 100) (v := ?_) (a' := ?_) #[true, true, true, true, true, true, true, true, true, true, true, false, false, false, false, false] rfl rfl (any_of HT_.out (by kernel_rfl)) (fun _ _ _ h => h) (Or.inl ⟨by rfl, ?_⟩) ?_ ?_
                                        rotate_left
                                        · intro w'
                                          go_simp
                                          with_reducible rfl
                                        rotate_left
                                        · simp only [Act.put, List.setIfInBounds_toArray, List.set_cons_zero, List.set_cons_succ, i64_w, i32_w]
                                          rfl
                                        refine pure_ (i := 11) (N := some 101) (v := ?_) (a' := ?_) #[true, true, true, true, true, true, true, true, true, true, true, true, false, false, false, false] rfl rfl (any_of HT_.out (by kernel_rfl)) (fun _ _ _ h => h) (Or.inl ⟨by rfl, ?_⟩) ?_ ?_
                                        rotate_left
                                        · intro w'
                                          go_simp
                                          with_reducible rfl
                                        rotate_left
                                        · simp only [Act.put, List.setIfInBounds_toArray, List.set_cons_zero, List.set_cons_succ, i64_w, i32_w]
                                          rfl
                                        refine pure_ (i := 12) (N := some 102) (v := ?_) (a' := ?_) #[true, true, true, true, true, true, true, true, true, true, true, true, true, false, false, false] rfl rfl (any_of HT_.out (by kernel_rfl)) (fun _ _ _ h => h) (Or.inl ⟨by rfl, ?_⟩) ?_ ?_
                                        rotate_left
                                        · intro w'
                                          go_simp
                                          with_reducible rfl
                                        rotate_left
                                        · simp only [Act.put, List.setIfInBounds_toArray, List.set_cons_zero, List.set_cons_succ, i64_w, i32_w]
                                          rfl
                                        refine take_ (i := 13) (N := some 103) (v := ?_) (a' := ?_) #[true, true, true, true, true, true, true, true, true, true, true, true, true, true, false, false] rfl rfl (take_ofW HT_.out HW_.out (by kernel_rfl)) (fun _ _ _ h => h) (Or.inl ⟨by rfl, ?_⟩) hHeld ?_ ?_
                                        rotate_left
                                        · rintro w' ⟨s0, s1, s2⟩
                                          go_simp
                                          with_reducible rfl
                                        rotate_left
                                        · simp only [Act.put, List.setIfInBounds_toArray, List.set_cons_zero, List.set_cons_succ, i64_w, i32_w]
                                          rfl
                                        refine pure_ (i := 14) (N := some 104) (v := ?_) (a' := ?_) #[true, true, true, true, true, true, true, true, true, true, true, true, true, true, true, false] rfl rfl (any_of HT_.out (by kernel_rfl)) (fun _ _ _ h => h) (Or.inl ⟨by rfl, ?_⟩) ?_ ?_
                                        rotate_left
                                        · intro w'
                                          go_simp
                                          with_reducible rfl
                                        rotate_left
                                        · simp only [Act.put, List.setIfInBounds_toArray, List.set_cons_zero, List.set_cons_succ, i64_w, i32_w]
                                          rfl
                                        refine pure_ (i := 15) (N := some 105) (v := ?_) (a' := ?_) #[true, true, true, true, true, true, true, true, true, true, true, true, true, true, true, true] rfl rfl (any_of HT_.out (by kernel_rfl)) (fun _ _ _ h => h) (Or.inl ⟨by rfl, ?_⟩) ?_ ?_
                                        rotate_left
                                        · intro w'
                                          go_simp
                                          with_reducible rfl
                                        rotate_left
                                        · simp only [Act.put, List.setIfInBounds_toArray, List.set_cons_zero, List.set_cons_succ, i64_w, i32_w]
                                          rfl
                                        refine done_ (done_of HT_.out (by kernel_rfl)) ?_
                                        try go_wp2
                                        go_ret
                                        exact ⟨by first | rfl | (simp [errW_none, errW_some] <;> rfl) | (simp [*, errW_none, errW_some] <;> rfl), by repeat (first | (with_reducible first | exact HB.out | apply below_alloc | apply pw_below_drewN | apply below_drew1 | refine below_set ?_ GE191.out) | exact HB.out)⟩
                                      · rw [if_neg c59] at H
                                        have c59b0 : decide ((rd t192 x87_3) < 1) = false := decide_eq_false c59
                                        clear c59
                                        have H' := Aside0.mk H
                                        clear H
                                        try go_wp2
                                        have n0_ := Aside0.mk (Kd.R_drew HO_12.out)
                                        have n1_ := Aside0.mk (Kd.R_drew HO_13.out)
                                        have n2_ := Aside0.mk (blk_drew BK191.out)
                                        have n3_ := Aside0.mk (below_drew1 HB.out)
                                        clear HO_12
                                        clear HO_13
                                        clear BK191
                                        clear HB
                                        have HO_12 := n0_
                                        have HO_13 := n1_
                                        have BK191 := n2_
                                        have HB := n3_
                                        clear n0_ n1_ n2_ n3_
                                        have p198 : 0 ≤ (x87_3 : Int) := of_decide_eq_true (by first | (with_reducible assumption) | assumption)
                                        have q198 : x87_3 < (t192.length : Int) := of_decide_eq_true (by first | (with_reducible assumption) | assumption)
                                        obtain ⟨ad198, e198, hx198_0⟩ := Kd.at_int (Kd.R_reads' HO_12.out).2.2 x87_3 p198 q198
                                        cases e198
                                        replace p198 := eq_true p198
                                        replace q198 := eq_true q198
                                        have p199 : 0 ≤ (x87_3 : Int) := of_decide_eq_true (by first | (with_reducible assumption) | assumption)
                                        have q199 : x87_3 < (t195.length : Int) := of_decide_eq_true (by first | (with_reducible assumption) | assumption)
                                        obtain ⟨ad199, e199, hx199_0⟩ := Kd.at_int (Kd.R_reads' HO_13.out).2.2 x87_3 p199 q199
                                        cases e199
                                        replace p199 := eq_true p199
                                        replace q199 := eq_true q199
                                        have p200 : 0 ≤ (x87_3 : Int) := of_decide_eq_true (by first | (with_reducible assumption) | assumption)
                                        have q200 : x87_3 < (t192.length : Int) := of_decide_eq_true (by first | (with_reducible assumption) | assumption)
                                        obtain ⟨ad200, e200, hx200_0⟩ := Kd.at_int (Kd.R_reads' HO_12.out).2.2 x87_3 p200 q200
                                        obtain rfl : ad198 = ad200 := (by injection e200)
                                        replace p200 := eq_true p200
                                        replace q200 := eq_true q200
                                        refine start_ (n := 16) (S := fun w' => w'.cell? (ad198.add (x87_3).toNat) = some (.int .i64 (rd t192 x87_3)) ∧ w'.cell? (ad199.add (x87_3).toNat) = some (.int .i64 (rd t195 x87_3)) ∧ w'.cell? (ad198.add (x87_3).toNat) = some (.int .i64 (rd t192 x87_3))) (ds := []) #[false, false, false, false, false, false, false, false, false, false, false, false, false, false, false, false] (by kernel_rfl) rfl rfl ⟨hx198_0, hx199_0, hx200_0⟩ (fun hHeld => ?_); refine with_tabW tachographlaw13_DictOf.tab24 tachographlaw13_DictOf.bits24 (fun HT_ HW_ => ?_)
                                        generalize wr.drew = w61 at HO_12 HO_13 BK191 HB hx198_0 hx199_0 hx200_0 hHeld ⊢
                                        refine pure_ (i := 0) (N := some 90) (v := ?_) (a' := ?_) #[true, false, false, false, false, false, false, false, false, false, false, false, false, false, false, false] rfl rfl (any_of HT_.out (by kernel_rfl)) (fun _ _ _ h => h) (Or.inl ⟨by rfl, ?_⟩) ?_ ?_
                                        rotate_left
                                        · intro w'
                                          go_simp
                                          with_reducible rfl
                                        rotate_left
                                        · simp only [Act.put, List.setIfInBounds_toArray, List.set_cons_zero, List.set_cons_succ, i64_w, i32_w]
                                          rfl
                                        refine pure_ (i := 1) (N := some 91) (v := ?_) (a' := ?_) #[true, true, false, false, false, false, false, false, false, false, false, false, false, false, false, false] rfl rfl (any_of HT_.out (by kernel_rfl)) (fun _ _ _ h => h) (Or.inl ⟨by rfl, ?_⟩) ?_ ?_
                                        rotate_left
                                        · intro w'
                                          go_simp
                                          with_reducible rfl
                                        rotate_left
                                        · simp only [Act.put, List.setIfInBounds_toArray, List.set_cons_zero, List.set_cons_succ, i64_w, i32_w]
                                          rfl
                                        refine pure_ (i := 2) (N := some 92) (v := ?_) (a' := ?_) #[true, true, true, false, false, false, false, false, false, false, false, false, false, false, false, false] rfl rfl (any_of HT_.out (by kernel_rfl)) (fun _ _ _ h => h) (Or.inl ⟨by rfl, ?_⟩) ?_ ?_
                                        rotate_left
                                        · intro w'
                                          go_simp
                                          with_reducible rfl
                                        rotate_left
                                        · simp only [Act.put, List.setIfInBounds_toArray, List.set_cons_zero, List.set_cons_succ, i64_w, i32_w]
                                          rfl
                                        refine pure_ (i := 4) (N := some 94) (v := ?_) (a' := ?_) #[true, true, true, false, true, false, false, false, false, false, false, false, false, false, false, false] rfl rfl (any_of HT_.out (by kernel_rfl)) (fun _ _ _ h => h) (Or.inl ⟨by rfl, ?_⟩) ?_ ?_
                                        rotate_left
                                        · intro w'
                                          go_simp
                                          with_reducible rfl
                                        rotate_left
                                        · simp only [Act.put, List.setIfInBounds_toArray, List.set_cons_zero, List.set_cons_succ, i64_w, i32_w]
                                          rfl
                                        refine pure_ (i := 5) (N := some 95) (v := ?_) (a' := ?_) #[true, true, true, false, true, true, false, false, false, false, false, false, false, false, false, false] rfl rfl (any_of HT_.out (by kernel_rfl)) (fun _ _ _ h => h) (Or.inl ⟨by rfl, ?_⟩) ?_ ?_
                                        rotate_left
                                        · intro w'
                                          go_simp
                                          with_reducible rfl
                                        rotate_left
                                        · simp only [Act.put, List.setIfInBounds_toArray, List.set_cons_zero, List.set_cons_succ, i64_w, i32_w]
                                          rfl
                                        refine pure_ (i := 6) (N := some 96) (v := ?_) (a' := ?_) #[true, true, true, false, true, true, true, false, false, false, false, false, false, false, false, false] rfl rfl (any_of HT_.out (by kernel_rfl)) (fun _ _ _ h => h) (Or.inl ⟨by rfl, ?_⟩) ?_ ?_
                                        rotate_left
                                        · intro w'
                                          go_simp
                                          with_reducible rfl
                                        rotate_left
                                        · simp only [Act.put, List.setIfInBounds_toArray, List.set_cons_zero, List.set_cons_succ, i64_w, i32_w]
                                          rfl
                                        refine take_ (i := 3) (N := some 93) (v := ?_) (a' := ?_) #[true, true, true, true, true, true, true, false, false, false, false, false, false, false, false, false] rfl rfl (take_ofW HT_.out HW_.out (by kernel_rfl)) (fun _ _ _ h => h) (Or.inl ⟨by rfl, ?_⟩) hHeld ?_ ?_
                                        rotate_left
                                        · rintro w' ⟨s0, s1, s2⟩
                                          go_simp
                                          with_reducible rfl
                                        rotate_left
                                        · simp only [Act.put, List.setIfInBounds_toArray, List.set_cons_zero, List.set_cons_succ, i64_w, i32_w]
                                          rfl
                                        refine take_ (i := 7) (N := some 97) (v := ?_) (a' := ?_) #[true, true, true, true, true, true, true, true, false, false, false, false, false, false, false, false] rfl rfl (take_ofW HT_.out HW_.out (by kernel_rfl)) (fun _ _ _ h => h) (Or.inl ⟨by rfl, ?_⟩) hHeld ?_ ?_
                                        rotate_left
                                        · rintro w' ⟨s0, s1, s2⟩
                                          go_simp
                                          with_reducible rfl
                                        rotate_left
                                        · simp only [Act.put, List.setIfInBounds_toArray, List.set_cons_zero, List.set_cons_succ, i64_w, i32_w]
                                          rfl
                                        refine pure_ (i := 8) (N := some 98) (v := ?_) (a' := ?_) #[true, true, true, true, true, true, true, true, true, false, false, false, false, false, false, false] rfl rfl (any_of HT_.out (by kernel_rfl)) (fun _ _ _ h => h) (Or.inl ⟨by rfl, ?_⟩) ?_ ?_
                                        rotate_left
                                        · intro w'
                                          go_simp
                                          with_reducible rfl
                                        rotate_left
                                        · simp only [Act.put, List.setIfInBounds_toArray, List.set_cons_zero, List.set_cons_succ, i64_w, i32_w]
                                          rfl
                                        refine pure_ (i := 9) (N := some 99) (v := ?_) (a' := ?_) #[true, true, true, true, true, true, true, true, true, true, false, false, false, false, false, false] rfl rfl (any_of HT_.out (by kernel_rfl)) (fun _ _ _ h => h) (Or.inl ⟨by rfl, ?_⟩) ?_ ?_
                                        rotate_left
                                        · intro w'
                                          go_simp
                                          with_reducible rfl
                                        rotate_left
                                        · simp only [Act.put, List.setIfInBounds_toArray, List.set_cons_zero, List.set_cons_succ, i64_w, i32_w]
                                          rfl
                                        refine pure_ (i := 10) (N := some 100) (v := ?_) (a' := ?_) #[true, true, true, true, true, true, true, true, true, true, true, false, false, false, false, false] rfl rfl (any_of HT_.out (by kernel_rfl)) (fun _ _ _ h => h) (Or.inl ⟨by rfl, ?_⟩) ?_ ?_
                                        rotate_left
                                        · intro w'
                                          go_simp
                                          with_reducible rfl
                                        rotate_left
                                        · simp only [Act.put, List.setIfInBounds_toArray, List.set_cons_zero, List.set_cons_succ, i64_w, i32_w]
                                          rfl
                                        refine pure_ (i := 11) (N := some 101) (v := ?_) (a' := ?_) #[true, true, true, true, true, true, true, true, true, true, true, true, false, false, false, false] rfl rfl (any_of HT_.out (by kernel_rfl)) (fun _ _ _ h => h) (Or.inl ⟨by rfl, ?_⟩) ?_ ?_
                                        rotate_left
                                        · intro w'
                                          go_simp
                                          with_reducible rfl
                                        rotate_left
                                        · simp only [Act.put, List.setIfInBounds_toArray, List.set_cons_zero, List.set_cons_succ, i64_w, i32_w]
                                          rfl
                                        refine pure_ (i := 12) (N := some 102) (v := ?_) (a' := ?_) #[true, true, true, true, true, true, true, true, true, true, true, true, true, false, false, false] rfl rfl (any_of HT_.out (by kernel_rfl)) (fun _ _ _ h => h) (Or.inl ⟨by rfl, ?_⟩) ?_ ?_
                                        rotate_left
                                        · intro w'
                                          go_simp
                                          with_reducible rfl
                                        rotate_left
                                        · simp only [Act.put, List.setIfInBounds_toArray, List.set_cons_zero, List.set_cons_succ, i64_w, i32_w]
                                          rfl
                                        refine take_ (i := 13) (N := some 103) (v := ?_) (a' := ?_) #[true, true, true, true, true, true, true, true, true, true, true, true, true, true, false, false] rfl rfl (take_ofW HT_.out HW_.out (by kernel_rfl)) (fun _ _ _ h => h) (Or.inl ⟨by rfl, ?_⟩) hHeld ?_ ?_
                                        rotate_left
                                        · rintro w' ⟨s0, s1, s2⟩
                                          go_simp
                                          with_reducible rfl
                                        rotate_left
                                        · simp only [Act.put, List.setIfInBounds_toArray, List.set_cons_zero, List.set_cons_succ, i64_w, i32_w]
                                          rfl
                                        refine pure_ (i := 14) (N := some 104) (v := ?_) (a' := ?_) #[true, true, true, true, true, true, true, true, true, true, true, true, true, true, true, false] rfl rfl (any_of HT_.out (by kernel_rfl)) (fun _ _ _ h => h) (Or.inl ⟨by rfl, ?_⟩) ?_ ?_
                                        rotate_left
                                        · intro w'
                                          go_simp
                                          with_reducible rfl
                                        rotate_left
                                        · simp only [Act.put, List.setIfInBounds_toArray, List.set_cons_zero, List.set_cons_succ, i64_w, i32_w]
                                          rfl
                                        refine pure_ (i := 15) (N := some 105) (v := ?_) (a' := ?_) #[true, true, true, true, true, true, true, true, true, true, true, true, true, true, true, true] rfl rfl (any_of HT_.out (by kernel_rfl)) (fun _ _ _ h => h) (Or.inl ⟨by rfl, ?_⟩) ?_ ?_
                                        rotate_left
                                        · intro w'
                                          go_simp
                                          with_reducible rfl
                                        rotate_left
                                        · simp only [Act.put, List.setIfInBounds_toArray, List.set_cons_zero, List.set_cons_succ, i64_w, i32_w]
                                          rfl
                                        refine done_ (done_of HT_.out (by kernel_rfl)) ?_
                                        have p201 : 0 ≤ (x87_3 : Int) := of_decide_eq_true (by first | (with_reducible assumption) | assumption)
                                        have q201 : x87_3 < (t192.length : Int) := of_decide_eq_true (by first | (with_reducible assumption) | assumption)
                                        obtain ⟨ad201, e201, hx201_0⟩ := Kd.at_int (Kd.R_reads' HO_12.out).2.2 x87_3 p201 q201
                                        obtain rfl : ad198 = ad201 := (by injection e201)
                                        replace p201 := eq_true p201
                                        replace q201 := eq_true q201
                                        try go_wp2
                                        go_roundg k3
                                        case measure => have := HK1.out; have := HK2.out; have := HK3.out; omega
                                        case rel => exact ⟨(wrap64 (x14_3 + (rd t192 x87_3))), (wrap64 (x87_3 + 1)), (by first | rfl | (simp; done) | (simp [*]; done)), (by first | rfl | (simp; done) | (simp [*]; done)), H', ⟨by have := HK1.out; have := HK2.out; have := HK3.out; omega⟩, ⟨by (with_reducible repeat (first | apply Kd.R_alloc | apply Kd.R_drewN | apply Kd.R_drew)); exact HO_12.out⟩, ⟨by (with_reducible repeat (first | apply Kd.R_alloc | apply Kd.R_drewN | apply Kd.R_drew)); exact HO_13.out⟩, ⟨by (with_reducible repeat (first | refine blk_drewN ?_ _ | refine blk_drew ?_ | refine blk_alloc ?_ _)); exact BK191.out⟩, ⟨by repeat (first | (with_reducible first | exact HB.out | apply below_alloc | apply pw_below_drewN | apply below_drew1 | refine below_set ?_ GE191.out) | exact HB.out)⟩⟩
                                    · rw [if_neg c58] at H
                                      have c58b0 : ((rd t192 x87_3) == (rd t195 x87_3)) = false := beq_eq_false_iff_ne.mpr c58
                                      have c58b1 : ((rd t192 x87_3) != (rd t195 x87_3)) = true := bne_iff_ne.mpr c58
                                      obtain rfl := Option.some.inj H
                                      try go_wp2
                                      have n0_ := Aside0.mk (Kd.R_drew HO_12.out)
                                      have n1_ := Aside0.mk (Kd.R_drew HO_13.out)
                                      have n2_ := Aside0.mk (blk_drew BK191.out)
                                      have n3_ := Aside0.mk (below_drew1 HB.out)
                                      clear HO_12
                                      clear HO_13
                                      clear BK191
                                      clear HB
                                      have HO_12 := n0_
                                      have HO_13 := n1_
                                      have BK191 := n2_
                                      have HB := n3_
                                      clear n0_ n1_ n2_ n3_
                                      have p198 : 0 ≤ (x87_3 : Int) := of_decide_eq_true (by first | (with_reducible assumption) | assumption)
                                      have q198 : x87_3 < (t192.length : Int) := of_decide_eq_true (by first | (with_reducible assumption) | assumption)
                                      obtain ⟨ad198, e198, hx198_0⟩ := Kd.at_int (Kd.R_reads' HO_12.out).2.2 x87_3 p198 q198
                                      cases e198
                                      replace p198 := eq_true p198
                                      replace q198 := eq_true q198
                                      have p199 : 0 ≤ (x87_3 : Int) := of_decide_eq_true (by first | (with_reducible assumption) | assumption)
                                      have q199 : x87_3 < (t195.length : Int) := of_decide_eq_true (by first | (with_reducible assumption) | assumption)
                                      obtain ⟨ad199, e199, hx199_0⟩ := Kd.at_int (Kd.R_reads' HO_13.out).2.2 x87_3 p199 q199
                                      cases e199
                                      replace p199 := eq_true p199
                                      replace q199 := eq_true q199
                                      refine start_ (n := 16) (S := fun w' => w'.cell? (ad198.add (x87_3).toNat) = some (.int .i64 (rd t192 x87_3)) ∧ w'.cell? (ad199.add (x87_3).toNat) = some (.int .i64 (rd t195 x87_3))) (ds := []) #[false, false, false, false, false, false, false, false, false, false, false, false, false, false, false, false] (by kernel_rfl) rfl rfl ⟨hx198_0, hx199_0⟩ (fun hHeld => ?_); refine with_tabW tachographlaw13_DictOf.tab24 tachographlaw13_DictOf.bits24 (fun HT_ HW_ => ?_)
                                      generalize wr.drew = w62 at HO_12 HO_13 BK191 HB hx198_0 hx199_0 hHeld ⊢
                                      refine pure_ (i := 0) (N := some 90) (v := ?_) (a' := ?_) #[true, false, false, false, false, false, false, false, false, false, false, false, false, false, false, false] rfl rfl (any_of HT_.out (by kernel_rfl)) (fun _ _ _ h => h) (Or.inl ⟨by rfl, ?_⟩) ?_ ?_
                                      rotate_left
                                      · intro w'
                                        go_simp
                                        with_reducible rfl
                                      rotate_left
                                      · simp only [Act.put, List.setIfInBounds_toArray, List.set_cons_zero, List.set_cons_succ, i64_w, i32_w]
                                        rfl
                                      refine pure_ (i := 1) (N := some 91) (v := ?_) (a' := ?_) #[true, true, false, false, false, false, false, false, false, false, false, false, false, false, false, false] rfl rfl (any_of HT_.out (by kernel_rfl)) (fun _ _ _ h => h) (Or.inl ⟨by rfl, ?_⟩) ?_ ?_
                                      rotate_left
                                      · intro w'
                                        go_simp
                                        with_reducible rfl
                                      rotate_left
                                      · simp only [Act.put, List.setIfInBounds_toArray, List.set_cons_zero, List.set_cons_succ, i64_w, i32_w]
                                        rfl
                                      refine pure_ (i := 2) (N := some 92) (v := ?_) (a' := ?_) #[true, true, true, false, false, false, false, false, false, false, false, false, false, false, false, false] rfl rfl (any_of HT_.out (by kernel_rfl)) (fun _ _ _ h => h) (Or.inl ⟨by rfl, ?_⟩) ?_ ?_
                                      rotate_left
                                      · intro w'
                                        go_simp
                                        with_reducible rfl
                                      rotate_left
                                      · simp only [Act.put, List.setIfInBounds_toArray, List.set_cons_zero, List.set_cons_succ, i64_w, i32_w]
                                        rfl
                                      refine pure_ (i := 4) (N := some 94) (v := ?_) (a' := ?_) #[true, true, true, false, true, false, false, false, false, false, false, false, false, false, false, false] rfl rfl (any_of HT_.out (by kernel_rfl)) (fun _ _ _ h => h) (Or.inl ⟨by rfl, ?_⟩) ?_ ?_
                                      rotate_left
                                      · intro w'
                                        go_simp
                                        with_reducible rfl
                                      rotate_left
                                      · simp only [Act.put, List.setIfInBounds_toArray, List.set_cons_zero, List.set_cons_succ, i64_w, i32_w]
                                        rfl
                                      refine pure_ (i := 5) (N := some 95) (v := ?_) (a' := ?_) #[true, true, true, false, true, true, false, false, false, false, false, false, false, false, false, false] rfl rfl (any_of HT_.out (by kernel_rfl)) (fun _ _ _ h => h) (Or.inl ⟨by rfl, ?_⟩) ?_ ?_
                                      rotate_left
                                      · intro w'
                                        go_simp
                                        with_reducible rfl
                                      rotate_left
                                      · simp only [Act.put, List.setIfInBounds_toArray, List.set_cons_zero, List.set_cons_succ, i64_w, i32_w]
                                        rfl
                                      refine pure_ (i := 6) (N := some 96) (v := ?_) (a' := ?_) #[true, true, true, false, true, true, true, false, false, false, false, false, false, false, false, false] rfl rfl (any_of HT_.out (by kernel_rfl)) (fun _ _ _ h => h) (Or.inl ⟨by rfl, ?_⟩) ?_ ?_
                                      rotate_left
                                      · intro w'
                                        go_simp
                                        with_reducible rfl
                                      rotate_left
                                      · simp only [Act.put, List.setIfInBounds_toArray, List.set_cons_zero, List.set_cons_succ, i64_w, i32_w]
                                        rfl
                                      refine take_ (i := 3) (N := some 93) (v := ?_) (a' := ?_) #[true, true, true, true, true, true, true, false, false, false, false, false, false, false, false, false] rfl rfl (take_ofW HT_.out HW_.out (by kernel_rfl)) (fun _ _ _ h => h) (Or.inl ⟨by rfl, ?_⟩) hHeld ?_ ?_
                                      rotate_left
                                      · rintro w' ⟨s0, s1⟩
                                        go_simp
                                        with_reducible rfl
                                      rotate_left
                                      · simp only [Act.put, List.setIfInBounds_toArray, List.set_cons_zero, List.set_cons_succ, i64_w, i32_w]
                                        rfl
                                      refine take_ (i := 7) (N := some 97) (v := ?_) (a' := ?_) #[true, true, true, true, true, true, true, true, false, false, false, false, false, false, false, false] rfl rfl (take_ofW HT_.out HW_.out (by kernel_rfl)) (fun _ _ _ h => h) (Or.inl ⟨by rfl, ?_⟩) hHeld ?_ ?_
                                      rotate_left
                                      · rintro w' ⟨s0, s1⟩
                                        go_simp
                                        with_reducible rfl
                                      rotate_left
                                      · simp only [Act.put, List.setIfInBounds_toArray, List.set_cons_zero, List.set_cons_succ, i64_w, i32_w]
                                        rfl
                                      refine pure_ (i := 8) (N := some 98) (v := ?_) (a' := ?_) #[true, true, true, true, true, true, true, true, true, false, false, false, false, false, false, false] rfl rfl (any_of HT_.out (by kernel_rfl)) (fun _ _ _ h => h) (Or.inl ⟨by rfl, ?_⟩) ?_ ?_
                                      rotate_left
                                      · intro w'
                                        go_simp
                                        with_reducible rfl
                                      rotate_left
                                      · simp only [Act.put, List.setIfInBounds_toArray, List.set_cons_zero, List.set_cons_succ, i64_w, i32_w]
                                        rfl
                                      refine pure_ (i := 9) (N := some 99) (v := ?_) (a' := ?_) #[true, true, true, true, true, true, true, true, true, true, false, false, false, false, false, false] rfl rfl (any_of HT_.out (by kernel_rfl)) (fun _ _ _ h => h) (Or.inl ⟨by rfl, ?_⟩) ?_ ?_
                                      rotate_left
                                      · intro w'
                                        go_simp
                                        with_reducible rfl
                                      rotate_left
                                      · simp only [Act.put, List.setIfInBounds_toArray, List.set_cons_zero, List.set_cons_succ, i64_w, i32_w]
                                        rfl
                                      refine pure_ (i := 10) (N := some 100) (v := undef) (a' := ?_) #[true, true, true, true, true, true, true, true, true, true, true, false, false, false, false, false] rfl rfl (any_of HT_.out (by kernel_rfl)) (fun _ _ _ h => h) (Or.inr ⟨by rfl, rfl⟩) ?_ ?_
                                      rotate_left
                                      · simp only [Act.put, List.setIfInBounds_toArray, List.set_cons_zero, List.set_cons_succ, i64_w, i32_w]
                                        rfl
                                      refine pure_ (i := 11) (N := some 101) (v := undef) (a' := ?_) #[true, true, true, true, true, true, true, true, true, true, true, true, false, false, false, false] rfl rfl (any_of HT_.out (by kernel_rfl)) (fun _ _ _ h => h) (Or.inr ⟨by rfl, rfl⟩) ?_ ?_
                                      rotate_left
                                      · simp only [Act.put, List.setIfInBounds_toArray, List.set_cons_zero, List.set_cons_succ, i64_w, i32_w]
                                        rfl
                                      refine pure_ (i := 12) (N := some 102) (v := undef) (a' := ?_) #[true, true, true, true, true, true, true, true, true, true, true, true, true, false, false, false] rfl rfl (any_of HT_.out (by kernel_rfl)) (fun _ _ _ h => h) (Or.inr ⟨by rfl, rfl⟩) ?_ ?_
                                      rotate_left
                                      · simp only [Act.put, List.setIfInBounds_toArray, List.set_cons_zero, List.set_cons_succ, i64_w, i32_w]
                                        rfl
                                      refine pure_ (i := 13) (N := some 103) (v := undef) (a' := ?_) #[true, true, true, true, true, true, true, true, true, true, true, true, true, true, false, false] rfl rfl (any_of HT_.out (by kernel_rfl)) (fun _ _ _ h => h) (Or.inr ⟨by rfl, rfl⟩) ?_ ?_
                                      rotate_left
                                      · simp only [Act.put, List.setIfInBounds_toArray, List.set_cons_zero, List.set_cons_succ, i64_w, i32_w]
                                        rfl
                                      refine pure_ (i := 14) (N := some 104) (v := undef) (a' := ?_) #[true, true, true, true, true, true, true, true, true, true, true, true, true, true, true, false] rfl rfl (any_of HT_.out (by kernel_rfl)) (fun _ _ _ h => h) (Or.inr ⟨by rfl, rfl⟩) ?_ ?_
                                      rotate_left
                                      · simp only [Act.put, List.setIfInBounds_toArray, List.set_cons_zero, List.set_cons_succ, i64_w, i32_w]
                                        rfl
                                      refine pure_ (i := 15) (N := some 105) (v := ?_) (a' := ?_) #[true, true, true, true, true, true, true, true, true, true, true, true, true, true, true, true] rfl rfl (any_of HT_.out (by kernel_rfl)) (fun _ _ _ h => h) (Or.inl ⟨by rfl, ?_⟩) ?_ ?_
                                      rotate_left
                                      · intro w'
                                        go_simp
                                        with_reducible rfl
                                      rotate_left
                                      · simp only [Act.put, List.setIfInBounds_toArray, List.set_cons_zero, List.set_cons_succ, i64_w, i32_w]
                                        rfl
                                      refine done_ (done_of HT_.out (by kernel_rfl)) ?_
                                      try go_wp2
                                      go_ret
                                      exact ⟨by first | rfl | (simp [errW_none, errW_some] <;> rfl) | (simp [*, errW_none, errW_some] <;> rfl), by repeat (first | (with_reducible first | exact HB.out | apply below_alloc | apply pw_below_drewN | apply below_drew1 | refine below_set ?_ GE191.out) | exact HB.out)⟩
                                  · rw [if_neg c57] at H
                                    exact absurd H (by simp)
                                · rw [if_neg c56] at H
                                  exact absurd H (by simp)
                              · rw [if_neg c55] at H
                                exact absurd H (by simp)
                            · rw [if_neg c54] at H
                              have c54b0 : decide (x87_3 < (t192.length : Int)) = false := decide_eq_false c54
                              clear c54
                              by_cases c63 : x14_3 = (((rd_T44 l0 x70_2).f1).length : Int)
                              · rw [if_pos c63] at H
                                have c63b0 : (x14_3 == (((rd_T44 l0 x70_2).f1).length : Int)) = true := beq_iff_eq.mpr c63
                                have c63b1 : (x14_3 != (((rd_T44 l0 x70_2).f1).length : Int)) = false := bne_eq_false_iff_eq.mpr c63
                                clear c63
                                have H' := Aside0.mk H
                                clear H
                                have hcz64_0 : wr.cell? ⟨gb191, 0, none⟩ = some (.int .u64 ((rd_T44 l0 x70_2).f0)) := (blk_cell BK191.out 0).trans rfl
                                have hcz64_1 : wr.cell? ⟨gb191, 1, none⟩ = some (.slice A190_1 ((rd_T44 l0 x70_2).f1).length c190_1) := (blk_cell BK191.out 1).trans rfl
                                have hfz64_0 := blk_frozen BK191.out 0
                                have hfz64_1 := blk_frozen BK191.out 1
                                go_wp2
                                go_roundg k3
                                case measure => have := HK1.out; have := HK2.out; have := HK3.out; omega
                                case rel => exact ⟨(wrap64 (x70_2 + 1)), (by first | rfl | (simp; done) | (simp [*]; done)), H', ⟨by have := HK1.out; have := HK2.out; have := HK3.out; omega⟩, ⟨by repeat (first | (with_reducible first | exact HB.out | apply below_alloc | apply pw_below_drewN | apply below_drew1 | refine below_set ?_ GE191.out) | exact HB.out)⟩⟩
                              · rw [if_neg c63] at H
                                have c63b0 : (x14_3 == (((rd_T44 l0 x70_2).f1).length : Int)) = false := beq_eq_false_iff_ne.mpr c63
                                have c63b1 : (x14_3 != (((rd_T44 l0 x70_2).f1).length : Int)) = true := bne_iff_ne.mpr c63
                                obtain rfl := Option.some.inj H
                                have hcz65_0 : wr.cell? ⟨gb191, 0, none⟩ = some (.int .u64 ((rd_T44 l0 x70_2).f0)) := (blk_cell BK191.out 0).trans rfl
                                have hcz65_1 : wr.cell? ⟨gb191, 1, none⟩ = some (.slice A190_1 ((rd_T44 l0 x70_2).f1).length c190_1) := (blk_cell BK191.out 1).trans rfl
                                have hfz65_0 := blk_frozen BK191.out 0
                                have hfz65_1 := blk_frozen BK191.out 1
                                go_wp2
                                go_ret
                                exact ⟨by first | rfl | (simp [errW_none, errW_some] <;> rfl) | (simp [*, errW_none, errW_some] <;> rfl), by repeat (first | (with_reducible first | exact HB.out | apply below_alloc | apply pw_below_drewN | apply below_drew1 | refine below_set ?_ GE191.out) | exact HB.out)⟩
                      · rw [if_neg c45] at H
                        have c45b0 : ((t192.length : Int) == (t195.length : Int)) = false := beq_eq_false_iff_ne.mpr c45
                        have c45b1 : ((t192.length : Int) != (t195.length : Int)) = true := bne_iff_ne.mpr c45
                        have c45b2 : (t192.length == t195.length) = false := by first | simpa using c45 | (simp at c45 ⊢; omega)
                        obtain rfl := Option.some.inj H
                        have p190 : 0 ≤ (x70_2 : Int) := of_decide_eq_true (by first | (with_reducible assumption) | assumption)
                        have q190 : x70_2 < (l0.length : Int) := of_decide_eq_true (by first | (with_reducible assumption) | assumption)
                        obtain ⟨ad190, A190_1, c190_1, e190, hx190_0, hx190_1, hl190_1, hi190_1⟩ := at_T44 HR0.out x70_2 p190 q190
                        cases e190
                        replace hx190_0 := (HB.out.cell (World.block_lt_of_cell? w _ hx190_0)).trans hx190_0
                        replace hx190_1 := (HB.out.cell (World.block_lt_of_cell? w _ hx190_1)).trans hx190_1
                        have HR190_1 := Aside0.mk hi190_1
                        have HC190_1 := Aside0.mk hl190_1
                        clear hi190_1 hl190_1
                        replace p190 := eq_true p190
                        replace q190 := eq_true q190
                        try go_wp2_with (first | ((with_reducible refine gate_dst (N := 11) rfl ?_); refine box_event ?hg (N := 11) ?hd (cs := #[.int .u64 0, .slice none 0 0]) (t := 44) ?hr ?_; (case hd => rfl); (case hg => rfl); (case hr => first | (go_simp; done) | (go_simp; rfl)); intro gb191 hg w66 hbox hb; have n0_ := Aside0.mk (below_step (by repeat (first | (with_reducible first | exact HB.out | apply below_alloc | apply pw_below_drewN | apply below_drew1) | exact HB.out)) hb); have n1_ := Aside0.mk (hbox); have n2_ := Aside0.mk ((by rw [hg]; exact (below_size (by repeat (first | (with_reducible first | exact HB.out | apply below_alloc | apply pw_below_drewN | apply below_drew1) | exact HB.out))) : w.heap.size ≤ gb191)); have n3_ := Aside0.mk ((by rw [hg]; exact (below_size (by repeat (first | (with_reducible first | exact HB.out | apply below_alloc | apply pw_below_drewN | apply below_drew1) | exact HB.out))) : w.heap.size ≤ gb191)); clear HB; have HB := n0_; have BK191 := n1_; have GW191 := n2_; have GE191 := n3_; clear n0_ n1_ n2_ n3_; clear hb hbox hg; have hcz67_0 : w66.cell? ⟨gb191, 0, none⟩ = some (.int .u64 0) := (blk_cell BK191.out 0).trans rfl; have hcz67_1 : w66.cell? ⟨gb191, 1, none⟩ = some (.slice none 0 0) := (blk_cell BK191.out 1).trans rfl; have hfz67_0 := blk_frozen BK191.out 0; have hfz67_1 := blk_frozen BK191.out 1))
                        have n0_ : Aside0 (((w66.setCell ⟨gb191, 0, none⟩ (.int .u64 ((rd_T44 l0 x70_2).f0))).setCell ⟨gb191, 1, none⟩ (.slice A190_1 ((rd_T44 l0 x70_2).f1).length c190_1)).heap[gb191]? = some (.cells #[.int .u64 ((rd_T44 l0 x70_2).f0), .slice A190_1 ((rd_T44 l0 x70_2).f1).length c190_1] 44 (0, 0))) := ⟨by (with_reducible repeat (first | refine blk_drewN ?_ _ | refine blk_drew ?_ | refine blk_alloc ?_ _)); refine blk_put (cs := #[.int .u64 ((rd_T44 l0 x70_2).f0), .slice none 0 0]) ?_ 1 _ rfl; (with_reducible repeat (first | refine blk_drewN ?_ _ | refine blk_drew ?_ | refine blk_alloc ?_ _)); refine blk_put (cs := #[.int .u64 0, .slice none 0 0]) ?_ 0 _ rfl; (with_reducible repeat (first | refine blk_drewN ?_ _ | refine blk_drew ?_ | refine blk_alloc ?_ _)); exact BK191.out⟩
                        have n1_ : Aside0 (Below w.heap.size w ((w66.setCell ⟨gb191, 0, none⟩ (.int .u64 ((rd_T44 l0 x70_2).f0))).setCell ⟨gb191, 1, none⟩ (.slice A190_1 ((rd_T44 l0 x70_2).f1).length c190_1))) := ⟨by repeat (first | (with_reducible first | exact HB.out | apply below_alloc | apply pw_below_drewN | apply below_drew1 | refine below_set ?_ GE191.out) | exact HB.out)⟩
                        (try clear BK191)
                        (try clear HB)
                        generalize ((w66.setCell ⟨gb191, 0, none⟩ (.int .u64 ((rd_T44 l0 x70_2).f0))).setCell ⟨gb191, 1, none⟩ (.slice A190_1 ((rd_T44 l0 x70_2).f1).length c190_1)) = w68 at n0_ n1_ ⊢
                        have BK191 := n0_
                        have HB := n1_
                        clear n0_ n1_
                        have n0_ := Aside0.mk (blk_drew BK191.out)
                        have n1_ := Aside0.mk (below_drew1 HB.out)
                        clear BK191
                        clear HB
                        have BK191 := n0_
                        have HB := n1_
                        clear n0_ n1_
                        refine start_ (n := 8) (S := fun w' => w'.cell? ⟨gb191, 0, none⟩ = some (.int .u64 ((rd_T44 l0 x70_2).f0)) ∧ w'.cell? ⟨gb191, 1, none⟩ = some (.slice A190_1 ((rd_T44 l0 x70_2).f1).length c190_1)) (ds := []) #[false, false, false, false, false, false, false, false] (by kernel_rfl) rfl rfl ⟨(blk_cell BK191.out 0).trans rfl, (blk_cell BK191.out 1).trans rfl⟩ (fun hHeld => ?_); refine with_tabW tachographlaw13_DictOf.tab17 tachographlaw13_DictOf.bits17 (fun HT_ HW_ => ?_)
                        generalize w68.drew = w69 at BK191 HB hHeld ⊢
                        refine pure_ (i := 0) (N := some 74) (v := ?_) (a' := ?_) #[true, false, false, false, false, false, false, false] rfl rfl (any_of HT_.out (by kernel_rfl)) (fun _ _ _ h => h) (Or.inl ⟨by rfl, ?_⟩) ?_ ?_
                        rotate_left
                        · intro w'
                          go_simp
                          with_reducible rfl
                        rotate_left
                        · simp only [Act.put, List.setIfInBounds_toArray, List.set_cons_zero, List.set_cons_succ, i64_w, i32_w]
                          rfl
                        refine pure_ (i := 3) (N := some 77) (v := ?_) (a' := ?_) #[true, false, false, true, false, false, false, false] rfl rfl (any_of HT_.out (by kernel_rfl)) (fun _ _ _ h => h) (Or.inl ⟨by rfl, ?_⟩) ?_ ?_
                        rotate_left
                        · intro w'
                          go_simp
                          with_reducible rfl
                        rotate_left
                        · simp only [Act.put, List.setIfInBounds_toArray, List.set_cons_zero, List.set_cons_succ, i64_w, i32_w]
                          rfl
                        refine take_ (i := 1) (N := some 75) (v := ?_) (a' := ?_) #[true, true, false, true, false, false, false, false] rfl rfl (take_ofW HT_.out HW_.out (by kernel_rfl)) (fun _ _ _ h => h) (Or.inl ⟨by rfl, ?_⟩) hHeld ?_ ?_
                        rotate_left
                        · rintro w' ⟨s0, s1⟩
                          go_simp
                          with_reducible rfl
                        rotate_left
                        · simp only [Act.put, List.setIfInBounds_toArray, List.set_cons_zero, List.set_cons_succ, i64_w, i32_w]
                          rfl
                        refine take_ (i := 4) (N := some 78) (v := ?_) (a' := ?_) #[true, true, false, true, true, false, false, false] rfl rfl (take_ofW HT_.out HW_.out (by kernel_rfl)) (fun _ _ _ h => h) (Or.inl ⟨by rfl, ?_⟩) hHeld ?_ ?_
                        rotate_left
                        · rintro w' ⟨s0, s1⟩
                          go_simp
                          with_reducible rfl
                        rotate_left
                        · simp only [Act.put, List.setIfInBounds_toArray, List.set_cons_zero, List.set_cons_succ, i64_w, i32_w]
                          rfl
                        refine one_ (i := 2) (N := some 76) #[true, true, true, true, true, false, false, false] rfl rfl (one_of HT_.out (by kernel_rfl)) (by decide) (fun K hK => ?_)
                        refine goes_ Try.func27 (by kernel_rfl) rfl #[.slice A190_1 ((rd_T44 l0 x70_2).f1).length c190_1] (by rfl) rfl rfl (by (try simp only [List.map_toArray, List.map_cons, List.map_nil]); first | done | rfl | (simp only [List.length_drop, List.length_take]; rfl) | (refine congrArg (fun z_ => #[z_]) (congrArg (Value.int IntKind.u64) (Eq.symm (Go.Proofs.YtjfklfmfeghjnabAid.wrap_len _ (by omega)))))) ?_
                        with_reducible refine (dict_Runs.calls k2 _ _ ((rd_T44 l0 x70_2).f1) t192 _ ?side1 ?side2 A43.out).mono ?_
                        (case side1 => repeat (first | exact (Kd.C_below HR190_1.out HB.out) | (with_reducible refine Kd.C_alloc ?_ _) | (with_reducible refine Kd.C_drewN ?_ _) | (with_reducible refine Kd.C_drew ?_)))
                        (case side2 => exact HC190_1.out)
                        rintro e w70 ⟨v193, rfl, ho0, hb⟩
                        refine ⟨_, rfl, ?_⟩
                        have n0_ := Aside0.mk (Kd.R_lower ho0 (below_size (by repeat (first | (with_reducible first | exact HB.out | apply below_alloc | apply pw_below_drewN | apply below_drew1 | refine below_set ?_ GE191.out) | exact HB.out))))
                        have n1_ := Aside0.mk (blk_below (g := gb191) (o := .cells #[.int .u64 ((rd_T44 l0 x70_2).f0), .slice A190_1 ((rd_T44 l0 x70_2).f1).length c190_1] 44 (0, 0)) (by (with_reducible repeat (first | refine blk_drewN ?_ _ | refine blk_drew ?_ | refine blk_alloc ?_ _)); exact BK191.out) hb)
                        have n2_ := Aside0.mk (below_step (by repeat (first | (with_reducible first | exact HB.out | apply below_alloc | apply pw_below_drewN | apply below_drew1 | refine below_set ?_ GE191.out) | exact HB.out)) hb)
                        clear BK191
                        clear HB
                        have HO194 := n0_
                        have BK191 := n1_
                        have HB := n2_
                        clear n0_ n1_ n2_
                        (try clear hb)
                        (try clear hb2)
                        (try clear hk)
                        (try clear hi)
                        (try clear ho0)
                        refine hK.out _ _ ⟨(blk_cell BK191.out 0).trans rfl, (blk_cell BK191.out 1).trans rfl⟩ (fun hHeld => ?_)
                        clear hK K
                        refine norm_ (a' := ?_) ?_ ?_
                        rotate_left
                        · show Act.put _ (some 76) _ = _
                          simp only [Act.put, List.setIfInBounds_toArray, List.set_cons_zero, List.set_cons_succ, i64_w, i32_w]
                          rfl
                        refine one_ (i := 5) (N := some 79) #[true, true, true, true, true, true, false, false] rfl rfl (one_of HT_.out (by kernel_rfl)) (by decide) (fun K hK => ?_)
                        refine goes_ Try.func28 (by kernel_rfl) rfl #[.slice A190_1 ((rd_T44 l0 x70_2).f1).length c190_1] (by rfl) rfl rfl (by (try simp only [List.map_toArray, List.map_cons, List.map_nil]); first | done | rfl | (simp only [List.length_drop, List.length_take]; rfl) | (refine congrArg (fun z_ => #[z_]) (congrArg (Value.int IntKind.u64) (Eq.symm (Go.Proofs.YtjfklfmfeghjnabAid.wrap_len _ (by omega)))))) ?_
                        with_reducible refine (tachographref13_Runs.calls k2 _ _ ((rd_T44 l0 x70_2).f1) t195 _ ?side1 ?side2 A44.out).mono ?_
                        (case side1 => repeat (first | exact (Kd.C_below HR190_1.out HB.out) | (with_reducible refine Kd.C_alloc ?_ _) | (with_reducible refine Kd.C_drewN ?_ _) | (with_reducible refine Kd.C_drew ?_)))
                        (case side2 => exact HC190_1.out)
                        rintro e w71 ⟨v196, rfl, ho0, hb⟩
                        refine ⟨_, rfl, ?_⟩
                        have n0_ := Aside0.mk (Kd.R_elder' (by (with_reducible repeat (first | apply Kd.R_alloc | apply Kd.R_drewN | apply Kd.R_drew)); exact HO194.out) (Kd.R_base ho0) hb)
                        have n1_ := Aside0.mk (Kd.R_lower (Kd.R_new' ho0 (Kd.R_lt (by (with_reducible repeat (first | apply Kd.R_alloc | apply Kd.R_drewN | apply Kd.R_drew)); exact HO194.out))) (below_size (by repeat (first | (with_reducible first | exact HB.out | apply below_alloc | apply pw_below_drewN | apply below_drew1 | refine below_set ?_ GE191.out) | exact HB.out))))
                        have n2_ := Aside0.mk (blk_below (g := gb191) (o := .cells #[.int .u64 ((rd_T44 l0 x70_2).f0), .slice A190_1 ((rd_T44 l0 x70_2).f1).length c190_1] 44 (0, 0)) (by (with_reducible repeat (first | refine blk_drewN ?_ _ | refine blk_drew ?_ | refine blk_alloc ?_ _)); exact BK191.out) hb)
                        have n3_ := Aside0.mk (below_step (by repeat (first | (with_reducible first | exact HB.out | apply below_alloc | apply pw_below_drewN | apply below_drew1 | refine below_set ?_ GE191.out) | exact HB.out)) hb)
                        clear HO194
                        clear BK191
                        clear HB
                        have HO194 := n0_
                        have HO197 := n1_
                        have BK191 := n2_
                        have HB := n3_
                        clear n0_ n1_ n2_ n3_
                        (try clear hb)
                        (try clear hb2)
                        (try clear hk)
                        (try clear hi)
                        (try clear ho0)
                        refine hK.out _ _ ⟨(blk_cell BK191.out 0).trans rfl, (blk_cell BK191.out 1).trans rfl⟩ (fun hHeld => ?_)
                        clear hK K
                        refine norm_ (a' := ?_) ?_ ?_
                        rotate_left
                        · show Act.put _ (some 79) _ = _
                          simp only [Act.put, List.setIfInBounds_toArray, List.set_cons_zero, List.set_cons_succ, i64_w, i32_w]
                          rfl
                        refine pure_ (i := 6) (N := some 12) (v := ?_) (a' := ?_) #[true, true, true, true, true, true, true, false] rfl rfl (any_of HT_.out (by kernel_rfl)) (fun _ _ _ h => h) (Or.inl ⟨by rfl, ?_⟩) ?_ ?_
                        rotate_left
                        · intro w'
                          go_simp
                          with_reducible rfl
                        rotate_left
                        · simp only [Act.put, List.setIfInBounds_toArray, List.set_cons_zero, List.set_cons_succ, i64_w, i32_w]
                          rfl
                        refine pure_ (i := 7) (N := some 13) (v := ?_) (a' := ?_) #[true, true, true, true, true, true, true, true] rfl rfl (any_of HT_.out (by kernel_rfl)) (fun _ _ _ h => h) (Or.inl ⟨by rfl, ?_⟩) ?_ ?_
                        rotate_left
                        · intro w'
                          go_simp
                          with_reducible rfl
                        rotate_left
                        · simp only [Act.put, List.setIfInBounds_toArray, List.set_cons_zero, List.set_cons_succ, i64_w, i32_w]
                          rfl
                        refine done_ (done_of HT_.out (by kernel_rfl)) ?_
                        obtain ⟨Ao72, co72, eo72⟩ := Kd.R_slice HO194.out
                        subst eo72
                        obtain ⟨Ao73, co73, eo73⟩ := Kd.R_slice HO197.out
                        subst eo73
                        try go_wp2
                        go_ret
                        exact ⟨by first | rfl | (simp [errW_none, errW_some] <;> rfl) | (simp [*, errW_none, errW_some] <;> rfl), by repeat (first | (with_reducible first | exact HB.out | apply below_alloc | apply pw_below_drewN | apply below_drew1 | refine below_set ?_ GE191.out) | exact HB.out)⟩
                    · rw [if_neg c42] at H
                      exact absurd H (by simp)
                  · rw [if_neg c41] at H
                    exact absurd H (by simp)
                · rw [if_neg c40] at H
                  have c40b0 : decide (x70_2 < (l0.length : Int)) = false := decide_eq_false c40
                  clear c40
                  replace H := Option.bind_eq_some_iff.mp H
                  obtain ⟨t189, A740, H⟩ := H
                  replace H : (some t189) = some r := H
                  have A74 := Aside0.mk A740
                  clear A740
                  obtain rfl := Option.some.inj H
                  go_wp2_with (first | ((with_reducible refine gate_callee (f := 15) rfl ?_); refine goesL_ (some 119) rfl rfl Try.func15 (by kernel_rfl) rfl #[] rfl (by (try simp only [List.map_toArray, List.map_cons, List.map_nil]); first | done | rfl | (simp only [List.length_drop, List.length_take]; rfl) | (refine congrArg (fun z_ => #[z_]) (congrArg (Value.int IntKind.u64) (Eq.symm (Go.Proofs.YtjfklfmfeghjnabAid.wrap_len _ (by omega)))))) ?_; (with_reducible refine (tachographlaw13_fixed.calls  t189 _ A74.out).mono ?_); rintro e w75 ⟨rfl, hb⟩; refine ⟨_, rfl, ?_⟩; have n0_ := Aside0.mk (below_step (by repeat (first | (with_reducible first | exact HB.out | apply below_alloc | apply pw_below_drewN | apply below_drew1) | exact HB.out)) hb); clear HB; have HB := n0_; clear n0_; (try clear hb); (try clear hb2); (try clear hk); (try clear hi)))
                  go_ret
                  exact ⟨by first | rfl | (simp [errW_none, errW_some] <;> rfl) | (simp [*, errW_none, errW_some] <;> rfl), by repeat (first | (with_reducible first | exact HB.out | apply below_alloc | apply pw_below_drewN | apply below_drew1) | exact HB.out)⟩
    · replace c11 := Bool.eq_false_iff.mpr c11
      subst c11
      have H1 : (some false) = some r := by rw [if_neg (show ¬ (false = true) by decide)] at H; exact H
      clear H
      have H := H1
      clear H1
      obtain rfl := Option.some.inj H
      go_enter Try.func4, Try.ntmps4
      go_wp2_with (first | ((with_reducible refine gate_callee (f := 24) rfl ?_); refine goesL_ (some 17) rfl rfl Try.func24 (by kernel_rfl) rfl #[.slice A0 l0.length c0, .int .i64 2000] rfl (by (try simp only [List.map_toArray, List.map_cons, List.map_nil]); first | done | rfl | (simp only [List.length_drop, List.length_take]; rfl) | (refine congrArg (fun z_ => #[z_]) (congrArg (Value.int IntKind.u64) (Eq.symm (Go.Proofs.YtjfklfmfeghjnabAid.wrap_len _ (by omega)))))) ?_; (with_reducible refine (tachographlaw12_Great.calls k _ _ l0 2000 false _ ?side1 ?side2 A2.out).mono ?_); (case side1 => repeat (first | exact HR0.out | (with_reducible refine Kd.C_alloc ?_ _) | (with_reducible refine Kd.C_drewN ?_ _) | (with_reducible refine Kd.C_drew ?_))); (case side2 => exact HC0.out); rintro e w76 ⟨rfl, hb⟩; refine ⟨_, rfl, ?_⟩; have n0_ := Aside0.mk (below_step (by repeat (first | (with_reducible first | exact HB.out | apply below_alloc | apply pw_below_drewN | apply below_drew1) | exact HB.out)) hb); clear HB; have HB := n0_; clear n0_; (try clear hb); (try clear hb2); (try clear hk); (try clear hi)) | ((with_reducible refine gate_callee (f := 25) rfl ?_); refine goesL_ (some 20) rfl rfl Try.func25 (by kernel_rfl) rfl #[.slice A0 l0.length c0] rfl (by (try simp only [List.map_toArray, List.map_cons, List.map_nil]); first | done | rfl | (simp only [List.length_drop, List.length_take]; rfl) | (refine congrArg (fun z_ => #[z_]) (congrArg (Value.int IntKind.u64) (Eq.symm (Go.Proofs.YtjfklfmfeghjnabAid.wrap_len _ (by omega)))))) ?_; (with_reducible refine (dict_Of.calls k _ _ l0 t168 w _ ?side1 ?side2 ?side3 A7.out).mono ?_); (case side1 => repeat (first | (with_reducible first | exact HB.out | apply below_alloc | apply pw_below_drewN | apply below_drew1) | exact HB.out)); (case side2 => repeat (first | exact (Kd.C_below HR0.out HB.out) | (with_reducible refine Kd.C_alloc ?_ _) | (with_reducible refine Kd.C_drewN ?_ _) | (with_reducible refine Kd.C_drew ?_))); (case side3 => exact HC0.out); rintro e w77 ⟨g169, rfl, hi, hb, hb2⟩; refine ⟨_, rfl, ?_⟩; have n0_ := Aside0.mk (hb); have n1_ := Aside0.mk (hi); clear HB; have HB := n0_; have HI169 := n1_; clear n0_ n1_; (try clear hb); (try clear hb2); (try clear hk); (try clear hi)) | (go_at_call 19; (with_reducible refine (dict_Dict_All.calls g169 t168 t170 t173 w _ ?side1 ?side2 A8.out).mono ?_); (case side1 => repeat (first | (with_reducible first | exact HI169.out | apply IsS100.alloc | apply IsS100.drewN | apply IsS100.drew | apply IsS100.set_0) | exact HI169.out)); (case side2 => repeat (first | (with_reducible first | exact HB.out | apply below_alloc | apply pw_below_drewN | apply below_drew1 | refine below_set ?_ (IsS100.ge HI169.out)) | exact HB.out)); rintro e w78 ⟨v171, rfl, ho0, hi, hb, hk⟩; have n0_ := Aside0.mk (Kd.R_lower ho0 (below_size (by repeat (first | (with_reducible first | exact HB.out | apply below_alloc | apply pw_below_drewN | apply below_drew1 | refine below_set ?_ (IsS100.ge HI169.out)) | exact HB.out)))); have n1_ := Aside0.mk (hb); have n2_ := Aside0.mk (hi); clear HB; clear HI169; have HO172 := n0_; have HB := n1_; have HI169 := n2_; clear n0_ n1_ n2_; (try clear hb); (try clear hb2); (try clear hk); (try clear hi); (try clear ho0)) | (go_at_call 26; (with_reducible refine (tachographref13_Of.calls k _ _ l0 t174 _ ?side1 ?side2 A9.out).mono ?_); (case side1 => repeat (first | exact (Kd.C_below HR0.out HB.out) | (with_reducible refine Kd.C_alloc ?_ _) | (with_reducible refine Kd.C_drewN ?_ _) | (with_reducible refine Kd.C_drew ?_))); (case side2 => exact HC0.out); rintro e w79 ⟨v175, rfl, ho0, hb⟩; have n0_ := Aside0.mk (Kd.R_elder' (by (with_reducible repeat (first | apply Kd.R_alloc | apply Kd.R_drewN | apply Kd.R_drew)); exact HO172.out) (Kd.R_base ho0) hb); have n1_ := Aside0.mk (Kd.R_lower (Kd.R_new' ho0 (Kd.R_lt (by (with_reducible repeat (first | apply Kd.R_alloc | apply Kd.R_drewN | apply Kd.R_drew)); exact HO172.out))) (below_size (by repeat (first | (with_reducible first | exact HB.out | apply below_alloc | apply pw_below_drewN | apply below_drew1 | refine below_set ?_ (IsS100.ge HI169.out)) | exact HB.out)))); have n2_ := Aside0.mk (IsS100.below (by repeat (first | (with_reducible first | exact HI169.out | apply IsS100.alloc | apply IsS100.drewN | apply IsS100.drew | apply IsS100.set_0) | exact HI169.out)) hb); have n3_ := Aside0.mk (below_step (by repeat (first | (with_reducible first | exact HB.out | apply below_alloc | apply pw_below_drewN | apply below_drew1 | refine below_set ?_ (IsS100.ge HI169.out)) | exact HB.out)) hb); clear HO172; clear HI169; clear HB; have HO172 := n0_; have HO176 := n1_; have HI169 := n2_; have HB := n3_; clear n0_ n1_ n2_ n3_; (try clear hb); (try clear hb2); (try clear hk); (try clear hi); (try clear ho0); obtain ⟨Ao80, co80, eo80⟩ := Kd.R_slice HO172.out; subst eo80; obtain ⟨Ao81, co81, eo81⟩ := Kd.R_slice HO176.out; subst eo81) | (go_at_call 20; (with_reducible refine (tachographref02_Same.calls k _ _ t170 _ _ t174 false _ ?side1 ?side2 ?side3 ?side4 A10.out).mono ?_); (case side1 => repeat (first | exact (Kd.R_reads' HO172.out).2.2 | (with_reducible refine Kd.C_alloc ?_ _) | (with_reducible refine Kd.C_drewN ?_ _) | (with_reducible refine Kd.C_drew ?_))); (case side2 => exact (Kd.R_reads' HO172.out).2.1); (case side3 => repeat (first | exact (Kd.R_reads' HO176.out).2.2 | (with_reducible refine Kd.C_alloc ?_ _) | (with_reducible refine Kd.C_drewN ?_ _) | (with_reducible refine Kd.C_drew ?_))); (case side4 => exact (Kd.R_reads' HO176.out).2.1); rintro e w' ⟨rfl, ⟨nd, rfl⟩⟩))
      go_ret
      exact ⟨by first | rfl | (simp [errW_none, errW_some] <;> rfl) | (simp [*, errW_none, errW_some] <;> rfl), by repeat (first | (with_reducible first | exact HB.out | apply below_alloc | apply pw_below_drewN | apply below_drew1 | refine below_set ?_ (IsS100.ge HI169.out)) | exact HB.out)⟩

/-- THE ONE PURE STATEMENT of tachographlaw13_DictOf: yours. -/
def tachographlaw13_DictOf.Pure : Prop := ∀ (l0 : List (S44)), (Go.Proofs.YtjfklfmfeghjnabOpen.sliceOk 32 (fun b_ : S44 => (Go.Proofs.YtjfklfmfeghjnabOpen.pairOk (Go.Proofs.YtjfklfmfeghjnabOpen.intOk .u64) (Go.Proofs.YtjfklfmfeghjnabOpen.sliceOk 32 (fun b_ : S61 => (Go.Proofs.YtjfklfmfeghjnabOpen.pairOk (Go.Proofs.YtjfklfmfeghjnabOpen.intOk .i64) (Go.Proofs.YtjfklfmfeghjnabOpen.sliceOk 32 (fun b_ : S70 => (Go.Proofs.YtjfklfmfeghjnabOpen.pairOk (Go.Proofs.YtjfklfmfeghjnabOpen.intOk .i64) (Go.Proofs.YtjfklfmfeghjnabOpen.pairOk (Go.Proofs.YtjfklfmfeghjnabOpen.intOk .i64) Go.Proofs.YtjfklfmfeghjnabOpen.strOk)) (b_.f0, b_.f1, b_.f2)))) (b_.f0, b_.f1)))) (b_.f0, b_.f1))) l0 → ((Go.Proofs.YtjfklfmfeghjnabOpen.sliceBulk (fun b_ : S44 => (Go.Proofs.YtjfklfmfeghjnabOpen.pairBulk Go.Proofs.YtjfklfmfeghjnabOpen.oneBulk (Go.Proofs.YtjfklfmfeghjnabOpen.sliceBulk (fun b_ : S61 => (Go.Proofs.YtjfklfmfeghjnabOpen.pairBulk Go.Proofs.YtjfklfmfeghjnabOpen.oneBulk (Go.Proofs.YtjfklfmfeghjnabOpen.sliceBulk (fun b_ : S70 => (Go.Proofs.YtjfklfmfeghjnabOpen.pairBulk Go.Proofs.YtjfklfmfeghjnabOpen.oneBulk (Go.Proofs.YtjfklfmfeghjnabOpen.pairBulk Go.Proofs.YtjfklfmfeghjnabOpen.oneBulk Go.Proofs.YtjfklfmfeghjnabOpen.strBulk)) (b_.f0, b_.f1, b_.f2)))) (b_.f0, b_.f1)))) (b_.f0, b_.f1))) l0 ≤ 1048576) → ∃ k, tachographlaw13_DictOf.f k l0 = some true
theorem tachographlaw13_DictOf.walk (P : tachographlaw13_DictOf.Pure) (a0 : Option Addr) (cap0 : Nat) (l0 : List (S44)) (w : World) (w0 : (Go.Proofs.YtjfklfmfeghjnabOpen.sliceOk 32 (fun b_ : S44 => (Go.Proofs.YtjfklfmfeghjnabOpen.pairOk (Go.Proofs.YtjfklfmfeghjnabOpen.intOk .u64) (Go.Proofs.YtjfklfmfeghjnabOpen.sliceOk 32 (fun b_ : S61 => (Go.Proofs.YtjfklfmfeghjnabOpen.pairOk (Go.Proofs.YtjfklfmfeghjnabOpen.intOk .i64) (Go.Proofs.YtjfklfmfeghjnabOpen.sliceOk 32 (fun b_ : S70 => (Go.Proofs.YtjfklfmfeghjnabOpen.pairOk (Go.Proofs.YtjfklfmfeghjnabOpen.intOk .i64) (Go.Proofs.YtjfklfmfeghjnabOpen.pairOk (Go.Proofs.YtjfklfmfeghjnabOpen.intOk .i64) Go.Proofs.YtjfklfmfeghjnabOpen.strOk)) (b_.f0, b_.f1, b_.f2)))) (b_.f0, b_.f1)))) (b_.f0, b_.f1))) l0) (e0 : l0.length ≤ cap0) (C0 : Kd.C k44 w a0 l0.length l0) (hbk : (Go.Proofs.YtjfklfmfeghjnabOpen.sliceBulk (fun b_ : S44 => (Go.Proofs.YtjfklfmfeghjnabOpen.pairBulk Go.Proofs.YtjfklfmfeghjnabOpen.oneBulk (Go.Proofs.YtjfklfmfeghjnabOpen.sliceBulk (fun b_ : S61 => (Go.Proofs.YtjfklfmfeghjnabOpen.pairBulk Go.Proofs.YtjfklfmfeghjnabOpen.oneBulk (Go.Proofs.YtjfklfmfeghjnabOpen.sliceBulk (fun b_ : S70 => (Go.Proofs.YtjfklfmfeghjnabOpen.pairBulk Go.Proofs.YtjfklfmfeghjnabOpen.oneBulk (Go.Proofs.YtjfklfmfeghjnabOpen.pairBulk Go.Proofs.YtjfklfmfeghjnabOpen.oneBulk Go.Proofs.YtjfklfmfeghjnabOpen.strBulk)) (b_.f0, b_.f1, b_.f2)))) (b_.f0, b_.f1)))) (b_.f0, b_.f1))) l0 ≤ 1048576) :
    Calls Try.prog 4 #[.slice a0 l0.length cap0] w fun e w' => e = .returned (.bool true) ∧ Below w.heap.size w w' := by
  obtain ⟨k, h⟩ := P l0 w0 hbk
  refine (tachographlaw13_DictOf.calls k _ _ l0 true w C0 e0 h).mono ?_
  rintro e w' ⟨rfl, hd⟩
  exact ⟨rfl, hd⟩

end Go.Proofs.Ytjfklfmfeghjnab.PD
