-- Contracts of Go functions, each with its plain Lean function: written by wip/tools/myprint.py of this work (the kit's print, with contracts proved by hand spliced in).
import Derived.Test.YtmmfakdncjeoeaaPCx0
import Derived.Test.YtmmfakdncjeoeaaPCx3
import Derived.Test.YtmmfakdncjeoeaaPCx5
namespace Go.Proofs.Ytmmfakdncjeoeaa.PC
open Go.RowKit Go.Proofs.YtmmfakdncjeoeaaW.PrintWords Go.Proofs.YtmmfakdncjeoeaaW.PrintLast Go.Proofs.YtmmfakdncjeoeaaW.PrintMore
attribute [local go_sem] max2_int min2_int max_two min_two max_three min_three max_four min_four   -- for this text's walks alone
set_option linter.unusedVariables false
set_option linter.unusedSimpArgs false

/-! ### block_whole: function 19 -/
def block_whole.f (k : Nat) (l0 : List (S53)) (l1 : List (S56)) : Option (List Int × Int) := if (l1.length : Int) = 0 then (some (([] : List Int), 1)) else ((trace_Check.f k l0 l1).bind fun bt173 => (if bt173.1 = 0 then (if (l1.length : Int) > 1024 then (some (([] : List Int), 6)) else ((block_payload.f k l1).bind fun t175 => (some (t175, 0)))) else (some (([] : List Int), bt173.1))))
theorem block_whole.mono : ∀ a0 a1 k, LeO (block_whole.f k a0 a1) (block_whole.f (k + 1) a0 a1) := by
 intro a0 a1 k
 unfold block_whole.f
 repeat' first
   | (with_reducible exact block_payload.mono _ _)
   | (with_reducible exact trace_Check.mono _ _ _)
   | (with_reducible exact LeO.refl _)
   | (with_reducible exact LeO.none _)
   | (with_reducible refine LeO.ite ?_ ?_)
   | (with_reducible refine LeO.bind ?_ (fun _ => ?_))
   | exact block_payload.mono _ _
   | exact trace_Check.mono _ _ _
   | exact LeO.none _
   | refine LeO.ite ?_ ?_
   | refine LeO.bind ?_ (fun _ => ?_)
set_option maxHeartbeats 8000000 in
set_option maxRecDepth 100000 in
theorem block_whole.calls (k : Nat) (A0 : Option Addr) (c0 : Nat) (l0 : List (S53)) (A1 : Option Addr) (c1 : Nat) (l1 : List (S56)) (r1 : List Int) (r2 : Int) (w : World) (hr0 : Kd.C k53 w A0 l0.length l0) (hc0 : l0.length ≤ c0) (hr1 : Kd.C k56 w A1 l1.length l1) (hc1 : l1.length ≤ c1) (h : block_whole.f k l0 l1 = some (r1,r2)) :
  Calls Try.prog 19 #[.slice A0 l0.length c0,.slice A1 l1.length c1] w fun e w' => ∃ v0_ : Value,e = .returned (.tuple #[v0_,.int .i64 r2]) ∧ Kd.R (Kd.int .u8) 5 w' w.heap.size (fun _ => True) v0_ r1 ∧ Below w.heap.size w w':=by
 have HR0:=Aside0.mk hr0
 have HC0:=Aside0.mk hc0
 clear hr0 hc0
 have HR1:=Aside0.mk hr1
 have HC1:=Aside0.mk hc1
 clear hr1 hc1
 have HB:=Aside0.mk (Below.refl w.heap.size w)
 have H : (if (l1.length : Int) = 0 then (some (([] : List Int),1)) else ((trace_Check.f k l0 l1).bind fun bt173 => (if bt173.1 = 0 then (if (l1.length : Int) > 1024 then (some (([] : List Int),6)) else ((block_payload.f k l1).bind fun t175 => (some (t175,0)))) else (some (([] : List Int),bt173.1))))) = some (r1,r2):=h
 clear h
 by_cases c3 : (l1.length : Int) = 0
 ·rw [if_pos c3] at H
  have c3b0 : ((l1.length : Int) == 0) = true:=beq_iff_eq.mpr c3
  have c3b1 : ((l1.length : Int) != 0) = false:=bne_eq_false_iff_eq.mpr c3
  clear c3
  simp only [Option.some.injEq,Prod.mk.injEq] at H
  obtain ⟨rfl,rfl⟩:=H
  go_enter Try.func19,Try.ntmps19
  go_wp2
  go_ret2
  exact ⟨_,by first | rfl | (simp [errW_none,errW_some] <;> rfl) | (simp [*,errW_none,errW_some] <;> rfl),by first | exact Kd.R_nil _ _ _ _ _ | exact Kd.N_nil _ _ _ _ _ | exact Kd.V_nil _ _ _ _ _ | exact Kd.Q_nil _ _ _ _ _ | exact Kd.S_nil _ _ _ _ _,by repeat (first | (with_reducible first | exact HB.out | apply below_alloc | apply pw_below_drewN | apply below_drew1) | exact HB.out)⟩
 ·rw [if_neg c3] at H
  have c3b0 : ((l1.length : Int) == 0) = false:=beq_eq_false_iff_ne.mpr c3
  have c3b1 : ((l1.length : Int) != 0) = true:=bne_iff_ne.mpr c3
  have c3b2 : ¬ (l1 = []):=fun h_ => c3 (by rw [h_];rfl)
  replace H:=Option.bind_eq_some_iff.mp H
  obtain ⟨⟨t173,t174⟩,A40,H⟩:=H
  replace H : (if t173 = 0 then (if (l1.length : Int) > 1024 then (some (([] : List Int),6)) else ((block_payload.f k l1).bind fun t175 => (some (t175,0)))) else (some (([] : List Int),t173))) = some (r1,r2):=H
  have A4:=Aside0.mk A40
  clear A40
  by_cases c5 : t173 = 0
  ·rw [if_pos c5] at H
   have c5b0 : (t173 == 0) = true:=beq_iff_eq.mpr c5
   have c5b1 : (t173 != 0) = false:=bne_eq_false_iff_eq.mpr c5
   clear c5
   by_cases c6 : (l1.length : Int) > 1024
   ·rw [if_pos c6] at H
    have c6b0 : decide (1024 < (l1.length : Int)) = true:=decide_eq_true c6
    have c6b1 : decide (1024 < l1.length) = true:=decide_eq_true (by omega)
    clear c6
    simp only [Option.some.injEq,Prod.mk.injEq] at H
    obtain ⟨rfl,rfl⟩:=H
    go_enter Try.func19,Try.ntmps19
    go_wp2_with (first | ((with_reducible refine gate_callee (f:=16) rfl ?_);refine goesL_ (some 14) rfl rfl Try.func16 (by kernel_rfl) rfl #[.slice A0 l0.length c0,.slice A1 l1.length c1] rfl (by (try simp only [List.map_toArray,List.map_cons,List.map_nil]);first | done | rfl | (simp only [List.length_drop,List.length_take];rfl)) ?_;(with_reducible refine (trace_Check.calls k _ _ l0 _ _ l1 t173 t174 _ ?side1 ?side2 ?side3 ?side4 A4.out).mono ?_);(case side1 => repeat (first | exact HR0.out | (with_reducible refine Kd.C_alloc ?_ _) | (with_reducible refine Kd.C_drewN ?_ _) | (with_reducible refine Kd.C_drew ?_)));(case side2 => exact HC0.out);(case side3 => repeat (first | exact HR1.out | (with_reducible refine Kd.C_alloc ?_ _) | (with_reducible refine Kd.C_drewN ?_ _) | (with_reducible refine Kd.C_drew ?_)));(case side4 => exact HC1.out);rintro e w7 ⟨rfl,hb⟩;refine ⟨_,rfl,?_⟩;have n0_:=Aside0.mk (below_step (by repeat (first | (with_reducible first | exact HB.out | apply below_alloc | apply pw_below_drewN | apply below_drew1) | exact HB.out)) hb);clear HB;have HB:=n0_;clear n0_;(try clear hb);(try clear hb2);(try clear hk);(try clear hi)))
    go_ret2
    exact ⟨_,by first | rfl | (simp [errW_none,errW_some] <;> rfl) | (simp [*,errW_none,errW_some] <;> rfl),by first | exact Kd.R_nil _ _ _ _ _ | exact Kd.N_nil _ _ _ _ _ | exact Kd.V_nil _ _ _ _ _ | exact Kd.Q_nil _ _ _ _ _ | exact Kd.S_nil _ _ _ _ _,by repeat (first | (with_reducible first | exact HB.out | apply below_alloc | apply pw_below_drewN | apply below_drew1) | exact HB.out)⟩
   ·rw [if_neg c6] at H
    have c6b0 : decide (1024 < (l1.length : Int)) = false:=decide_eq_false c6
    have c6b1 : decide (1024 < l1.length) = false:=decide_eq_false (by omega)
    clear c6
    replace H:=Option.bind_eq_some_iff.mp H
    obtain ⟨t175,A80,H⟩:=H
    replace H : (some (t175,0)) = some (r1,r2):=H
    have A8:=Aside0.mk A80
    clear A80
    simp only [Option.some.injEq,Prod.mk.injEq] at H
    obtain ⟨rfl,rfl⟩:=H
    go_enter Try.func19,Try.ntmps19
    go_wp2_with (first | ((with_reducible refine gate_callee (f:=16) rfl ?_);refine goesL_ (some 14) rfl rfl Try.func16 (by kernel_rfl) rfl #[.slice A0 l0.length c0,.slice A1 l1.length c1] rfl (by (try simp only [List.map_toArray,List.map_cons,List.map_nil]);first | done | rfl | (simp only [List.length_drop,List.length_take];rfl)) ?_;(with_reducible refine (trace_Check.calls k _ _ l0 _ _ l1 t173 t174 _ ?side1 ?side2 ?side3 ?side4 A4.out).mono ?_);(case side1 => repeat (first | exact HR0.out | (with_reducible refine Kd.C_alloc ?_ _) | (with_reducible refine Kd.C_drewN ?_ _) | (with_reducible refine Kd.C_drew ?_)));(case side2 => exact HC0.out);(case side3 => repeat (first | exact HR1.out | (with_reducible refine Kd.C_alloc ?_ _) | (with_reducible refine Kd.C_drewN ?_ _) | (with_reducible refine Kd.C_drew ?_)));(case side4 => exact HC1.out);rintro e w9 ⟨rfl,hb⟩;refine ⟨_,rfl,?_⟩;have n0_:=Aside0.mk (below_step (by repeat (first | (with_reducible first | exact HB.out | apply below_alloc | apply pw_below_drewN | apply below_drew1) | exact HB.out)) hb);clear HB;have HB:=n0_;clear n0_;(try clear hb);(try clear hb2);(try clear hk);(try clear hi)) | ((with_reducible refine gate_callee (f:=39) rfl ?_);refine goesL_ (some 24) rfl rfl Try.func39 (by kernel_rfl) rfl #[.slice A1 l1.length c1] rfl (by (try simp only [List.map_toArray,List.map_cons,List.map_nil]);first | done | rfl | (simp only [List.length_drop,List.length_take];rfl)) ?_;(with_reducible refine (block_payload.calls k _ _ l1 t175 _ ?side1 ?side2 A8.out).mono ?_);(case side1 => repeat (first | exact (Kd.C_below HR1.out HB.out) | (with_reducible refine Kd.C_alloc ?_ _) | (with_reducible refine Kd.C_drewN ?_ _) | (with_reducible refine Kd.C_drew ?_)));(case side2 => exact HC1.out);rintro e w10 ⟨v176,rfl,ho0,hb⟩;refine ⟨_,rfl,?_⟩;have n0_:=Aside0.mk (Kd.R_lower ho0 (below_size (by repeat (first | (with_reducible first | exact HB.out | apply below_alloc | apply pw_below_drewN | apply below_drew1) | exact HB.out))));have n1_:=Aside0.mk (below_step (by repeat (first | (with_reducible first | exact HB.out | apply below_alloc | apply pw_below_drewN | apply below_drew1) | exact HB.out)) hb);clear HB;have HO177:=n0_;have HB:=n1_;clear n0_ n1_;(try clear hb);(try clear hb2);(try clear hk);(try clear hi);(try clear ho0)))
    go_ret2
    exact ⟨_,by first | rfl | (simp [errW_none,errW_some] <;> rfl) | (simp [*,errW_none,errW_some] <;> rfl),by (with_reducible repeat (first | apply Kd.R_alloc | apply Kd.R_drewN | apply Kd.R_drew));exact HO177.out,by repeat (first | (with_reducible first | exact HB.out | apply below_alloc | apply pw_below_drewN | apply below_drew1) | exact HB.out)⟩
  ·rw [if_neg c5] at H
   have c5b0 : (t173 == 0) = false:=beq_eq_false_iff_ne.mpr c5
   have c5b1 : (t173 != 0) = true:=bne_iff_ne.mpr c5
   simp only [Option.some.injEq,Prod.mk.injEq] at H
   obtain ⟨rfl,rfl⟩:=H
   go_enter Try.func19,Try.ntmps19
   go_wp2_with (first | ((with_reducible refine gate_callee (f:=16) rfl ?_);refine goesL_ (some 14) rfl rfl Try.func16 (by kernel_rfl) rfl #[.slice A0 l0.length c0,.slice A1 l1.length c1] rfl (by (try simp only [List.map_toArray,List.map_cons,List.map_nil]);first | done | rfl | (simp only [List.length_drop,List.length_take];rfl)) ?_;(with_reducible refine (trace_Check.calls k _ _ l0 _ _ l1 t173 t174 _ ?side1 ?side2 ?side3 ?side4 A4.out).mono ?_);(case side1 => repeat (first | exact HR0.out | (with_reducible refine Kd.C_alloc ?_ _) | (with_reducible refine Kd.C_drewN ?_ _) | (with_reducible refine Kd.C_drew ?_)));(case side2 => exact HC0.out);(case side3 => repeat (first | exact HR1.out | (with_reducible refine Kd.C_alloc ?_ _) | (with_reducible refine Kd.C_drewN ?_ _) | (with_reducible refine Kd.C_drew ?_)));(case side4 => exact HC1.out);rintro e w11 ⟨rfl,hb⟩;refine ⟨_,rfl,?_⟩;have n0_:=Aside0.mk (below_step (by repeat (first | (with_reducible first | exact HB.out | apply below_alloc | apply pw_below_drewN | apply below_drew1) | exact HB.out)) hb);clear HB;have HB:=n0_;clear n0_;(try clear hb);(try clear hb2);(try clear hk);(try clear hi)))
   go_ret2
   exact ⟨_,by first | rfl | (simp [errW_none,errW_some] <;> rfl) | (simp [*,errW_none,errW_some] <;> rfl),by first | exact Kd.R_nil _ _ _ _ _ | exact Kd.N_nil _ _ _ _ _ | exact Kd.V_nil _ _ _ _ _ | exact Kd.Q_nil _ _ _ _ _ | exact Kd.S_nil _ _ _ _ _,by repeat (first | (with_reducible first | exact HB.out | apply below_alloc | apply pw_below_drewN | apply below_drew1) | exact HB.out)⟩

/-! ### block_Put: function 10 -/
def block_Put.f (k : Nat) (l0 : List (S53)) (l1 : List (S56)) : Option (List Int × Int) := (block_whole.f k l0 l1).bind fun bt178 => (if bt178.2 = 0 then (if (bt178.1.length : Int) > 4096 then (some (([] : List Int), 6)) else (some (bt178.1, bt178.2))) else (some (bt178.1, bt178.2)))
theorem block_Put.mono : ∀ a0 a1 k, LeO (block_Put.f k a0 a1) (block_Put.f (k + 1) a0 a1) := by
 intro a0 a1 k
 unfold block_Put.f
 repeat' first
   | (with_reducible exact block_whole.mono _ _ _)
   | (with_reducible exact LeO.refl _)
   | (with_reducible exact LeO.none _)
   | (with_reducible refine LeO.ite ?_ ?_)
   | (with_reducible refine LeO.bind ?_ (fun _ => ?_))
   | exact block_whole.mono _ _ _
   | exact LeO.none _
   | refine LeO.ite ?_ ?_
   | refine LeO.bind ?_ (fun _ => ?_)
set_option maxHeartbeats 8000000 in
set_option maxRecDepth 100000 in
theorem block_Put.calls (k : Nat) (A0 : Option Addr) (c0 : Nat) (l0 : List (S53)) (A1 : Option Addr) (c1 : Nat) (l1 : List (S56)) (r1 : List Int) (r2 : Int) (w : World) (hr0 : Kd.C k53 w A0 l0.length l0) (hc0 : l0.length ≤ c0) (hr1 : Kd.C k56 w A1 l1.length l1) (hc1 : l1.length ≤ c1) (h : block_Put.f k l0 l1 = some (r1,r2)) :
  Calls Try.prog 10 #[.slice A0 l0.length c0,.slice A1 l1.length c1] w fun e w' => ∃ v0_ : Value,e = .returned (.tuple #[v0_,.int .i64 r2]) ∧ Kd.R (Kd.int .u8) 5 w' w.heap.size (fun _ => True) v0_ r1 ∧ Below w.heap.size w w':=by
 have HR0:=Aside0.mk hr0
 have HC0:=Aside0.mk hc0
 clear hr0 hc0
 have HR1:=Aside0.mk hr1
 have HC1:=Aside0.mk hc1
 clear hr1 hc1
 have HB:=Aside0.mk (Below.refl w.heap.size w)
 have H : ((block_whole.f k l0 l1).bind fun bt178 => (if bt178.2 = 0 then (if (bt178.1.length : Int) > 4096 then (some (([] : List Int),6)) else (some (bt178.1,bt178.2))) else (some (bt178.1,bt178.2)))) = some (r1,r2):=h
 clear h
 replace H:=Option.bind_eq_some_iff.mp H
 obtain ⟨⟨t178,t179⟩,A30,H⟩:=H
 replace H : (if t179 = 0 then (if (t178.length : Int) > 4096 then (some (([] : List Int),6)) else (some (t178,t179))) else (some (t178,t179))) = some (r1,r2):=H
 have A3:=Aside0.mk A30
 clear A30
 by_cases c4 : t179 = 0
 ·rw [if_pos c4] at H
  have c4b0 : (t179 == 0) = true:=beq_iff_eq.mpr c4
  have c4b1 : (t179 != 0) = false:=bne_eq_false_iff_eq.mpr c4
  clear c4
  by_cases c5 : (t178.length : Int) > 4096
  ·rw [if_pos c5] at H
   have c5b0 : decide (4096 < (t178.length : Int)) = true:=decide_eq_true c5
   have c5b1 : decide (4096 < t178.length) = true:=decide_eq_true (by omega)
   clear c5
   simp only [Option.some.injEq,Prod.mk.injEq] at H
   obtain ⟨rfl,rfl⟩:=H
   go_enter Try.func10,Try.ntmps10
   go_wp2_with (first | ((with_reducible refine gate_callee (f:=19) rfl ?_);refine goesL_ (some 11) rfl rfl Try.func19 (by kernel_rfl) rfl #[.slice A0 l0.length c0,.slice A1 l1.length c1] rfl (by (try simp only [List.map_toArray,List.map_cons,List.map_nil]);first | done | rfl | (simp only [List.length_drop,List.length_take];rfl)) ?_;(with_reducible refine (block_whole.calls k _ _ l0 _ _ l1 t178 t179 _ ?side1 ?side2 ?side3 ?side4 A3.out).mono ?_);(case side1 => repeat (first | exact HR0.out | (with_reducible refine Kd.C_alloc ?_ _) | (with_reducible refine Kd.C_drewN ?_ _) | (with_reducible refine Kd.C_drew ?_)));(case side2 => exact HC0.out);(case side3 => repeat (first | exact HR1.out | (with_reducible refine Kd.C_alloc ?_ _) | (with_reducible refine Kd.C_drewN ?_ _) | (with_reducible refine Kd.C_drew ?_)));(case side4 => exact HC1.out);rintro e w6 ⟨v180,rfl,ho0,hb⟩;refine ⟨_,rfl,?_⟩;have n0_:=Aside0.mk (Kd.R_lower ho0 (below_size (by repeat (first | (with_reducible first | exact HB.out | apply below_alloc | apply pw_below_drewN | apply below_drew1) | exact HB.out))));have n1_:=Aside0.mk (below_step (by repeat (first | (with_reducible first | exact HB.out | apply below_alloc | apply pw_below_drewN | apply below_drew1) | exact HB.out)) hb);clear HB;have HO181:=n0_;have HB:=n1_;clear n0_ n1_;(try clear hb);(try clear hb2);(try clear hk);(try clear hi);(try clear ho0);obtain ⟨Ao7,co7,eo7⟩:=Kd.R_slice HO181.out;subst eo7))
   go_ret2
   exact ⟨_,by first | rfl | (simp [errW_none,errW_some] <;> rfl) | (simp [*,errW_none,errW_some] <;> rfl),by first | exact Kd.R_nil _ _ _ _ _ | exact Kd.N_nil _ _ _ _ _ | exact Kd.V_nil _ _ _ _ _ | exact Kd.Q_nil _ _ _ _ _ | exact Kd.S_nil _ _ _ _ _,by repeat (first | (with_reducible first | exact HB.out | apply below_alloc | apply pw_below_drewN | apply below_drew1) | exact HB.out)⟩
  ·rw [if_neg c5] at H
   have c5b0 : decide (4096 < (t178.length : Int)) = false:=decide_eq_false c5
   have c5b1 : decide (4096 < t178.length) = false:=decide_eq_false (by omega)
   clear c5
   simp only [Option.some.injEq,Prod.mk.injEq] at H
   obtain ⟨rfl,rfl⟩:=H
   go_enter Try.func10,Try.ntmps10
   go_wp2_with (first | ((with_reducible refine gate_callee (f:=19) rfl ?_);refine goesL_ (some 11) rfl rfl Try.func19 (by kernel_rfl) rfl #[.slice A0 l0.length c0,.slice A1 l1.length c1] rfl (by (try simp only [List.map_toArray,List.map_cons,List.map_nil]);first | done | rfl | (simp only [List.length_drop,List.length_take];rfl)) ?_;(with_reducible refine (block_whole.calls k _ _ l0 _ _ l1 t178 t179 _ ?side1 ?side2 ?side3 ?side4 A3.out).mono ?_);(case side1 => repeat (first | exact HR0.out | (with_reducible refine Kd.C_alloc ?_ _) | (with_reducible refine Kd.C_drewN ?_ _) | (with_reducible refine Kd.C_drew ?_)));(case side2 => exact HC0.out);(case side3 => repeat (first | exact HR1.out | (with_reducible refine Kd.C_alloc ?_ _) | (with_reducible refine Kd.C_drewN ?_ _) | (with_reducible refine Kd.C_drew ?_)));(case side4 => exact HC1.out);rintro e w8 ⟨v180,rfl,ho0,hb⟩;refine ⟨_,rfl,?_⟩;have n0_:=Aside0.mk (Kd.R_lower ho0 (below_size (by repeat (first | (with_reducible first | exact HB.out | apply below_alloc | apply pw_below_drewN | apply below_drew1) | exact HB.out))));have n1_:=Aside0.mk (below_step (by repeat (first | (with_reducible first | exact HB.out | apply below_alloc | apply pw_below_drewN | apply below_drew1) | exact HB.out)) hb);clear HB;have HO181:=n0_;have HB:=n1_;clear n0_ n1_;(try clear hb);(try clear hb2);(try clear hk);(try clear hi);(try clear ho0);obtain ⟨Ao9,co9,eo9⟩:=Kd.R_slice HO181.out;subst eo9))
   go_ret2
   exact ⟨_,by first | rfl | (simp [errW_none,errW_some] <;> rfl) | (simp [*,errW_none,errW_some] <;> rfl),by (with_reducible repeat (first | apply Kd.R_alloc | apply Kd.R_drewN | apply Kd.R_drew));exact HO181.out,by repeat (first | (with_reducible first | exact HB.out | apply below_alloc | apply pw_below_drewN | apply below_drew1) | exact HB.out)⟩
 ·rw [if_neg c4] at H
  have c4b0 : (t179 == 0) = false:=beq_eq_false_iff_ne.mpr c4
  have c4b1 : (t179 != 0) = true:=bne_iff_ne.mpr c4
  simp only [Option.some.injEq,Prod.mk.injEq] at H
  obtain ⟨rfl,rfl⟩:=H
  go_enter Try.func10,Try.ntmps10
  go_wp2_with (first | ((with_reducible refine gate_callee (f:=19) rfl ?_);refine goesL_ (some 11) rfl rfl Try.func19 (by kernel_rfl) rfl #[.slice A0 l0.length c0,.slice A1 l1.length c1] rfl (by (try simp only [List.map_toArray,List.map_cons,List.map_nil]);first | done | rfl | (simp only [List.length_drop,List.length_take];rfl)) ?_;(with_reducible refine (block_whole.calls k _ _ l0 _ _ l1 t178 t179 _ ?side1 ?side2 ?side3 ?side4 A3.out).mono ?_);(case side1 => repeat (first | exact HR0.out | (with_reducible refine Kd.C_alloc ?_ _) | (with_reducible refine Kd.C_drewN ?_ _) | (with_reducible refine Kd.C_drew ?_)));(case side2 => exact HC0.out);(case side3 => repeat (first | exact HR1.out | (with_reducible refine Kd.C_alloc ?_ _) | (with_reducible refine Kd.C_drewN ?_ _) | (with_reducible refine Kd.C_drew ?_)));(case side4 => exact HC1.out);rintro e w10 ⟨v180,rfl,ho0,hb⟩;refine ⟨_,rfl,?_⟩;have n0_:=Aside0.mk (Kd.R_lower ho0 (below_size (by repeat (first | (with_reducible first | exact HB.out | apply below_alloc | apply pw_below_drewN | apply below_drew1) | exact HB.out))));have n1_:=Aside0.mk (below_step (by repeat (first | (with_reducible first | exact HB.out | apply below_alloc | apply pw_below_drewN | apply below_drew1) | exact HB.out)) hb);clear HB;have HO181:=n0_;have HB:=n1_;clear n0_ n1_;(try clear hb);(try clear hb2);(try clear hk);(try clear hi);(try clear ho0)))
  go_ret2
  exact ⟨_,by first | rfl | (simp [errW_none,errW_some] <;> rfl) | (simp [*,errW_none,errW_some] <;> rfl),by (with_reducible repeat (first | apply Kd.R_alloc | apply Kd.R_drewN | apply Kd.R_drew));exact HO181.out,by repeat (first | (with_reducible first | exact HB.out | apply below_alloc | apply pw_below_drewN | apply below_drew1) | exact HB.out)⟩

/-! ### cut_Fits: function 36 -/
def cut_Fits.f (k : Nat) (l0 : List (S53)) (a1_0 : Int) (l1_1 : List (S59)) : Option (Bool) := (block_Put.f k l0 (([(⟨a1_0, l1_1⟩ : S56)] : List (S56)))).bind fun bt186 => (some (bt186.2 == 0))
theorem cut_Fits.mono : ∀ a0 a1 a2 k, LeO (cut_Fits.f k a0 a1 a2) (cut_Fits.f (k + 1) a0 a1 a2) := by
 intro a0 a1 a2 k
 unfold cut_Fits.f
 repeat' first
   | (with_reducible exact block_Put.mono _ _ _)
   | (with_reducible exact LeO.refl _)
   | (with_reducible exact LeO.none _)
   | (with_reducible refine LeO.ite ?_ ?_)
   | (with_reducible refine LeO.bind ?_ (fun _ => ?_))
   | exact block_Put.mono _ _ _
   | exact LeO.none _
   | refine LeO.ite ?_ ?_
   | refine LeO.bind ?_ (fun _ => ?_)
set_option maxHeartbeats 8000000 in
set_option maxRecDepth 100000 in
theorem cut_Fits.calls (k : Nat) (A0 : Option Addr) (c0 : Nat) (l0 : List (S53)) (a1_0 : Int) (P1_1_ : Nat → Prop) (A1_1 : Option Addr) (c1_1 : Nat) (l1_1 : List (S59)) (r : Bool) (w : World) (hr0 : Kd.C k53 w A0 l0.length l0) (hc0 : l0.length ≤ c0) (hs1_1 : Kd.V k59 59 w w.heap.size (fun k_ => P1_1_ k_) (.slice A1_1 l1_1.length c1_1) l1_1) (h : cut_Fits.f k l0 a1_0 l1_1 = some r) :
  Calls Try.prog 36 #[.slice A0 l0.length c0,.agg #[.int .u64 a1_0,.slice A1_1 l1_1.length c1_1]] w fun e w' => e = .returned (.bool r) ∧ Below w.heap.size w w':=by
 have hu56:=Try.underlying56
 have HR0:=Aside0.mk hr0
 have HC0:=Aside0.mk hc0
 clear hr0 hc0
 have HO1_1:=Aside0.mk (show Kd.V k59 59 w w.heap.size (fun k_ => (P1_1_ k_ ∨ w.heap.size ≤ k_)) (.slice A1_1 l1_1.length c1_1) l1_1 from Kd.V_mono hs1_1 (fun k_ hk => .inl hk))
 have HB:=Aside0.mk (Below.refl w.heap.size w)
 have H : ((block_Put.f k l0 (([(⟨a1_0,l1_1⟩ : S56)] : List (S56)))).bind fun bt186 => (some (bt186.2 == 0))) = some r:=h
 clear h
 obtain ⟨y183,hy183⟩ : ∃ y_ : List (S56),y_ = (([(⟨a1_0,l1_1⟩ : S56)] : List (S56))):=⟨_,rfl⟩
 replace H : ((block_Put.f k l0 y183).bind fun bt186 => (some (bt186.2 == 0))) = some r:=by first | (rw [hy183];with_reducible exact H) | (have H2_:=(Option.bind_some _ _).symm.trans H;rw [hy183];with_reducible exact H2_) | (have H2_:=(Option.bind_some _ _).symm.trans H;with_reducible exact H2_) | with_reducible exact H | (rw [hy183];exact H) | exact H
 have Ny183:=Aside0.mk hy183
 clear hy183
 replace H:=Option.bind_eq_some_iff.mp H
 obtain ⟨⟨t186,t187⟩,A30,H⟩:=H
 replace H : (some (t187 == 0)) = some r:=H
 have A3:=Aside0.mk A30
 clear A30
 obtain rfl:=Option.some.inj H
 go_enter Try.func36,Try.ntmps36
 go_wp2_with (first | ((with_reducible refine gate_dst (N:=3) rfl ?_);refine box_event ?hg (N:=3) ?hd (cs:=#[.int .u64 a1_0,.slice A1_1 l1_1.length c1_1]) (t:=56) ?hr ?_;(case hd => rfl);(case hg => rfl);(case hr => first | (go_simp;done) | (go_simp;rfl));intro gb182 hg w4 hbox hb;have n0_:=Aside0.mk (Kd.V_below (Kd.V_elderB (by (with_reducible repeat (first | apply Kd.V_alloc | apply Kd.V_drewN | apply Kd.V_drew));exact HO1_1.out) gb182 (Nat.le_of_eq hg.symm)) hb);have n1_:=Aside0.mk (below_step (by repeat (first | (with_reducible first | exact HB.out | apply below_alloc | apply pw_below_drewN | apply below_drew1) | exact HB.out)) hb);have n2_:=Aside0.mk (hbox);have n3_:=Aside0.mk ((by rw [hg];exact (below_size (by repeat (first | (with_reducible first | exact HB.out | apply below_alloc | apply pw_below_drewN | apply below_drew1) | exact HB.out))) : w.heap.size ≤ gb182));have n4_:=Aside0.mk ((by rw [hg];exact (below_size (by repeat (first | (with_reducible first | exact HB.out | apply below_alloc | apply pw_below_drewN | apply below_drew1) | exact HB.out))) : w.heap.size ≤ gb182));clear HO1_1;clear HB;have HO1_1:=n0_;have HB:=n1_;have BK182:=n2_;have GW182:=n3_;have GE182:=n4_;clear n0_ n1_ n2_ n3_ n4_;clear hb hbox hg;have hcz5_0 : w4.cell? ⟨gb182,0,none⟩ = some (.int .u64 a1_0):=(blk_cell BK182.out 0).trans rfl;have hcz5_1 : w4.cell? ⟨gb182,1,none⟩ = some (.slice A1_1 l1_1.length c1_1):=(blk_cell BK182.out 1).trans rfl;have hfz5_0:=blk_frozen BK182.out 0;have hfz5_1:=blk_frozen BK182.out 1) | ((with_reducible refine gate_dst (N:=10) rfl ?_);refine Kd.N_lit k56 _ 56 ?hg (N':=10) ?hd (xs:=([(⟨a1_0,l1_1⟩ : S56)] : List (S56))) (inner:=[.int .u64 a1_0,.slice A1_1 l1_1.length c1_1]) (ok:=(fun k_ => (P1_1_ k_ ∨ w.heap.size ≤ k_) ∧ k_ ≠ gb182)) (okp:=(fun k_ => (P1_1_ k_ ∨ w.heap.size ≤ k_) ∧ k_ ≠ gb182)) ?hr ?hp (fun _ hk => hk) ((show ∀ k_,w4.heap.size ≤ k_ → (fun k_ => (P1_1_ k_ ∨ w.heap.size ≤ k_) ∧ k_ ≠ gb182) k_ from fun k_ hk => ⟨(.inr (Nat.le_trans (below_size (by repeat (first | (with_reducible first | exact HB.out | apply below_alloc | apply pw_below_drewN | apply below_drew1 | refine below_set ?_ GE182.out) | exact HB.out))) hk)),Kd.freshB (g:=gb182) (o:=.cells #[.int .u64 a1_0,.slice A1_1 l1_1.length c1_1] 56 (0,0)) (by (with_reducible repeat (first | refine blk_drewN ?_ _ | refine blk_drew ?_ | refine blk_alloc ?_ _));exact BK182.out) k_ hk⟩) _ (Nat.le_refl _)) (Below.refl _ _) (Nat.le_refl _) (by simp) ?_;(case hd => rfl);(case hg => rfl);(case hr => first | (go_simp;done) | (go_simp;rfl));(case hp => exact (Reps.c2 (show Kd.FK k56 _ _ (⟨a1_0,l1_1⟩ : S56) [.int .u64 a1_0,.slice A1_1 l1_1.length c1_1] from (k56_mkF _ _ (⟨a1_0,l1_1⟩ : S56) (Kd.V_reads' (Kd.V_mono (ok':=(fun k_ => (P1_1_ k_ ∨ w.heap.size ≤ k_) ∧ k_ ≠ gb182)) (HO1_1.out) (fun k_ hk => ⟨hk.1,hk.2⟩))).2.1 (Kd.V_F (Kd.V_mono (ok':=(fun k_ => (P1_1_ k_ ∨ w.heap.size ≤ k_) ∧ k_ ≠ gb182)) (HO1_1.out) (fun k_ hk => ⟨hk.1,hk.2⟩))))) (Reps.none _ _)));intro v184 w6 ho7 hb hg_ hnew_;clear hg_ hnew_;(first | rw [← Ny183.out] at ho7 | (simp only [Int.reduceToNat] at ho7;rw [← Ny183.out] at ho7));have n0_:=Aside0.mk (Kd.V_elder' (by (with_reducible repeat (first | apply Kd.V_alloc | apply Kd.V_drewN | apply Kd.V_drew));exact HO1_1.out) (Kd.N_base ho7) hb);have n1_:=Aside0.mk (Kd.N_lower ho7 (below_size (by repeat (first | (with_reducible first | exact HB.out | apply below_alloc | apply pw_below_drewN | apply below_drew1 | refine below_set ?_ GE182.out) | exact HB.out))));have n2_:=Aside0.mk (blk_below (g:=gb182) (o:=.cells #[.int .u64 a1_0,.slice A1_1 l1_1.length c1_1] 56 (0,0)) (by (with_reducible repeat (first | refine blk_drewN ?_ _ | refine blk_drew ?_ | refine blk_alloc ?_ _));exact BK182.out) hb);have n3_:=Aside0.mk (below_step (by repeat (first | (with_reducible first | exact HB.out | apply below_alloc | apply pw_below_drewN | apply below_drew1 | refine below_set ?_ GE182.out) | exact HB.out)) hb);clear HO1_1;clear BK182;clear HB;have HO1_1:=n0_;have HO185:=n1_;have BK182:=n2_;have HB:=n3_;clear n0_ n1_ n2_ n3_;clear hb ho7;obtain ⟨Ao8,co8,eo8⟩:=Kd.N_slice HO185.out;subst eo8) | ((with_reducible refine gate_callee (f:=10) rfl ?_);refine goesL_ (some 11) rfl rfl Try.func10 (by kernel_rfl) rfl #[.slice A0 l0.length c0,.slice Ao8 y183.length co8] rfl (by (try simp only [List.map_toArray,List.map_cons,List.map_nil]);first | done | rfl | (simp only [List.length_drop,List.length_take];rfl)) ?_;(with_reducible refine (block_Put.calls k _ _ l0 _ _ y183 t186 t187 _ ?side1 ?side2 ?side3 ?side4 A3.out).mono ?_);(case side1 => repeat (first | exact (Kd.C_below HR0.out HB.out) | (with_reducible refine Kd.C_alloc ?_ _) | (with_reducible refine Kd.C_drewN ?_ _) | (with_reducible refine Kd.C_drew ?_)));(case side2 => exact HC0.out);(case side3 => repeat (first | exact (Kd.N_reads' HO185.out).2.2 | (with_reducible refine Kd.C_alloc ?_ _) | (with_reducible refine Kd.C_drewN ?_ _) | (with_reducible refine Kd.C_drew ?_)));(case side4 => exact (Kd.N_reads' HO185.out).2.1);rintro e w9 ⟨v188,rfl,ho0,hb⟩;refine ⟨_,rfl,?_⟩;have n0_:=Aside0.mk (Kd.V_elder' (by (with_reducible repeat (first | apply Kd.V_alloc | apply Kd.V_drewN | apply Kd.V_drew));exact HO1_1.out) (Kd.R_base ho0) hb);have n1_:=Aside0.mk (Kd.N_elder' (by (with_reducible repeat (first | apply Kd.N_alloc | apply Kd.N_drewN | apply Kd.N_drew));exact HO185.out) (Kd.R_base ho0) hb);have n2_:=Aside0.mk (Kd.R_lower (Kd.R_newM (M:=fun k_ => (w.heap.size ≤ k_)) ho0 (below_size (by repeat (first | (with_reducible first | exact HB.out | apply below_alloc | apply pw_below_drewN | apply below_drew1 | refine below_set ?_ GE182.out) | exact HB.out))) (fun k_ h_ => h_)) (below_size (by repeat (first | (with_reducible first | exact HB.out | apply below_alloc | apply pw_below_drewN | apply below_drew1 | refine below_set ?_ GE182.out) | exact HB.out))));have n3_:=Aside0.mk (blk_below (g:=gb182) (o:=.cells #[.int .u64 a1_0,.slice A1_1 l1_1.length c1_1] 56 (0,0)) (by (with_reducible repeat (first | refine blk_drewN ?_ _ | refine blk_drew ?_ | refine blk_alloc ?_ _));exact BK182.out) hb);have n4_:=Aside0.mk (below_step (by repeat (first | (with_reducible first | exact HB.out | apply below_alloc | apply pw_below_drewN | apply below_drew1 | refine below_set ?_ GE182.out) | exact HB.out)) hb);clear HO1_1;clear HO185;clear BK182;clear HB;have HO1_1:=n0_;have HO185:=n1_;have HO189:=n2_;have BK182:=n3_;have HB:=n4_;clear n0_ n1_ n2_ n3_ n4_;(try clear hb);(try clear hb2);(try clear hk);(try clear hi);(try clear ho0)))
 go_ret
 exact ⟨by first | rfl | (simp [errW_none,errW_some] <;> rfl) | (simp [*,errW_none,errW_some] <;> rfl),by repeat (first | (with_reducible first | exact HB.out | apply below_alloc | apply pw_below_drewN | apply below_drew1 | refine below_set ?_ GE182.out) | exact HB.out)⟩

/-! ### block_Size: function 55 -/
def block_Size.f (k : Nat) (l0 : List (S53)) (l1 : List (S56)) : Option (Int × Int) := (block_whole.f k l0 l1).bind fun bt190 => (some ((bt190.1.length : Int), bt190.2))
theorem block_Size.mono : ∀ a0 a1 k, LeO (block_Size.f k a0 a1) (block_Size.f (k + 1) a0 a1) := by
 intro a0 a1 k
 unfold block_Size.f
 repeat' first
   | (with_reducible exact block_whole.mono _ _ _)
   | (with_reducible exact LeO.refl _)
   | (with_reducible exact LeO.none _)
   | (with_reducible refine LeO.ite ?_ ?_)
   | (with_reducible refine LeO.bind ?_ (fun _ => ?_))
   | exact block_whole.mono _ _ _
   | exact LeO.none _
   | refine LeO.ite ?_ ?_
   | refine LeO.bind ?_ (fun _ => ?_)
set_option maxHeartbeats 8000000 in
set_option maxRecDepth 100000 in
theorem block_Size.calls (k : Nat) (A0 : Option Addr) (c0 : Nat) (l0 : List (S53)) (A1 : Option Addr) (c1 : Nat) (l1 : List (S56)) (r1 : Int) (r2 : Int) (w : World) (hr0 : Kd.C k53 w A0 l0.length l0) (hc0 : l0.length ≤ c0) (hr1 : Kd.C k56 w A1 l1.length l1) (hc1 : l1.length ≤ c1) (h : block_Size.f k l0 l1 = some (r1,r2)) :
  Calls Try.prog 55 #[.slice A0 l0.length c0,.slice A1 l1.length c1] w fun e w' => e = .returned (.tuple #[.int .i64 r1,.int .i64 r2]) ∧ Below w.heap.size w w':=by
 have HR0:=Aside0.mk hr0
 have HC0:=Aside0.mk hc0
 clear hr0 hc0
 have HR1:=Aside0.mk hr1
 have HC1:=Aside0.mk hc1
 clear hr1 hc1
 have HB:=Aside0.mk (Below.refl w.heap.size w)
 have H : ((block_whole.f k l0 l1).bind fun bt190 => (some ((bt190.1.length : Int),bt190.2))) = some (r1,r2):=h
 clear h
 replace H:=Option.bind_eq_some_iff.mp H
 obtain ⟨⟨t190,t191⟩,A30,H⟩:=H
 replace H : (some ((t190.length : Int),t191)) = some (r1,r2):=H
 have A3:=Aside0.mk A30
 clear A30
 simp only [Option.some.injEq,Prod.mk.injEq] at H
 obtain ⟨rfl,rfl⟩:=H
 go_enter Try.func55,Try.ntmps55
 go_wp2_with (first | ((with_reducible refine gate_callee (f:=19) rfl ?_);refine goesL_ (some 11) rfl rfl Try.func19 (by kernel_rfl) rfl #[.slice A0 l0.length c0,.slice A1 l1.length c1] rfl (by (try simp only [List.map_toArray,List.map_cons,List.map_nil]);first | done | rfl | (simp only [List.length_drop,List.length_take];rfl)) ?_;(with_reducible refine (block_whole.calls k _ _ l0 _ _ l1 t190 t191 _ ?side1 ?side2 ?side3 ?side4 A3.out).mono ?_);(case side1 => repeat (first | exact HR0.out | (with_reducible refine Kd.C_alloc ?_ _) | (with_reducible refine Kd.C_drewN ?_ _) | (with_reducible refine Kd.C_drew ?_)));(case side2 => exact HC0.out);(case side3 => repeat (first | exact HR1.out | (with_reducible refine Kd.C_alloc ?_ _) | (with_reducible refine Kd.C_drewN ?_ _) | (with_reducible refine Kd.C_drew ?_)));(case side4 => exact HC1.out);rintro e w4 ⟨v192,rfl,ho0,hb⟩;refine ⟨_,rfl,?_⟩;have n0_:=Aside0.mk (Kd.R_lower ho0 (below_size (by repeat (first | (with_reducible first | exact HB.out | apply below_alloc | apply pw_below_drewN | apply below_drew1) | exact HB.out))));have n1_:=Aside0.mk (below_step (by repeat (first | (with_reducible first | exact HB.out | apply below_alloc | apply pw_below_drewN | apply below_drew1) | exact HB.out)) hb);clear HB;have HO193:=n0_;have HB:=n1_;clear n0_ n1_;(try clear hb);(try clear hb2);(try clear hk);(try clear hi);(try clear ho0);obtain ⟨Ao5,co5,eo5⟩:=Kd.R_slice HO193.out;subst eo5))
 go_ret2
 exact ⟨by first | rfl | (simp [errW_none,errW_some] <;> rfl) | (simp [*,errW_none,errW_some] <;> rfl),by repeat (first | (with_reducible first | exact HB.out | apply below_alloc | apply pw_below_drewN | apply below_drew1) | exact HB.out)⟩

/-! ### cut_end_1: function 54 -/
def cut_end_1.f (k : Nat) (a0 : Int) (l1 : List (S53)) (l2 : List (S56)) : Option (Bool) := if 0 ≤ (wrap64 (a0 + 1)) then (if (wrap64 (a0 + 1)) ≤ (l2.length : Int) then ((block_Size.f k l1 (l2.take ((wrap64 (a0 + 1)) : Int).toNat)).bind fun bt198 => (if bt198.2 = 0 then (some (decide (bt198.1 > 4096))) else (some true))) else (none)) else (none)
theorem cut_end_1.mono : ∀ a0 a1 a2 k, LeO (cut_end_1.f k a0 a1 a2) (cut_end_1.f (k + 1) a0 a1 a2) := by
 intro a0 a1 a2 k
 unfold cut_end_1.f
 repeat' first
   | (with_reducible exact block_Size.mono _ _ _)
   | (with_reducible exact LeO.refl _)
   | (with_reducible exact LeO.none _)
   | (with_reducible refine LeO.ite ?_ ?_)
   | (with_reducible refine LeO.bind ?_ (fun _ => ?_))
   | exact block_Size.mono _ _ _
   | exact LeO.none _
   | refine LeO.ite ?_ ?_
   | refine LeO.bind ?_ (fun _ => ?_)
def cut_end_1.T1 : Bool × List (List Nat × List Nat) := (true, [([], []), ([], []), ([], []), ([2], [2]), ([1, 3], [1, 3]), ([0, 4], [0, 4]), ([5], [5]), ([6], [6]), ([6], [6]), ([7, 5, 0, 1, 2, 3, 4, 5, 6, 7], [7]), ([8, 9, 0, 1, 2, 3, 4, 5, 6, 7, 8, 9], [8])])
def cut_end_1.B1 : List Nat := [0, 0, 0, 4, 14, 31, 63, 127, 127, 255, 1023]
theorem cut_end_1.tab1 : rtab .any (opsOf Try.f54 1) = cut_end_1.T1 := by kernel_rfl
theorem cut_end_1.bits1 : waitsOk cut_end_1.T1.2 cut_end_1.B1 = true := by kernel_rfl
set_option maxHeartbeats 8000000 in
set_option maxRecDepth 100000 in
theorem cut_end_1.calls (k : Nat) (a0 : Int) (A1 : Option Addr) (c1 : Nat) (l1 : List (S53)) (A2 : Option Addr) (c2 : Nat) (l2 : List (S56)) (r : Bool) (w : World) (hr1 : Kd.C k53 w A1 l1.length l1) (hc1 : l1.length ≤ c1) (hr2 : Kd.C k56 w A2 l2.length l2) (hc2 : l2.length ≤ c2) (g1 g2 : Nat) (hg1 : w.heap[g1]? = some (.cells #[.slice A1 l1.length c1] 22 (0,0))) (hg2 : w.heap[g2]? = some (.cells #[.slice A2 l2.length c2] 23 (0,0))) (h : cut_end_1.f k a0 l1 l2 = some r) :
  Calls Try.prog 54 #[.int .i64 a0,.pointer (some ⟨g1,0,none⟩),.pointer (some ⟨g2,0,none⟩)] w fun e w' => e = .returned (.bool r) ∧ Below w.heap.size w w':=by
 have HR1:=Aside0.mk hr1
 have HC1:=Aside0.mk hc1
 clear hr1 hc1
 have HR2:=Aside0.mk hr2
 have HC2:=Aside0.mk hc2
 clear hr2 hc2
 have HB:=Aside0.mk (Below.refl w.heap.size w)
 have HG1:=Aside0.mk hg1
 have HG2:=Aside0.mk hg2
 clear hg1 hg2
 have H : (if 0 ≤ (wrap64 (a0 + 1)) then (if (wrap64 (a0 + 1)) ≤ (l2.length : Int) then ((block_Size.f k l1 (l2.take ((wrap64 (a0 + 1)) : Int).toNat)).bind fun bt198 => (if bt198.2 = 0 then (some (decide (bt198.1 > 4096))) else (some true))) else (none)) else (none)) = some r:=h
 clear h
 obtain ⟨ji4,hji4⟩ : ∃ j_ : Int,(wrap64 (a0 + 1)) = j_:=⟨_,rfl⟩
 replace H : (if 0 ≤ (ji4) then (if (ji4) ≤ (l2.length : Int) then ((block_Size.f k l1 (l2.take ((ji4) : Int).toNat)).bind fun bt198 => (if bt198.2 = 0 then (some (decide (bt198.1 > 4096))) else (some true))) else (none)) else (none)) = some r:=by first | (rw [hji4] at H;exact H) | (simp only [hji4] at H ⊢;exact H)
 have hji4w : (IntKind.i64.wrap (a0 + 1)) = ji4:=(i64_w _).trans hji4
 by_cases c5 : 0 ≤ (ji4)
 ·rw [if_pos c5] at H
  have c5b0:=eq_true c5
  have c5b1 : decide (0 ≤ (ji4)) = true:=decide_eq_true c5
  clear c5
  by_cases c6 : (ji4) ≤ (l2.length : Int)
  ·rw [if_pos c6] at H
   have c6b0:=eq_true c6
   have c6b1 : decide ((ji4) ≤ (l2.length : Int)) = true:=decide_eq_true c6
   clear c6
   obtain ⟨y194,hy194⟩ : ∃ y_ : List (S56),y_ = (l2.take ((ji4) : Int).toNat):=⟨_,rfl⟩
   replace H : ((block_Size.f k l1 y194).bind fun bt198 => (if bt198.2 = 0 then (some (decide (bt198.1 > 4096))) else (some true))) = some r:=by first | (rw [hy194];with_reducible exact H) | (have H2_:=(Option.bind_some _ _).symm.trans H;rw [hy194];with_reducible exact H2_) | (have H2_:=(Option.bind_some _ _).symm.trans H;with_reducible exact H2_) | with_reducible exact H | (rw [hy194];exact H) | exact H
   have Ny194:=Aside0.mk hy194
   clear hy194
   replace H:=Option.bind_eq_some_iff.mp H
   obtain ⟨⟨t198,t199⟩,A70,H⟩:=H
   replace H : (if t199 = 0 then (some (decide (t198 > 4096))) else (some true)) = some r:=H
   have A7:=Aside0.mk A70
   clear A70
   by_cases c8 : t199 = 0
   ·rw [if_pos c8] at H
    have c8b0 : (t199 == 0) = true:=beq_iff_eq.mpr c8
    have c8b1 : (t199 != 0) = false:=bne_eq_false_iff_eq.mpr c8
    clear c8
    obtain rfl:=Option.some.inj H
    go_enter Try.func54,Try.ntmps54
    try go_wp2
    have n0_:=Aside0.mk (below_drew1 HB.out)
    clear HB
    have HB:=n0_
    clear n0_
    have q10 : ((ji4) : Int) ≤ ((l2.length : Int) : Int):=of_decide_eq_true (by first | (with_reducible assumption) | assumption)
    obtain ⟨i010,hi010,_,hsz10,_⟩:=info_parts info56
    have hroom10 : l2.length ≤ c2:=HC2.out
    have hC10 : Kd.C k56 _ A2 l2.length l2:=HR2.out
    have hcut10:=cut_to (P:=Try.prog) 23 56 .i64 Try.underlying23 hi010 A2 l2.length c2 (ji4) (of_decide_eq_true (by first | (with_reducible assumption) | assumption)) q10 hroom10
    have hr10:=Kd.C_take (m:=((ji4) : Int).toNat) hC10 (by omega)
    have hy10 : y194.length = ((ji4) : Int).toNat:=(by rw [Ny194.out,List.length_take];omega)
    rw [← Ny194.out] at hr10
    rw [← hy10] at hcut10
    have HR197:=Aside0.mk hr10
    have HC197:=Aside0.mk (show y194.length ≤ c2 from by omega)
    clear hr10 hC10 hroom10 hi010 hsz10
    have KY10:=Aside0.mk hy10
    clear hy10
    replace q10:=eq_true q10
    refine start_ (n:=11) (S:=fun w' => w'.cell? ⟨g1,0,none⟩ = some (.slice A1 l1.length c1) ∧ w'.cell? ⟨g2,0,none⟩ = some (.slice A2 l2.length c2)) (ds:=[]) #[n_,n_,n_,n_,n_,n_,n_,n_,n_,n_,n_] (by kernel_rfl) rfl rfl ⟨(blk_cell ((HB.out.block g1 (blk_lt HG1.out)).trans HG1.out) 0).trans rfl,(blk_cell ((HB.out.block g2 (blk_lt HG2.out)).trans HG2.out) 0).trans rfl⟩ (fun hHeld => ?_);refine with_tabW cut_end_1.tab1 cut_end_1.bits1 (fun HT_ HW_ => ?_)
    generalize w.drew = w9 at HB HR197 hHeld ⊢
    refine take_ (i:=0) (N:=some 8) (v:=?_) (a':=?_) #[y_,n_,n_,n_,n_,n_,n_,n_,n_,n_,n_] rfl rfl (take_ofW HT_.out HW_.out (by kernel_rfl)) (fun _ _ _ h => h) (Or.inl ⟨by rfl,?_⟩) hHeld ?_ ?_
    rotate_left
    ·rintro w' ⟨s0,s1⟩
     go_simp
     with_reducible rfl
    rotate_left
    ·simp only [Act.put,sA_,sB_,sC_,i64_w,i32_w]
     rfl
    refine take_ (i:=1) (N:=some 9) (v:=?_) (a':=?_) #[y_,y_,n_,n_,n_,n_,n_,n_,n_,n_,n_] rfl rfl (take_ofW HT_.out HW_.out (by kernel_rfl)) (fun _ _ _ h => h) (Or.inl ⟨by rfl,?_⟩) hHeld ?_ ?_
    rotate_left
    ·rintro w' ⟨s0,s1⟩
     go_simp
     with_reducible rfl
    rotate_left
    ·simp only [Act.put,sA_,sB_,sC_,i64_w,i32_w]
     rfl
    refine pure_ (i:=2) (N:=some 10) (v:=?_) (a':=?_) #[y_,y_,y_,n_,n_,n_,n_,n_,n_,n_,n_] rfl rfl (any_of HT_.out (by kernel_rfl)) (fun _ _ _ h => h) (Or.inl ⟨by rfl,?_⟩) ?_ ?_
    rotate_left
    ·intro w'
     go_simp
     with_reducible rfl
    rotate_left
    ·simp only [Act.put,sA_,sB_,sC_,i64_w,i32_w]
     rfl
    refine pure_ (i:=3) (N:=some 11) (v:=?_) (a':=?_) #[y_,y_,y_,y_,n_,n_,n_,n_,n_,n_,n_] rfl rfl (any_of HT_.out (by kernel_rfl)) (fun _ _ _ h => h) (Or.inl ⟨by rfl,?_⟩) ?_ ?_
    rotate_left
    ·intro w'
     go_simp
     with_reducible rfl
    rotate_left
    ·simp only [Act.put,sA_,sB_,sC_,i64_w,i32_w]
     rfl
    refine pure_ (i:=4) (N:=some 12) (v:=?_) (a':=?_) #[y_,y_,y_,y_,y_,n_,n_,n_,n_,n_,n_] rfl rfl (any_of HT_.out (by kernel_rfl)) (fun _ _ _ h => h) (Or.inl ⟨by rfl,?_⟩) ?_ ?_
    rotate_left
    ·intro w'
     go_simp
     with_reducible rfl
    rotate_left
    ·simp only [Act.put,sA_,sB_,sC_,i64_w,i32_w]
     rfl
    refine one_ (i:=5) (N:=some 13) #[y_,y_,y_,y_,y_,y_,n_,n_,n_,n_,n_] rfl rfl (one_of HT_.out (by kernel_rfl)) (by decide) (fun K hK => ?_)
    refine goes_ Try.func55 (by kernel_rfl) rfl #[.slice A1 l1.length c1,.slice A2 y194.length c2] (by rfl) rfl rfl (by (try simp only [List.map_toArray,List.map_cons,List.map_nil]);first | done | rfl | (simp only [List.length_drop,List.length_take];rfl)) ?_
    with_reducible refine (block_Size.calls k _ _ l1 _ _ y194 t198 t199 _ ?side1 ?side2 ?side3 ?side4 A7.out).mono ?_
    (case side1 => repeat (first | exact (Kd.C_below HR1.out HB.out) | (with_reducible refine Kd.C_alloc ?_ _) | (with_reducible refine Kd.C_drewN ?_ _) | (with_reducible refine Kd.C_drew ?_)))
    (case side2 => exact HC1.out)
    (case side3 => repeat (first | exact (Kd.C_below HR197.out HB.out) | (with_reducible refine Kd.C_alloc ?_ _) | (with_reducible refine Kd.C_drewN ?_ _) | (with_reducible refine Kd.C_drew ?_)))
    (case side4 => exact HC197.out)
    rintro e w11 ⟨rfl,hb⟩
    refine ⟨_,rfl,?_⟩
    have n0_:=Aside0.mk (below_step (by repeat (first | (with_reducible first | exact HB.out | apply below_alloc | apply pw_below_drewN | apply below_drew1) | exact HB.out)) hb)
    clear HB
    have HB:=n0_
    clear n0_
    (try clear hb)
    (try clear hb2)
    (try clear hk)
    (try clear hi)
    refine hK.out _ _ ⟨(blk_cell ((HB.out.block g1 (blk_lt HG1.out)).trans HG1.out) 0).trans rfl,(blk_cell ((HB.out.block g2 (blk_lt HG2.out)).trans HG2.out) 0).trans rfl⟩ (fun hHeld => ?_)
    clear hK K
    refine norm_ (a':=?_) ?_ ?_
    rotate_left
    ·show Act.put _ (some 13) _ = _
     simp only [Act.put,sA_,sB_,sC_,i64_w,i32_w]
     rfl
    refine pure_ (i:=6) (N:=some 7) (v:=?_) (a':=?_) #[y_,y_,y_,y_,y_,y_,y_,n_,n_,n_,n_] rfl rfl (any_of HT_.out (by kernel_rfl)) (fun _ _ _ h => h) (Or.inl ⟨by rfl,?_⟩) ?_ ?_
    rotate_left
    ·intro w'
     go_simp
     with_reducible rfl
    rotate_left
    ·simp only [Act.put,sA_,sB_,sC_,i64_w,i32_w]
     rfl
    refine pure_ (i:=7) (N:=some 14) (v:=?_) (a':=?_) #[y_,y_,y_,y_,y_,y_,y_,y_,n_,n_,n_] rfl rfl (any_of HT_.out (by kernel_rfl)) (fun _ _ _ h => h) (Or.inl ⟨by rfl,?_⟩) ?_ ?_
    rotate_left
    ·intro w'
     go_simp
     with_reducible rfl
    rotate_left
    ·simp only [Act.put,sA_,sB_,sC_,i64_w,i32_w]
     rfl
    refine pure_ (i:=8) (N:=some 15) (v:=?_) (a':=?_) #[y_,y_,y_,y_,y_,y_,y_,y_,y_,n_,n_] rfl rfl (any_of HT_.out (by kernel_rfl)) (fun _ _ _ h => h) (Or.inl ⟨by rfl,?_⟩) ?_ ?_
    rotate_left
    ·intro w'
     go_simp
     with_reducible rfl
    rotate_left
    ·simp only [Act.put,sA_,sB_,sC_,i64_w,i32_w]
     rfl
    refine pure_ (i:=9) (N:=some 5) (v:=?_) (a':=?_) #[y_,y_,y_,y_,y_,y_,y_,y_,y_,y_,n_] rfl rfl (any_of HT_.out (by kernel_rfl)) (fun _ _ _ h => h) (Or.inl ⟨by rfl,?_⟩) ?_ ?_
    rotate_left
    ·intro w'
     go_simp
     with_reducible rfl
    rotate_left
    ·simp only [Act.put,sA_,sB_,sC_,i64_w,i32_w]
     rfl
    refine pure_ (i:=10) (N:=some 6) (v:=?_) (a':=?_) #[y_,y_,y_,y_,y_,y_,y_,y_,y_,y_,y_] rfl rfl (any_of HT_.out (by kernel_rfl)) (fun _ _ _ h => h) (Or.inl ⟨by rfl,?_⟩) ?_ ?_
    rotate_left
    ·intro w'
     go_simp
     with_reducible rfl
    rotate_left
    ·simp only [Act.put,sA_,sB_,sC_,i64_w,i32_w]
     rfl
    refine done_ (done_of HT_.out (by kernel_rfl)) ?_
    try go_wp2
    go_ret
    exact ⟨by first | rfl | (simp [errW_none,errW_some] <;> rfl) | (simp only [← hji4];first | rfl | (simp [errW_none,errW_some] <;> rfl)) | (simp [*,errW_none,errW_some] <;> rfl),by repeat (first | (with_reducible first | exact HB.out | apply below_alloc | apply pw_below_drewN | apply below_drew1) | exact HB.out)⟩
   ·rw [if_neg c8] at H
    have c8b0 : (t199 == 0) = false:=beq_eq_false_iff_ne.mpr c8
    have c8b1 : (t199 != 0) = true:=bne_iff_ne.mpr c8
    obtain rfl:=Option.some.inj H
    go_enter Try.func54,Try.ntmps54
    try go_wp2
    have n0_:=Aside0.mk (below_drew1 HB.out)
    clear HB
    have HB:=n0_
    clear n0_
    have q13 : ((ji4) : Int) ≤ ((l2.length : Int) : Int):=of_decide_eq_true (by first | (with_reducible assumption) | assumption)
    obtain ⟨i013,hi013,_,hsz13,_⟩:=info_parts info56
    have hroom13 : l2.length ≤ c2:=HC2.out
    have hC13 : Kd.C k56 _ A2 l2.length l2:=HR2.out
    have hcut13:=cut_to (P:=Try.prog) 23 56 .i64 Try.underlying23 hi013 A2 l2.length c2 (ji4) (of_decide_eq_true (by first | (with_reducible assumption) | assumption)) q13 hroom13
    have hr13:=Kd.C_take (m:=((ji4) : Int).toNat) hC13 (by omega)
    have hy13 : y194.length = ((ji4) : Int).toNat:=(by rw [Ny194.out,List.length_take];omega)
    rw [← Ny194.out] at hr13
    rw [← hy13] at hcut13
    have HR197:=Aside0.mk hr13
    have HC197:=Aside0.mk (show y194.length ≤ c2 from by omega)
    clear hr13 hC13 hroom13 hi013 hsz13
    have KY13:=Aside0.mk hy13
    clear hy13
    replace q13:=eq_true q13
    refine start_ (n:=11) (S:=fun w' => w'.cell? ⟨g1,0,none⟩ = some (.slice A1 l1.length c1) ∧ w'.cell? ⟨g2,0,none⟩ = some (.slice A2 l2.length c2)) (ds:=[]) #[n_,n_,n_,n_,n_,n_,n_,n_,n_,n_,n_] (by kernel_rfl) rfl rfl ⟨(blk_cell ((HB.out.block g1 (blk_lt HG1.out)).trans HG1.out) 0).trans rfl,(blk_cell ((HB.out.block g2 (blk_lt HG2.out)).trans HG2.out) 0).trans rfl⟩ (fun hHeld => ?_);refine with_tabW cut_end_1.tab1 cut_end_1.bits1 (fun HT_ HW_ => ?_)
    generalize w.drew = w12 at HB HR197 hHeld ⊢
    refine take_ (i:=0) (N:=some 8) (v:=?_) (a':=?_) #[y_,n_,n_,n_,n_,n_,n_,n_,n_,n_,n_] rfl rfl (take_ofW HT_.out HW_.out (by kernel_rfl)) (fun _ _ _ h => h) (Or.inl ⟨by rfl,?_⟩) hHeld ?_ ?_
    rotate_left
    ·rintro w' ⟨s0,s1⟩
     go_simp
     with_reducible rfl
    rotate_left
    ·simp only [Act.put,sA_,sB_,sC_,i64_w,i32_w]
     rfl
    refine take_ (i:=1) (N:=some 9) (v:=?_) (a':=?_) #[y_,y_,n_,n_,n_,n_,n_,n_,n_,n_,n_] rfl rfl (take_ofW HT_.out HW_.out (by kernel_rfl)) (fun _ _ _ h => h) (Or.inl ⟨by rfl,?_⟩) hHeld ?_ ?_
    rotate_left
    ·rintro w' ⟨s0,s1⟩
     go_simp
     with_reducible rfl
    rotate_left
    ·simp only [Act.put,sA_,sB_,sC_,i64_w,i32_w]
     rfl
    refine pure_ (i:=2) (N:=some 10) (v:=?_) (a':=?_) #[y_,y_,y_,n_,n_,n_,n_,n_,n_,n_,n_] rfl rfl (any_of HT_.out (by kernel_rfl)) (fun _ _ _ h => h) (Or.inl ⟨by rfl,?_⟩) ?_ ?_
    rotate_left
    ·intro w'
     go_simp
     with_reducible rfl
    rotate_left
    ·simp only [Act.put,sA_,sB_,sC_,i64_w,i32_w]
     rfl
    refine pure_ (i:=3) (N:=some 11) (v:=?_) (a':=?_) #[y_,y_,y_,y_,n_,n_,n_,n_,n_,n_,n_] rfl rfl (any_of HT_.out (by kernel_rfl)) (fun _ _ _ h => h) (Or.inl ⟨by rfl,?_⟩) ?_ ?_
    rotate_left
    ·intro w'
     go_simp
     with_reducible rfl
    rotate_left
    ·simp only [Act.put,sA_,sB_,sC_,i64_w,i32_w]
     rfl
    refine pure_ (i:=4) (N:=some 12) (v:=?_) (a':=?_) #[y_,y_,y_,y_,y_,n_,n_,n_,n_,n_,n_] rfl rfl (any_of HT_.out (by kernel_rfl)) (fun _ _ _ h => h) (Or.inl ⟨by rfl,?_⟩) ?_ ?_
    rotate_left
    ·intro w'
     go_simp
     with_reducible rfl
    rotate_left
    ·simp only [Act.put,sA_,sB_,sC_,i64_w,i32_w]
     rfl
    refine one_ (i:=5) (N:=some 13) #[y_,y_,y_,y_,y_,y_,n_,n_,n_,n_,n_] rfl rfl (one_of HT_.out (by kernel_rfl)) (by decide) (fun K hK => ?_)
    refine goes_ Try.func55 (by kernel_rfl) rfl #[.slice A1 l1.length c1,.slice A2 y194.length c2] (by rfl) rfl rfl (by (try simp only [List.map_toArray,List.map_cons,List.map_nil]);first | done | rfl | (simp only [List.length_drop,List.length_take];rfl)) ?_
    with_reducible refine (block_Size.calls k _ _ l1 _ _ y194 t198 t199 _ ?side1 ?side2 ?side3 ?side4 A7.out).mono ?_
    (case side1 => repeat (first | exact (Kd.C_below HR1.out HB.out) | (with_reducible refine Kd.C_alloc ?_ _) | (with_reducible refine Kd.C_drewN ?_ _) | (with_reducible refine Kd.C_drew ?_)))
    (case side2 => exact HC1.out)
    (case side3 => repeat (first | exact (Kd.C_below HR197.out HB.out) | (with_reducible refine Kd.C_alloc ?_ _) | (with_reducible refine Kd.C_drewN ?_ _) | (with_reducible refine Kd.C_drew ?_)))
    (case side4 => exact HC197.out)
    rintro e w14 ⟨rfl,hb⟩
    refine ⟨_,rfl,?_⟩
    have n0_:=Aside0.mk (below_step (by repeat (first | (with_reducible first | exact HB.out | apply below_alloc | apply pw_below_drewN | apply below_drew1) | exact HB.out)) hb)
    clear HB
    have HB:=n0_
    clear n0_
    (try clear hb)
    (try clear hb2)
    (try clear hk)
    (try clear hi)
    refine hK.out _ _ ⟨(blk_cell ((HB.out.block g1 (blk_lt HG1.out)).trans HG1.out) 0).trans rfl,(blk_cell ((HB.out.block g2 (blk_lt HG2.out)).trans HG2.out) 0).trans rfl⟩ (fun hHeld => ?_)
    clear hK K
    refine norm_ (a':=?_) ?_ ?_
    rotate_left
    ·show Act.put _ (some 13) _ = _
     simp only [Act.put,sA_,sB_,sC_,i64_w,i32_w]
     rfl
    refine pure_ (i:=6) (N:=some 7) (v:=?_) (a':=?_) #[y_,y_,y_,y_,y_,y_,y_,n_,n_,n_,n_] rfl rfl (any_of HT_.out (by kernel_rfl)) (fun _ _ _ h => h) (Or.inl ⟨by rfl,?_⟩) ?_ ?_
    rotate_left
    ·intro w'
     go_simp
     with_reducible rfl
    rotate_left
    ·simp only [Act.put,sA_,sB_,sC_,i64_w,i32_w]
     rfl
    refine pure_ (i:=7) (N:=some 14) (v:=?_) (a':=?_) #[y_,y_,y_,y_,y_,y_,y_,y_,n_,n_,n_] rfl rfl (any_of HT_.out (by kernel_rfl)) (fun _ _ _ h => h) (Or.inl ⟨by rfl,?_⟩) ?_ ?_
    rotate_left
    ·intro w'
     go_simp
     with_reducible rfl
    rotate_left
    ·simp only [Act.put,sA_,sB_,sC_,i64_w,i32_w]
     rfl
    refine pure_ (i:=8) (N:=some 15) (v:=?_) (a':=?_) #[y_,y_,y_,y_,y_,y_,y_,y_,y_,n_,n_] rfl rfl (any_of HT_.out (by kernel_rfl)) (fun _ _ _ h => h) (Or.inl ⟨by rfl,?_⟩) ?_ ?_
    rotate_left
    ·intro w'
     go_simp
     with_reducible rfl
    rotate_left
    ·simp only [Act.put,sA_,sB_,sC_,i64_w,i32_w]
     rfl
    refine pure_ (i:=9) (N:=some 5) (v:=?_) (a':=?_) #[y_,y_,y_,y_,y_,y_,y_,y_,y_,y_,n_] rfl rfl (any_of HT_.out (by kernel_rfl)) (fun _ _ _ h => h) (Or.inl ⟨by rfl,?_⟩) ?_ ?_
    rotate_left
    ·intro w'
     go_simp
     with_reducible rfl
    rotate_left
    ·simp only [Act.put,sA_,sB_,sC_,i64_w,i32_w]
     rfl
    refine pure_ (i:=10) (N:=some 6) (v:=?_) (a':=?_) #[y_,y_,y_,y_,y_,y_,y_,y_,y_,y_,y_] rfl rfl (any_of HT_.out (by kernel_rfl)) (fun _ _ _ h => h) (Or.inl ⟨by rfl,?_⟩) ?_ ?_
    rotate_left
    ·intro w'
     go_simp
     with_reducible rfl
    rotate_left
    ·simp only [Act.put,sA_,sB_,sC_,i64_w,i32_w]
     rfl
    refine done_ (done_of HT_.out (by kernel_rfl)) ?_
    try go_wp2
    go_ret
    exact ⟨by first | rfl | (simp [errW_none,errW_some] <;> rfl) | (simp only [← hji4];first | rfl | (simp [errW_none,errW_some] <;> rfl)) | (simp [*,errW_none,errW_some] <;> rfl),by repeat (first | (with_reducible first | exact HB.out | apply below_alloc | apply pw_below_drewN | apply below_drew1) | exact HB.out)⟩
  ·rw [if_neg c6] at H
   exact absurd H (by simp)
 ·rw [if_neg c5] at H
  exact absurd H (by simp)

/-! ### sort_Search: function 53 -/
def sort_Search.l0 : Nat → List (S53) → List (S56) → Int → Int → Option (Int)
 | 0, _, _, _, _ => none
 | k + 1, x1, x2, x5, x6 => if x5 < x6 then ((cut_end_1.f k (wrap64 ((IntKind.u64.wrap (wrap64 (x5 + x6))) / 2)) x1 x2).bind fun t200 => (if t200 = true then (sort_Search.l0 k x1 x2 x5 (wrap64 ((IntKind.u64.wrap (wrap64 (x5 + x6))) / 2))) else (sort_Search.l0 k x1 x2 (wrap64 ((wrap64 ((IntKind.u64.wrap (wrap64 (x5 + x6))) / 2)) + 1)) x6))) else (some x5)
def sort_Search.f (k : Nat) (a0 : Int) (l1 : List (S53)) (l2 : List (S56)) : Option (Int) := sort_Search.l0 k l1 l2 0 a0
theorem sort_Search.mono_l : ∀ k, (∀ y0 y1 y2 y3, LeO (sort_Search.l0 k y0 y1 y2 y3) (sort_Search.l0 (k + 1) y0 y1 y2 y3))
 | 0 => fun _ _ _ _ r h => by simp [sort_Search.l0] at h
 | k + 1 => by
  have ih0 := sort_Search.mono_l k
  ·intro y0 y1 y2 y3
   unfold sort_Search.l0
   repeat' first
   | (with_reducible exact ih0 _ _ _ _)
   | (with_reducible exact cut_end_1.mono _ _ _ _)
   | (with_reducible exact LeO.refl _)
   | (with_reducible exact LeO.none _)
   | (with_reducible refine LeO.ite ?_ ?_)
   | (with_reducible refine LeO.bind ?_ (fun _ => ?_))
   | exact ih0 _ _ _ _
   | exact cut_end_1.mono _ _ _ _
   | exact LeO.none _
   | refine LeO.ite ?_ ?_
   | refine LeO.bind ?_ (fun _ => ?_)
theorem sort_Search.mono : ∀ a0 a1 a2 k, LeO (sort_Search.f k a0 a1 a2) (sort_Search.f (k + 1) a0 a1 a2) := by
 intro a0 a1 a2 k
 have ih0 := sort_Search.mono_l k
 unfold sort_Search.f
 repeat' first
   | (with_reducible exact ih0 _ _ _ _)
   | (with_reducible exact cut_end_1.mono _ _ _ _)
   | (with_reducible exact LeO.refl _)
   | (with_reducible exact LeO.none _)
   | (with_reducible refine LeO.ite ?_ ?_)
   | (with_reducible refine LeO.bind ?_ (fun _ => ?_))
   | exact ih0 _ _ _ _
   | exact cut_end_1.mono _ _ _ _
   | exact LeO.none _
   | refine LeO.ite ?_ ?_
   | refine LeO.bind ?_ (fun _ => ?_)
set_option maxHeartbeats 8000000 in
set_option maxRecDepth 100000 in
theorem sort_Search.calls (k : Nat) (a0 : Int) (A1 : Option Addr) (c1 : Nat) (l1 : List (S53)) (A2 : Option Addr) (c2 : Nat) (l2 : List (S56)) (r : Int) (w : World) (hr1 : Kd.C k53 w A1 l1.length l1) (hc1 : l1.length ≤ c1) (hr2 : Kd.C k56 w A2 l2.length l2) (hc2 : l2.length ≤ c2) (g1 g2 : Nat) (hg1 : w.heap[g1]? = some (.cells #[.slice A1 l1.length c1] 22 (0,0))) (hg2 : w.heap[g2]? = some (.cells #[.slice A2 l2.length c2] 23 (0,0))) (h : sort_Search.f k a0 l1 l2 = some r) :
  Calls Try.prog 53 #[.int .i64 a0,.func (.func 54) #[] #[.pointer (some ⟨g1,0,none⟩),.pointer (some ⟨g2,0,none⟩)]] w fun e w' => e = .returned (.int .i64 r) ∧ Below w.heap.size w w':=by
 have HR1:=Aside0.mk hr1
 have HC1:=Aside0.mk hc1
 clear hr1 hc1
 have HR2:=Aside0.mk hr2
 have HC2:=Aside0.mk hc2
 clear hr2 hc2
 have HB:=Aside0.mk (Below.refl w.heap.size w)
 have HG1:=Aside0.mk hg1
 have HG2:=Aside0.mk hg2
 clear hg1 hg2
 have H : (sort_Search.l0 k l1 l2 0 a0) = some r:=h
 clear h
 have H':=Aside0.mk H
 clear H
 have e_fn : ∀ args w,(callFunc 54 args).run Try.prog w = .ok (.enter 54 args) w:=Go.Proofs.YtmmfakdncjeoeaaW.PrintLast.enters_ Try.func54 (by kernel_rfl) rfl
 go_enter Try.func53,Try.ntmps53
 go_wp2
 go_loopg [5,6] k (fun kq v5 v6 w' => ∃ (x5_1 : Int) (x6_1 : Int),v5 = .int .i64 x5_1 ∧ v6 = .int .i64 x6_1 ∧ Aside0 (sort_Search.l0 kq l1 l2 x5_1 x6_1 = some r) ∧ Aside0 (kq ≤ k) ∧ Aside0 (Below w.heap.size w w'))
 case atStart => exact ⟨(0),(a0),(by first | rfl | (simp;done) | (simp [*];done)),(by first | rfl | (simp;done) | (simp [*];done)),H',⟨Nat.le_refl _⟩,⟨by repeat (first | (with_reducible first | exact HB.out | apply below_alloc | apply pw_below_drewN | apply below_drew1) | exact HB.out)⟩⟩
 case round =>
  clear H'
  try clear c1
  try clear c2
  try clear p2
  obtain ⟨x5_1,x6_1,rfl,rfl,HA,HK1,HB⟩:=hrel
  cases gk with
  | zero => exact absurd HA.out (by simp [sort_Search.l0])
  | succ k1 =>
   have H:=HA.out
   clear HA
   simp only [sort_Search.l0] at H
   by_cases c4 : x5_1 < x6_1
   ·rw [if_pos c4] at H
    have c4b0 : decide (x5_1 < x6_1) = true:=decide_eq_true c4
    clear c4
    replace H:=Option.bind_eq_some_iff.mp H
    obtain ⟨t200,A50,H⟩:=H
    replace H : (if t200 = true then (sort_Search.l0 k1 l1 l2 x5_1 (wrap64 ((IntKind.u64.wrap (wrap64 (x5_1 + x6_1))) / 2))) else (sort_Search.l0 k1 l1 l2 (wrap64 ((wrap64 ((IntKind.u64.wrap (wrap64 (x5_1 + x6_1))) / 2)) + 1)) x6_1)) = some r:=H
    have A5:=Aside0.mk A50
    clear A50
    by_cases c6 : t200 = true
    ·subst c6
     have H1 : (sort_Search.l0 k1 l1 l2 x5_1 (wrap64 ((IntKind.u64.wrap (wrap64 (x5_1 + x6_1))) / 2))) = some r:=by rw [if_pos rfl] at H;exact H
     clear H
     have H:=H1
     clear H1
     have H':=Aside0.mk H
     clear H
     go_wp2_with (first | (go_at_fn 54;(refine (cut_end_1.calls k1 (wrap64 ((IntKind.u64.wrap (wrap64 (x5_1 + x6_1))) / 2)) _ _ l1 _ _ l2 true _ ?side1 ?side2 ?side3 ?side4 g1 g2 ((HB.out.block g1 (blk_lt HG1.out)).trans HG1.out) ((HB.out.block g2 (blk_lt HG2.out)).trans HG2.out) A5.out).mono ?_);(case side1 => repeat (first | exact (Kd.C_below HR1.out HB.out) | (with_reducible refine Kd.C_alloc ?_ _) | (with_reducible refine Kd.C_drewN ?_ _) | (with_reducible refine Kd.C_drew ?_)));(case side2 => exact HC1.out);(case side3 => repeat (first | exact (Kd.C_below HR2.out HB.out) | (with_reducible refine Kd.C_alloc ?_ _) | (with_reducible refine Kd.C_drewN ?_ _) | (with_reducible refine Kd.C_drew ?_)));(case side4 => exact HC2.out);rintro e w7 ⟨rfl,hb⟩;have n0_:=Aside0.mk (below_step (by repeat (first | (with_reducible first | exact HB.out | apply below_alloc | apply pw_below_drewN | apply below_drew1) | exact HB.out)) hb);clear HB;have HB:=n0_;clear n0_;(try clear hb);(try clear hb2);(try clear hk);(try clear hi)))
     go_roundg k1
     case measure => have:=HK1.out;omega
     case rel => exact ⟨(x5_1),(wrap64 ((IntKind.u64.wrap (wrap64 (x5_1 + x6_1))) / 2)),(by first | rfl | (simp;done) | (simp [*];done)),(by first | rfl | (simp;done) | (simp [*];done)),H',⟨by have:=HK1.out;omega⟩,⟨by repeat (first | (with_reducible first | exact HB.out | apply below_alloc | apply pw_below_drewN | apply below_drew1) | exact HB.out)⟩⟩
    ·replace c6:=Bool.eq_false_iff.mpr c6
     subst c6
     have H1 : (sort_Search.l0 k1 l1 l2 (wrap64 ((wrap64 ((IntKind.u64.wrap (wrap64 (x5_1 + x6_1))) / 2)) + 1)) x6_1) = some r:=by rw [if_neg (show ¬ (false = true) by decide)] at H;exact H
     clear H
     have H:=H1
     clear H1
     have H':=Aside0.mk H
     clear H
     go_wp2_with (first | (go_at_fn 54;(refine (cut_end_1.calls k1 (wrap64 ((IntKind.u64.wrap (wrap64 (x5_1 + x6_1))) / 2)) _ _ l1 _ _ l2 false _ ?side1 ?side2 ?side3 ?side4 g1 g2 ((HB.out.block g1 (blk_lt HG1.out)).trans HG1.out) ((HB.out.block g2 (blk_lt HG2.out)).trans HG2.out) A5.out).mono ?_);(case side1 => repeat (first | exact (Kd.C_below HR1.out HB.out) | (with_reducible refine Kd.C_alloc ?_ _) | (with_reducible refine Kd.C_drewN ?_ _) | (with_reducible refine Kd.C_drew ?_)));(case side2 => exact HC1.out);(case side3 => repeat (first | exact (Kd.C_below HR2.out HB.out) | (with_reducible refine Kd.C_alloc ?_ _) | (with_reducible refine Kd.C_drewN ?_ _) | (with_reducible refine Kd.C_drew ?_)));(case side4 => exact HC2.out);rintro e w8 ⟨rfl,hb⟩;have n0_:=Aside0.mk (below_step (by repeat (first | (with_reducible first | exact HB.out | apply below_alloc | apply pw_below_drewN | apply below_drew1) | exact HB.out)) hb);clear HB;have HB:=n0_;clear n0_;(try clear hb);(try clear hb2);(try clear hk);(try clear hi)))
     go_roundg k1
     case measure => have:=HK1.out;omega
     case rel => exact ⟨(wrap64 ((wrap64 ((IntKind.u64.wrap (wrap64 (x5_1 + x6_1))) / 2)) + 1)),(x6_1),(by first | rfl | (simp;done) | (simp [*];done)),(by first | rfl | (simp;done) | (simp [*];done)),H',⟨by have:=HK1.out;omega⟩,⟨by repeat (first | (with_reducible first | exact HB.out | apply below_alloc | apply pw_below_drewN | apply below_drew1) | exact HB.out)⟩⟩
   ·rw [if_neg c4] at H
    have c4b0 : decide (x5_1 < x6_1) = false:=decide_eq_false c4
    clear c4
    obtain rfl:=Option.some.inj H
    go_wp2
    go_ret
    exact ⟨by first | rfl | (simp [errW_none,errW_some] <;> rfl) | (simp [*,errW_none,errW_some] <;> rfl),by repeat (first | (with_reducible first | exact HB.out | apply below_alloc | apply pw_below_drewN | apply below_drew1) | exact HB.out)⟩

/-! ### cut_end: function 37 -/
def cut_end.f (k : Nat) (l0 : List (S53)) (l1 : List (S56)) (a2 : Int) : Option (Int) := (sort_Search.f k (mn a2 (l1.length : Int)) l0 l1).bind fun t201 => (some t201)
theorem cut_end.mono : ∀ a0 a1 a2 k, LeO (cut_end.f k a0 a1 a2) (cut_end.f (k + 1) a0 a1 a2) := by
 intro a0 a1 a2 k
 unfold cut_end.f
 repeat' first
   | (with_reducible exact sort_Search.mono _ _ _ _)
   | (with_reducible exact LeO.refl _)
   | (with_reducible exact LeO.none _)
   | (with_reducible refine LeO.ite ?_ ?_)
   | (with_reducible refine LeO.bind ?_ (fun _ => ?_))
   | exact sort_Search.mono _ _ _ _
   | exact LeO.none _
   | refine LeO.ite ?_ ?_
   | refine LeO.bind ?_ (fun _ => ?_)
set_option maxHeartbeats 8000000 in
set_option maxRecDepth 100000 in
theorem cut_end.calls (k : Nat) (A0 : Option Addr) (c0 : Nat) (l0 : List (S53)) (A1 : Option Addr) (c1 : Nat) (l1 : List (S56)) (a2 : Int) (r : Int) (w : World) (hr0 : Kd.C k53 w A0 l0.length l0) (hc0 : l0.length ≤ c0) (hr1 : Kd.C k56 w A1 l1.length l1) (hc1 : l1.length ≤ c1) (h : cut_end.f k l0 l1 a2 = some r) :
  Calls Try.prog 37 #[.slice A0 l0.length c0,.slice A1 l1.length c1,.int .i64 a2] w fun e w' => e = .returned (.int .i64 r) ∧ Below w.heap.size w w':=by
 have HR0:=Aside0.mk hr0
 have HC0:=Aside0.mk hc0
 clear hr0 hc0
 have HR1:=Aside0.mk hr1
 have HC1:=Aside0.mk hc1
 clear hr1 hc1
 have HB:=Aside0.mk (Below.refl w.heap.size w)
 have H : ((sort_Search.f k (mn a2 (l1.length : Int)) l0 l1).bind fun t201 => (some t201)) = some r:=h
 clear h
 obtain ⟨ji4,hji4⟩ : ∃ j_ : Int,(mn a2 (l1.length : Int)) = j_:=⟨_,rfl⟩
 replace H : ((sort_Search.f k (ji4) l0 l1).bind fun t201 => (some t201)) = some r:=by first | (rw [hji4] at H;exact H) | (simp only [hji4] at H ⊢;exact H)
 have hji4_ : (if (l1.length : Int) < a2 then (l1.length : Int) else a2) = ji4:=hji4
 replace H:=Option.bind_eq_some_iff.mp H
 obtain ⟨t201,A50,H⟩:=H
 replace H : (some t201) = some r:=H
 have A5:=Aside0.mk A50
 clear A50
 obtain rfl:=Option.some.inj H
 go_enter Try.func37,Try.ntmps37
 go_wp2_with (first | ((with_reducible refine gate_dst (N:=3) rfl ?_);refine box_event ?hg (N:=3) ?hd (cs:=#[.slice A0 l0.length c0]) (t:=22) ?hr ?_;(case hd => rfl);(case hg => rfl);(case hr => first | (go_simp;done) | (go_simp;rfl));intro gb3 hg w3_ hbox hb;have n0_:=Aside0.mk (below_step (by repeat (first | (with_reducible first | exact HB.out | apply below_alloc | apply pw_below_drewN | apply below_drew1) | exact HB.out)) hb);clear HB;have HB:=n0_;clear n0_;have BK3:=Aside0.mk hbox;have hcx3:=(blk_cell hbox 0).trans rfl;clear hg hbox hb) | ((with_reducible refine gate_dst (N:=4) rfl ?_);refine box_event ?hg (N:=4) ?hd (cs:=#[.slice A1 l1.length c1]) (t:=23) ?hr ?_;(case hd => rfl);(case hg => rfl);(case hr => first | (go_simp;done) | (go_simp;rfl));intro gb4 hg w4_ hbox hb;have m0_:=Aside0.mk (blk_below BK3.out hb);clear BK3;have BK3:=m0_;clear m0_;clear hcx3;have hcx3:=(blk_cell BK3.out 0).trans rfl;have n0_:=Aside0.mk (below_step (by repeat (first | (with_reducible first | exact HB.out | apply below_alloc | apply pw_below_drewN | apply below_drew1) | exact HB.out)) hb);clear HB;have HB:=n0_;clear n0_;have BK4:=Aside0.mk hbox;have hcx4:=(blk_cell hbox 0).trans rfl;clear hg hbox hb) | ((with_reducible refine gate_callee (f:=53) rfl ?_);refine goesL_ (some 12) rfl rfl Try.func53 (by kernel_rfl) rfl #[.int .i64 ji4,.func (.func 54) #[] #[.pointer (some ⟨gb3,0,none⟩),.pointer (some ⟨gb4,0,none⟩)]] rfl (by (try simp only [List.map_toArray,List.map_cons,List.map_nil]);first | done | (simp only [hji4];rfl) | rfl | (simp only [List.length_drop,List.length_take];rfl)) ?_;(with_reducible refine (sort_Search.calls k ji4 _ _ l0 _ _ l1 t201 _ ?side1 ?side2 ?side3 ?side4 gb3 gb4 BK3.out BK4.out A5.out).mono ?_);(case side1 => repeat (first | exact (Kd.C_below HR0.out HB.out) | (with_reducible refine Kd.C_alloc ?_ _) | (with_reducible refine Kd.C_drewN ?_ _) | (with_reducible refine Kd.C_drew ?_)));(case side2 => exact HC0.out);(case side3 => repeat (first | exact (Kd.C_below HR1.out HB.out) | (with_reducible refine Kd.C_alloc ?_ _) | (with_reducible refine Kd.C_drewN ?_ _) | (with_reducible refine Kd.C_drew ?_)));(case side4 => exact HC1.out);rintro e w6 ⟨rfl,hb⟩;refine ⟨_,rfl,?_⟩;have n0_:=Aside0.mk (below_step (by repeat (first | (with_reducible first | exact HB.out | apply below_alloc | apply pw_below_drewN | apply below_drew1) | exact HB.out)) hb);clear HB;have HB:=n0_;clear n0_;(try clear hb);(try clear hb2);(try clear hk);(try clear hi)))
 go_ret
 exact ⟨by first | rfl | (simp [errW_none,errW_some] <;> rfl) | (simp only [← hji4];first | rfl | (simp [errW_none,errW_some] <;> rfl)) | (simp [*,errW_none,errW_some] <;> rfl),by repeat (first | (with_reducible first | exact HB.out | apply below_alloc | apply pw_below_drewN | apply below_drew1) | exact HB.out)⟩

/-! ### api_Arg: function 56 -/
theorem api_Arg.info : (Try.prog.info? 61).map (fun i => (i.zero, i.size, i.bytes)) = some (some (.agg #[.int .i64 0, .int .i64 0, .string ⟨#[]⟩]), (k61).sz, 32) := by kernel_rfl

set_option maxHeartbeats 8000000 in
set_option maxRecDepth 100000 in
theorem api_Arg.calls0 (A0 : Option Addr) (c0 : Nat) (l0 : List S61) (w : World) (hr0 : Kd.C k61 w A0 l0.length l0) (hc0 : l0.length ≤ c0) (hl : l0.length ≤ 4398046511104) :
    Calls Try.prog 56 #[.slice A0 l0.length c0] w fun e w' => ∃ v0_ : Value, e = .returned v0_ ∧ Kd.R k61 61 w' w.heap.size (fun _ => True) v0_ l0 ∧ Below w.heap.size w w' := by
  have hnil := fun (w : World) (a : Option Addr) (n c : Nat) => Lib.run_eql_slice_nil (P := Try.prog) w 57 61 a n c 0 0 Try.underlying57
  have HL := Lib.hid hl; clear hl
  cases A0 with
  | none =>
    have HR := Lib.hid hr0; clear hr0
    go_enter Try.func56, Try.ntmps56
    go_wp2
    go_ret
    have : l0 = [] := by
      cases l0 with
      | nil => rfl
      | cons x l => exfalso; obtain ⟨ad, c, e, _⟩ := Kd.C_get HR.out z61 0 (by omega) (by simp only [List.length_cons]; omega); cases e
    subst this
    exact ⟨_, rfl, Kd.R_nil _ _ _ _ _, Below.refl _ _⟩
  | some ad =>
    have HR := Lib.hid hr0; clear hr0
    have HB := Lib.hid (Below.refl w.heap.size w)
    go_enter Try.func56, Try.ntmps56
    go_wp2_with (first | ((with_reducible refine gate_dst (N := 5) rfl ?_); refine Kd.R_lit k61 w.heap.size 61 ?hg (N := 5) ?hd (w0 := w) (xs := ([] : List S61)) (inner := []) (ok := fun _ => True) (okp := fun _ => True) ?hr ?hp (fun _ hk => hk) trivial (Below.refl _ _) (Nat.le_refl _) (by simp) ?_; (case hd => rfl); (case hg => rfl); (case hr => first | (go_simp; done) | (go_simp; rfl)); (case hp => exact (Reps.none _ _)); intro v1 w1 h1 h2 h3 h4; have H1 := Lib.hid h1; have H2 := Lib.hid h2; clear h1 h2 h3 h4) | ((with_reducible refine gate_dst (N := 7) rfl ?_); refine Kd.R_append_rows k61 (Rr := fun x cs => (k61).K w1 x cs) (w0 := w) w.heap.size rfl (.tmp 5) (.tmp 6) 57 61 (.agg #[.int .i64 0, .int .i64 0, .string ⟨#[]⟩]) 32 rfl Try.underlying57 api_Arg.info rfl (by decide) (by decide) _ [] l0 _ _ _ (fun _ => True) (fun _ => False) rfl rfl H1.out (Kd.C_below HR.out H2.out) (fun x cs hK => by obtain rfl := k61_open hK; exact k61_mkM _ _ _ x) (fun _ hk => hk.elim) (fun _ _ => trivial) H2.out H2.out.size ?hl ?_; (case hl => have := HL.out; simp; omega); intro v2 w2 h1 h2 h3 h4; have H3 := Lib.hid h1; have H4 := Lib.hid h2; clear h1 h2 h3 h4))
    go_ret
    exact ⟨_, rfl, H3.out, H4.out⟩
def api_Arg.f (l0 : List S61) : Option (List S61) := if l0.length ≤ 4398046511104 then some l0 else none
theorem api_Arg.calls (A0 : Option Addr) (c0 : Nat) (l0 : List S61) (r : List S61) (w : World) (hr0 : Kd.C k61 w A0 l0.length l0) (hc0 : l0.length ≤ c0) (h : api_Arg.f l0 = some r) :
    Calls Try.prog 56 #[.slice A0 l0.length c0] w fun e w' => ∃ v0_ : Value, e = .returned v0_ ∧ Kd.R k61 61 w' w.heap.size (fun _ => True) v0_ r ∧ Below w.heap.size w w' := by
  unfold api_Arg.f at h
  split at h
  · obtain rfl := Option.some.inj h
    exact api_Arg.calls0 A0 c0 l0 w hr0 hc0 (by assumption)
  · cases h

end Go.Proofs.Ytmmfakdncjeoeaa.PC
