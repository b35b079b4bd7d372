-- Contracts of Go functions, each with its plain Lean function: written by wip/tools/myprint.py of this work (the kit's print, with contracts proved by hand spliced in).
import Derived.Test.YtmmfakdncjeoeaaPUx0
import Derived.Test.YtmmfakdncjeoeaaPUx4
import Derived.Test.YtmmfakdncjeoeaaPUx6
import Derived.Test.YtmmfakdncjeoeaaShort
namespace Go.Proofs.Ytmmfakdncjeoeaa.PU
open Go.Proofs.YtmmfakdncjeoeaaShort
open Go.RowKit Go.Proofs.YtmmfakdncjeoeaaW.PrintWords Go.Proofs.YtmmfakdncjeoeaaW.PrintLast Go.Proofs.YtmmfakdncjeoeaaW.PrintMore
attribute [local go_sem] max2_int min2_int max_two min_two max_three min_three max_four min_four   -- for this text's walks alone
set_option linter.unusedVariables false
set_option linter.unusedSimpArgs false

/-! ### block_whole: function 19 -/
def block_whole.f (k : Nat) (l0 : List (S53)) (l1 : List (S56)) : Option (List Int × Int) := if (l1.length : Int) = 0 then (some (([] : List Int), 1)) else ((trace_Check.f k l0 l1).bind fun bt173 => (if bt173.1 = 0 then (if (l1.length : Int) > 1024 then (some (([] : List Int), 6)) else ((block_payload.f k l1).bind fun t175 => (some (t175, 0)))) else (some (([] : List Int), bt173.1))))
set_option maxHeartbeats 8000000 in
set_option maxRecDepth 100000 in
theorem block_whole.calls (k : Nat) (A0 : Option Addr) (c0 : Nat) (l0 : List (S53)) (A1 : Option Addr) (c1 : Nat) (l1 : List (S56)) (r1 : List Int) (r2 : Int) (w : World) (hr0 : Kd.C k53 w A0 l0.length l0) (hc0 : l0.length ≤ c0) (hr1 : Kd.C k56 w A1 l1.length l1) (hc1 : l1.length ≤ c1) (h : block_whole.f k l0 l1 = some (r1,r2)) :
  Calls Try.prog 19 #[.slice A0 l0.length c0,.slice A1 l1.length c1] w fun e w' => ∃ v0_ : Value,e = .returned (.tuple #[v0_,.int .i64 r2]) ∧ Kd.R (Kd.int .u8) 5 w' w.heap.size (fun _ => True) v0_ r1 ∧ Below w.heap.size w w':=by
 have HR0:=qm hr0
 have HC0:=qm hc0
 clear hr0 hc0
 have HR1:=qm hr1
 have HC1:=qm hc1
 clear hr1 hc1
 have HB:=qm (Below.refl w.heap.size w)
 have H : (if (l1.length : Int) = 0 then (some (([] : List Int),1)) else ((trace_Check.f k l0 l1).bind fun bt173 => (if bt173.1 = 0 then (if (l1.length : Int) > 1024 then (some (([] : List Int),6)) else ((block_payload.f k l1).bind fun t175 => (some (t175,0)))) else (some (([] : List Int),bt173.1))))) = some (r1,r2):=h
 clear h
 by_cases c3 : (l1.length : Int) = 0
 ·rw [if_pos c3] at H
  have c3b0 : ((l1.length : Int) == 0) = true:=beq_iff_eq.mpr c3
  have c3b1 : ((l1.length : Int) != 0) = false:=b2q.mpr c3
  clear c3
  simp only [o2q,Prod.mk.injEq] at H
  obtain ⟨rfl,rfl⟩:=H
  go_enter Try.func19,Try.ntmps19
  go_wp2
  go_ret2
  exact ⟨_,by first | rfl | (simp [errW_none,errW_some] <;> rfl) | (simp [*,errW_none,errW_some] <;> rfl),by first | exact Kd.R_nil _ _ _ _ _ | exact Kd.N_nil _ _ _ _ _ | exact Kd.V_nil _ _ _ _ _ | exact Kd.Q_nil _ _ _ _ _ | exact Kd.S_nil _ _ _ _ _,by repeat (first | (with_reducible first | exact HB.out | apply qa | apply qn | apply qd) | exact HB.out)⟩
 ·rw [if_neg c3] at H
  have c3b0 : ((l1.length : Int) == 0) = false:=b1q.mpr c3
  have c3b1 : ((l1.length : Int) != 0) = true:=bne_iff_ne.mpr c3
  have c3b2 : ¬ (l1 = []):=fun h_ => c3 (by rw [h_];rfl)
  replace H:=obq.mp H
  obtain ⟨⟨t173,t174⟩,A40,H⟩:=H
  replace H : (if t173 = 0 then (if (l1.length : Int) > 1024 then (some (([] : List Int),6)) else ((block_payload.f k l1).bind fun t175 => (some (t175,0)))) else (some (([] : List Int),t173))) = some (r1,r2):=H
  have A4:=qm A40
  clear A40
  by_cases c5 : t173 = 0
  ·rw [if_pos c5] at H
   have c5b0 : (t173 == 0) = true:=beq_iff_eq.mpr c5
   have c5b1 : (t173 != 0) = false:=b2q.mpr c5
   clear c5
   by_cases c6 : (l1.length : Int) > 1024
   ·rw [if_pos c6] at H
    have c6b0 : decide (1024 < (l1.length : Int)) = true:=dt_ c6
    have c6b1 : decide (1024 < l1.length) = true:=dt_ (by omega)
    clear c6
    simp only [o2q,Prod.mk.injEq] at H
    obtain ⟨rfl,rfl⟩:=H
    go_enter Try.func19,Try.ntmps19
    go_wp2_with (first | ((with_reducible refine gcq (f:=16) rfl ?_);refine glq (some 14) rfl rfl Try.func16 (by kernel_rfl) rfl #[.slice A0 l0.length c0,.slice A1 l1.length c1] rfl (by (try simp only [l3q,l4q,l5q]);first | done | rfl | (simp only [l1q,l2q];rfl)) ?_;(with_reducible refine (trace_Check.calls k _ _ l0 _ _ l1 t173 t174 _ ?side1 ?side2 ?side3 ?side4 A4.out).mono ?_);(case side1 => repeat (first | exact HR0.out | (with_reducible first | refine caq ?_ _ | refine cnq ?_ _ | refine cdq ?_)));(case side2 => exact HC0.out);(case side3 => repeat (first | exact HR1.out | (with_reducible first | refine caq ?_ _ | refine cnq ?_ _ | refine cdq ?_)));(case side4 => exact HC1.out);rintro e w7 ⟨rfl,hb⟩;refine ⟨_,rfl,?_⟩;have n0_:=qm (qt (by repeat (first | (with_reducible first | exact HB.out | apply qa | apply qn | apply qd) | exact HB.out)) hb);clear HB;have HB:=n0_;clear n0_;(try clear hb);(try clear hb2);(try clear hk);(try clear hi)))
    go_ret2
    exact ⟨_,by first | rfl | (simp [errW_none,errW_some] <;> rfl) | (simp [*,errW_none,errW_some] <;> rfl),by first | exact Kd.R_nil _ _ _ _ _ | exact Kd.N_nil _ _ _ _ _ | exact Kd.V_nil _ _ _ _ _ | exact Kd.Q_nil _ _ _ _ _ | exact Kd.S_nil _ _ _ _ _,by repeat (first | (with_reducible first | exact HB.out | apply qa | apply qn | apply qd) | exact HB.out)⟩
   ·rw [if_neg c6] at H
    have c6b0 : decide (1024 < (l1.length : Int)) = false:=decide_eq_false c6
    have c6b1 : decide (1024 < l1.length) = false:=decide_eq_false (by omega)
    clear c6
    replace H:=obq.mp H
    obtain ⟨t175,A80,H⟩:=H
    replace H : (some (t175,0)) = some (r1,r2):=H
    have A8:=qm A80
    clear A80
    simp only [o2q,Prod.mk.injEq] at H
    obtain ⟨rfl,rfl⟩:=H
    go_enter Try.func19,Try.ntmps19
    go_wp2_with (first | ((with_reducible refine gcq (f:=16) rfl ?_);refine glq (some 14) rfl rfl Try.func16 (by kernel_rfl) rfl #[.slice A0 l0.length c0,.slice A1 l1.length c1] rfl (by (try simp only [l3q,l4q,l5q]);first | done | rfl | (simp only [l1q,l2q];rfl)) ?_;(with_reducible refine (trace_Check.calls k _ _ l0 _ _ l1 t173 t174 _ ?side1 ?side2 ?side3 ?side4 A4.out).mono ?_);(case side1 => repeat (first | exact HR0.out | (with_reducible first | refine caq ?_ _ | refine cnq ?_ _ | refine cdq ?_)));(case side2 => exact HC0.out);(case side3 => repeat (first | exact HR1.out | (with_reducible first | refine caq ?_ _ | refine cnq ?_ _ | refine cdq ?_)));(case side4 => exact HC1.out);rintro e w9 ⟨rfl,hb⟩;refine ⟨_,rfl,?_⟩;have n0_:=qm (qt (by repeat (first | (with_reducible first | exact HB.out | apply qa | apply qn | apply qd) | exact HB.out)) hb);clear HB;have HB:=n0_;clear n0_;(try clear hb);(try clear hb2);(try clear hk);(try clear hi)) | ((with_reducible refine gcq (f:=39) rfl ?_);refine glq (some 24) rfl rfl Try.func39 (by kernel_rfl) rfl #[.slice A1 l1.length c1] rfl (by (try simp only [l3q,l4q,l5q]);first | done | rfl | (simp only [l1q,l2q];rfl)) ?_;(with_reducible refine (block_payload.calls k _ _ l1 t175 _ ?side1 ?side2 A8.out).mono ?_);(case side1 => repeat (first | exact (Kd.C_below HR1.out HB.out) | (with_reducible first | refine caq ?_ _ | refine cnq ?_ _ | refine cdq ?_)));(case side2 => exact HC1.out);rintro e w10 ⟨v176,rfl,ho0,hb⟩;refine ⟨_,rfl,?_⟩;have n0_:=qm (Kd.R_lower ho0 (qs (by repeat (first | (with_reducible first | exact HB.out | apply qa | apply qn | apply qd) | exact HB.out))));have n1_:=qm (qt (by repeat (first | (with_reducible first | exact HB.out | apply qa | apply qn | apply qd) | exact HB.out)) hb);clear HB;have HO177:=n0_;have HB:=n1_;clear n0_ n1_;(try clear hb);(try clear hb2);(try clear hk);(try clear hi);(try clear ho0)))
    go_ret2
    exact ⟨_,by first | rfl | (simp [errW_none,errW_some] <;> rfl) | (simp [*,errW_none,errW_some] <;> rfl),by (with_reducible repeat (first | apply raq | apply rnq | apply rdq));exact HO177.out,by repeat (first | (with_reducible first | exact HB.out | apply qa | apply qn | apply qd) | exact HB.out)⟩
  ·rw [if_neg c5] at H
   have c5b0 : (t173 == 0) = false:=b1q.mpr c5
   have c5b1 : (t173 != 0) = true:=bne_iff_ne.mpr c5
   simp only [o2q,Prod.mk.injEq] at H
   obtain ⟨rfl,rfl⟩:=H
   go_enter Try.func19,Try.ntmps19
   go_wp2_with (first | ((with_reducible refine gcq (f:=16) rfl ?_);refine glq (some 14) rfl rfl Try.func16 (by kernel_rfl) rfl #[.slice A0 l0.length c0,.slice A1 l1.length c1] rfl (by (try simp only [l3q,l4q,l5q]);first | done | rfl | (simp only [l1q,l2q];rfl)) ?_;(with_reducible refine (trace_Check.calls k _ _ l0 _ _ l1 t173 t174 _ ?side1 ?side2 ?side3 ?side4 A4.out).mono ?_);(case side1 => repeat (first | exact HR0.out | (with_reducible first | refine caq ?_ _ | refine cnq ?_ _ | refine cdq ?_)));(case side2 => exact HC0.out);(case side3 => repeat (first | exact HR1.out | (with_reducible first | refine caq ?_ _ | refine cnq ?_ _ | refine cdq ?_)));(case side4 => exact HC1.out);rintro e w11 ⟨rfl,hb⟩;refine ⟨_,rfl,?_⟩;have n0_:=qm (qt (by repeat (first | (with_reducible first | exact HB.out | apply qa | apply qn | apply qd) | exact HB.out)) hb);clear HB;have HB:=n0_;clear n0_;(try clear hb);(try clear hb2);(try clear hk);(try clear hi)))
   go_ret2
   exact ⟨_,by first | rfl | (simp [errW_none,errW_some] <;> rfl) | (simp [*,errW_none,errW_some] <;> rfl),by first | exact Kd.R_nil _ _ _ _ _ | exact Kd.N_nil _ _ _ _ _ | exact Kd.V_nil _ _ _ _ _ | exact Kd.Q_nil _ _ _ _ _ | exact Kd.S_nil _ _ _ _ _,by repeat (first | (with_reducible first | exact HB.out | apply qa | apply qn | apply qd) | exact HB.out)⟩

/-! ### block_Put: function 10 -/
def block_Put.f (k : Nat) (l0 : List (S53)) (l1 : List (S56)) : Option (List Int × Int) := (block_whole.f k l0 l1).bind fun bt178 => (if bt178.2 = 0 then (if (bt178.1.length : Int) > 4096 then (some (([] : List Int), 6)) else (some (bt178.1, bt178.2))) else (some (bt178.1, bt178.2)))
set_option maxHeartbeats 8000000 in
set_option maxRecDepth 100000 in
theorem block_Put.calls (k : Nat) (A0 : Option Addr) (c0 : Nat) (l0 : List (S53)) (A1 : Option Addr) (c1 : Nat) (l1 : List (S56)) (r1 : List Int) (r2 : Int) (w : World) (hr0 : Kd.C k53 w A0 l0.length l0) (hc0 : l0.length ≤ c0) (hr1 : Kd.C k56 w A1 l1.length l1) (hc1 : l1.length ≤ c1) (h : block_Put.f k l0 l1 = some (r1,r2)) :
  Calls Try.prog 10 #[.slice A0 l0.length c0,.slice A1 l1.length c1] w fun e w' => ∃ v0_ : Value,e = .returned (.tuple #[v0_,.int .i64 r2]) ∧ Kd.R (Kd.int .u8) 5 w' w.heap.size (fun _ => True) v0_ r1 ∧ Below w.heap.size w w':=by
 have HR0:=qm hr0
 have HC0:=qm hc0
 clear hr0 hc0
 have HR1:=qm hr1
 have HC1:=qm hc1
 clear hr1 hc1
 have HB:=qm (Below.refl w.heap.size w)
 have H : ((block_whole.f k l0 l1).bind fun bt178 => (if bt178.2 = 0 then (if (bt178.1.length : Int) > 4096 then (some (([] : List Int),6)) else (some (bt178.1,bt178.2))) else (some (bt178.1,bt178.2)))) = some (r1,r2):=h
 clear h
 replace H:=obq.mp H
 obtain ⟨⟨t178,t179⟩,A30,H⟩:=H
 replace H : (if t179 = 0 then (if (t178.length : Int) > 4096 then (some (([] : List Int),6)) else (some (t178,t179))) else (some (t178,t179))) = some (r1,r2):=H
 have A3:=qm A30
 clear A30
 by_cases c4 : t179 = 0
 ·rw [if_pos c4] at H
  have c4b0 : (t179 == 0) = true:=beq_iff_eq.mpr c4
  have c4b1 : (t179 != 0) = false:=b2q.mpr c4
  clear c4
  by_cases c5 : (t178.length : Int) > 4096
  ·rw [if_pos c5] at H
   have c5b0 : decide (4096 < (t178.length : Int)) = true:=dt_ c5
   have c5b1 : decide (4096 < t178.length) = true:=dt_ (by omega)
   clear c5
   simp only [o2q,Prod.mk.injEq] at H
   obtain ⟨rfl,rfl⟩:=H
   go_enter Try.func10,Try.ntmps10
   go_wp2_with (first | ((with_reducible refine gcq (f:=19) rfl ?_);refine glq (some 11) rfl rfl Try.func19 (by kernel_rfl) rfl #[.slice A0 l0.length c0,.slice A1 l1.length c1] rfl (by (try simp only [l3q,l4q,l5q]);first | done | rfl | (simp only [l1q,l2q];rfl)) ?_;(with_reducible refine (block_whole.calls k _ _ l0 _ _ l1 t178 t179 _ ?side1 ?side2 ?side3 ?side4 A3.out).mono ?_);(case side1 => repeat (first | exact HR0.out | (with_reducible first | refine caq ?_ _ | refine cnq ?_ _ | refine cdq ?_)));(case side2 => exact HC0.out);(case side3 => repeat (first | exact HR1.out | (with_reducible first | refine caq ?_ _ | refine cnq ?_ _ | refine cdq ?_)));(case side4 => exact HC1.out);rintro e w6 ⟨v180,rfl,ho0,hb⟩;refine ⟨_,rfl,?_⟩;have n0_:=qm (Kd.R_lower ho0 (qs (by repeat (first | (with_reducible first | exact HB.out | apply qa | apply qn | apply qd) | exact HB.out))));have n1_:=qm (qt (by repeat (first | (with_reducible first | exact HB.out | apply qa | apply qn | apply qd) | exact HB.out)) hb);clear HB;have HO181:=n0_;have HB:=n1_;clear n0_ n1_;(try clear hb);(try clear hb2);(try clear hk);(try clear hi);(try clear ho0);obtain ⟨Ao7,co7,eo7⟩:=Kd.R_slice HO181.out;subst eo7))
   go_ret2
   exact ⟨_,by first | rfl | (simp [errW_none,errW_some] <;> rfl) | (simp [*,errW_none,errW_some] <;> rfl),by first | exact Kd.R_nil _ _ _ _ _ | exact Kd.N_nil _ _ _ _ _ | exact Kd.V_nil _ _ _ _ _ | exact Kd.Q_nil _ _ _ _ _ | exact Kd.S_nil _ _ _ _ _,by repeat (first | (with_reducible first | exact HB.out | apply qa | apply qn | apply qd) | exact HB.out)⟩
  ·rw [if_neg c5] at H
   have c5b0 : decide (4096 < (t178.length : Int)) = false:=decide_eq_false c5
   have c5b1 : decide (4096 < t178.length) = false:=decide_eq_false (by omega)
   clear c5
   simp only [o2q,Prod.mk.injEq] at H
   obtain ⟨rfl,rfl⟩:=H
   go_enter Try.func10,Try.ntmps10
   go_wp2_with (first | ((with_reducible refine gcq (f:=19) rfl ?_);refine glq (some 11) rfl rfl Try.func19 (by kernel_rfl) rfl #[.slice A0 l0.length c0,.slice A1 l1.length c1] rfl (by (try simp only [l3q,l4q,l5q]);first | done | rfl | (simp only [l1q,l2q];rfl)) ?_;(with_reducible refine (block_whole.calls k _ _ l0 _ _ l1 t178 t179 _ ?side1 ?side2 ?side3 ?side4 A3.out).mono ?_);(case side1 => repeat (first | exact HR0.out | (with_reducible first | refine caq ?_ _ | refine cnq ?_ _ | refine cdq ?_)));(case side2 => exact HC0.out);(case side3 => repeat (first | exact HR1.out | (with_reducible first | refine caq ?_ _ | refine cnq ?_ _ | refine cdq ?_)));(case side4 => exact HC1.out);rintro e w8 ⟨v180,rfl,ho0,hb⟩;refine ⟨_,rfl,?_⟩;have n0_:=qm (Kd.R_lower ho0 (qs (by repeat (first | (with_reducible first | exact HB.out | apply qa | apply qn | apply qd) | exact HB.out))));have n1_:=qm (qt (by repeat (first | (with_reducible first | exact HB.out | apply qa | apply qn | apply qd) | exact HB.out)) hb);clear HB;have HO181:=n0_;have HB:=n1_;clear n0_ n1_;(try clear hb);(try clear hb2);(try clear hk);(try clear hi);(try clear ho0);obtain ⟨Ao9,co9,eo9⟩:=Kd.R_slice HO181.out;subst eo9))
   go_ret2
   exact ⟨_,by first | rfl | (simp [errW_none,errW_some] <;> rfl) | (simp [*,errW_none,errW_some] <;> rfl),by (with_reducible repeat (first | apply raq | apply rnq | apply rdq));exact HO181.out,by repeat (first | (with_reducible first | exact HB.out | apply qa | apply qn | apply qd) | exact HB.out)⟩
 ·rw [if_neg c4] at H
  have c4b0 : (t179 == 0) = false:=b1q.mpr c4
  have c4b1 : (t179 != 0) = true:=bne_iff_ne.mpr c4
  simp only [o2q,Prod.mk.injEq] at H
  obtain ⟨rfl,rfl⟩:=H
  go_enter Try.func10,Try.ntmps10
  go_wp2_with (first | ((with_reducible refine gcq (f:=19) rfl ?_);refine glq (some 11) rfl rfl Try.func19 (by kernel_rfl) rfl #[.slice A0 l0.length c0,.slice A1 l1.length c1] rfl (by (try simp only [l3q,l4q,l5q]);first | done | rfl | (simp only [l1q,l2q];rfl)) ?_;(with_reducible refine (block_whole.calls k _ _ l0 _ _ l1 t178 t179 _ ?side1 ?side2 ?side3 ?side4 A3.out).mono ?_);(case side1 => repeat (first | exact HR0.out | (with_reducible first | refine caq ?_ _ | refine cnq ?_ _ | refine cdq ?_)));(case side2 => exact HC0.out);(case side3 => repeat (first | exact HR1.out | (with_reducible first | refine caq ?_ _ | refine cnq ?_ _ | refine cdq ?_)));(case side4 => exact HC1.out);rintro e w10 ⟨v180,rfl,ho0,hb⟩;refine ⟨_,rfl,?_⟩;have n0_:=qm (Kd.R_lower ho0 (qs (by repeat (first | (with_reducible first | exact HB.out | apply qa | apply qn | apply qd) | exact HB.out))));have n1_:=qm (qt (by repeat (first | (with_reducible first | exact HB.out | apply qa | apply qn | apply qd) | exact HB.out)) hb);clear HB;have HO181:=n0_;have HB:=n1_;clear n0_ n1_;(try clear hb);(try clear hb2);(try clear hk);(try clear hi);(try clear ho0)))
  go_ret2
  exact ⟨_,by first | rfl | (simp [errW_none,errW_some] <;> rfl) | (simp [*,errW_none,errW_some] <;> rfl),by (with_reducible repeat (first | apply raq | apply rnq | apply rdq));exact HO181.out,by repeat (first | (with_reducible first | exact HB.out | apply qa | apply qn | apply qd) | exact HB.out)⟩

/-- A state of type 97 at block g of W; what its slices lead to came in by w0. -/
def IsS97 (w0 W : World) (g : Nat) (f0 : ByteArray) (f1 : Int) (f2 : Int) : Prop := W.heap[g]? = some (.cells #[.string f0, .int .i64 f1, .int .i64 f2] 97 (0, 0)) ∧ w0.heap.size ≤ g
theorem IsS97.grown {w0 W : World} {g : Nat} {f0 : ByteArray} {f1 : Int} {f2 : Int} {W1 : World} {row : Option Nat} (h : IsS97 w0 W g f0 f1 f2) (hw : W.grownBy W1 row) (hne : some g ≠ row) : IsS97 w0 W1 g f0 f1 f2 := by
  obtain ⟨hb, hg⟩ := h
  exact ⟨blk_grown hb hw hne, hg⟩
theorem IsS97.own_neN {w0 W : World} {g : Nat} {f0 : ByteArray} {f1 : Int} {f2 : Int} {α : Type} {d : Kd α} {e : Nat} {base : Nat} {ok : Nat → Prop} {v : Value} {xs : List α} (h : IsS97 w0 W g f0 f1 f2) (ho : Kd.N d e W base ok v xs) (ht : e ≠ 97) : some g ≠ v.ownBlock := by
  obtain ⟨hb, hg⟩ := h
  exact Kd.N_ne ho hb ht
theorem IsS97.fresh {w0 W : World} {g : Nat} {f0 : ByteArray} {f1 : Int} {f2 : Int} (h : IsS97 w0 W g f0 f1 f2) : ∀ k, W.heap.size ≤ k → k ≠ g := by
  obtain ⟨hb, hg⟩ := h
  exact Kd.freshB hb
theorem IsS97.kept {w0 W : World} {g : Nat} {f0 : ByteArray} {f1 : Int} {f2 : Int} {W1 : World} {S : Nat → Prop} (h : IsS97 w0 W g f0 f1 f2) (hk : Kept W W1 S) (hne : ¬ S g) : IsS97 w0 W1 g f0 f1 f2 := by
  obtain ⟨hb, hg⟩ := h
  exact ⟨blk_kept hb hk hne, hg⟩
theorem IsS97.below {w0 W : World} {g : Nat} {f0 : ByteArray} {f1 : Int} {f2 : Int} {W1 : World} (h : IsS97 w0 W g f0 f1 f2) (hw : Below W.heap.size W W1) : IsS97 w0 W1 g f0 f1 f2 := h.grown (grown_of_below hw none) (by simp)
theorem IsS97.alloc {w0 W : World} {g : Nat} {f0 : ByteArray} {f1 : Int} {f2 : Int} (h : IsS97 w0 W g f0 f1 f2) (o : Obj) : IsS97 w0 (W.alloc o) g f0 f1 f2 := h.below (qa (Below.refl _ _) o)
theorem IsS97.drewN {w0 W : World} {g : Nat} {f0 : ByteArray} {f1 : Int} {f2 : Int} (h : IsS97 w0 W g f0 f1 f2) (m : Nat) : IsS97 w0 (W.drewN m) g f0 f1 f2 := h
theorem IsS97.drew {w0 W : World} {g : Nat} {f0 : ByteArray} {f1 : Int} {f2 : Int} (h : IsS97 w0 W g f0 f1 f2) : IsS97 w0 W.drew g f0 f1 f2 := h
theorem IsS97.at_ {w0 W : World} {g : Nat} {f0 : ByteArray} {f1 : Int} {f2 : Int} {w' : World} {m : Nat} (hq : W.drewN m = w') (h : IsS97 w0 W g f0 f1 f2) : IsS97 w0 w' g f0 f1 f2 := by subst hq; exact IsS97.drewN h m
theorem IsS97.apart {w0 W : World} {g : Nat} {f0 : ByteArray} {f1 : Int} {f2 : Int} {α : Type} {d : Kd α} {e : Nat} {base : Nat} {ok : Nat → Prop} {v : Value} {xs : List α} (h : IsS97 w0 W g f0 f1 f2) (ho : d.R e W base ok v xs) (ht : ∀ q, q ∈ e :: d.E → q ≠ 97) : d.R e W base (fun k => ok k ∧ k ≠ g) v xs := by
  obtain ⟨hb, hg⟩ := h
  exact Kd.R_types ho hb ht
theorem IsS97.own_ne {w0 W : World} {g : Nat} {f0 : ByteArray} {f1 : Int} {f2 : Int} {α : Type} {d : Kd α} {e : Nat} {base : Nat} {ok : Nat → Prop} {v : Value} {xs : List α} (h : IsS97 w0 W g f0 f1 f2) (ho : d.R e W base ok v xs) (ht : e ≠ 97) : some g ≠ v.ownBlock := by
  obtain ⟨hb, hg⟩ := h
  exact Kd.R_ne ho hb ht
theorem IsS97.apartQ {w0 W : World} {g : Nat} {f0 : ByteArray} {f1 : Int} {f2 : Int} {α : Type} {d : Kd α} {e : Nat} {base : Nat} {ok : Nat → Prop} {v : Value} {xs : List α} (h : IsS97 w0 W g f0 f1 f2) (ho : d.Q e W base ok v xs) (ht : ∀ q, q ∈ e :: d.E → q ≠ 97) : d.Q e W base (fun k => ok k ∧ k ≠ g) v xs := by
  obtain ⟨hb, hg⟩ := h
  exact Kd.Q_types ho hb ht
theorem IsS97.own_neQ {w0 W : World} {g : Nat} {f0 : ByteArray} {f1 : Int} {f2 : Int} {α : Type} {d : Kd α} {e : Nat} {base : Nat} {ok : Nat → Prop} {v : Value} {xs : List α} (h : IsS97 w0 W g f0 f1 f2) (ho : d.Q e W base ok v xs) (ht : e ≠ 97) : some g ≠ v.ownBlock := by
  obtain ⟨hb, hg⟩ := h
  exact Kd.Q_ne ho hb ht
theorem IsS97.apartS {w0 W : World} {g : Nat} {f0 : ByteArray} {f1 : Int} {f2 : Int} {α : Type} {d : Kd α} {e : Nat} {base : Nat} {ok : Nat → Prop} {v : Value} {xs : List α} (h : IsS97 w0 W g f0 f1 f2) (ho : d.S e W base ok v xs) (ht : ∀ q, q ∈ e :: d.E → q ≠ 97) : d.S e W base (fun k => ok k ∧ k ≠ g) v xs := by
  obtain ⟨hb, hg⟩ := h
  exact Kd.S_types ho hb ht
theorem IsS97.own_neS {w0 W : World} {g : Nat} {f0 : ByteArray} {f1 : Int} {f2 : Int} {α : Type} {d : Kd α} {e : Nat} {base : Nat} {ok : Nat → Prop} {v : Value} {xs : List α} (h : IsS97 w0 W g f0 f1 f2) (ho : d.S e W base ok v xs) (ht : e ≠ 97) : some g ≠ v.ownBlock := by
  obtain ⟨hb, hg⟩ := h
  exact Kd.S_ne ho hb ht
theorem IsS97.lt {w0 W : World} {g : Nat} {f0 : ByteArray} {f1 : Int} {f2 : Int} (h : IsS97 w0 W g f0 f1 f2) : g < W.heap.size := by
  obtain ⟨hb, hg⟩ := h
  exact blk_lt hb
theorem IsS97.ge {w0 W : World} {g : Nat} {f0 : ByteArray} {f1 : Int} {f2 : Int} (h : IsS97 w0 W g f0 f1 f2) : w0.heap.size ≤ g := by
  obtain ⟨hb, hg⟩ := h
  exact hg
theorem IsS97.ne_blk {w0 W : World} {g : Nat} {f0 : ByteArray} {f1 : Int} {f2 : Int} {a : Nat} {cs : Array Value} {t : TypeId} {fr : Nat × Nat} (h : IsS97 w0 W g f0 f1 f2) (hb2 : W.heap[a]? = some (.cells cs t fr)) (ht : t ≠ 97) : g ≠ a := by
  obtain ⟨hb, hg⟩ := h
  rintro rfl
  rw [hb] at hb2
  injection hb2 with hb2
  injection hb2 with _ ht2
  exact ht ht2.symm
theorem IsS97.far {w0 W : World} {g : Nat} {f0 : ByteArray} {f1 : Int} {f2 : Int} {p : Addr} (h : IsS97 w0 W g f0 f1 f2) (hne : g ≠ p.block) (u : Value) : IsS97 w0 (W.setCell p u) g f0 f1 f2 := by
  obtain ⟨hb, hg⟩ := h
  exact ⟨blk_far hb hne u, hg⟩
theorem cellS97_0 {W : World} {g : Nat} {f0 : ByteArray} {f1 : Int} {f2 : Int} (h : W.heap[g]? = some (.cells #[.string f0, .int .i64 f1, .int .i64 f2] 97 (0, 0))) : W.cell? ⟨g, 0, none⟩ = some (.string f0) := (kcq h 0).trans rfl
theorem IsS97.set_0 {w0 W : World} {g : Nat} {f0 : ByteArray} {f1 : Int} {f2 : Int} (h : IsS97 w0 W g f0 f1 f2) (x : ByteArray) : IsS97 w0 (W.setCell ⟨g, 0, none⟩ (.string x)) g x f1 f2 := by
  obtain ⟨hb, hg⟩ := h
  exact ⟨by simpa using blk_set hb 0 (.string x), hg⟩
theorem cellS97_1 {W : World} {g : Nat} {f0 : ByteArray} {f1 : Int} {f2 : Int} (h : W.heap[g]? = some (.cells #[.string f0, .int .i64 f1, .int .i64 f2] 97 (0, 0))) : W.cell? ⟨g, 1, none⟩ = some (.int .i64 f1) := (kcq h 1).trans rfl
theorem IsS97.set_1 {w0 W : World} {g : Nat} {f0 : ByteArray} {f1 : Int} {f2 : Int} (h : IsS97 w0 W g f0 f1 f2) (x : Int) : IsS97 w0 (W.setCell ⟨g, 1, none⟩ (.int .i64 x)) g f0 x f2 := by
  obtain ⟨hb, hg⟩ := h
  exact ⟨by simpa using blk_set hb 1 (.int .i64 x), hg⟩
theorem cellS97_2 {W : World} {g : Nat} {f0 : ByteArray} {f1 : Int} {f2 : Int} (h : W.heap[g]? = some (.cells #[.string f0, .int .i64 f1, .int .i64 f2] 97 (0, 0))) : W.cell? ⟨g, 2, none⟩ = some (.int .i64 f2) := (kcq h 2).trans rfl
theorem IsS97.set_2 {w0 W : World} {g : Nat} {f0 : ByteArray} {f1 : Int} {f2 : Int} (h : IsS97 w0 W g f0 f1 f2) (x : Int) : IsS97 w0 (W.setCell ⟨g, 2, none⟩ (.int .i64 x)) g f0 f1 x := by
  obtain ⟨hb, hg⟩ := h
  exact ⟨by simpa using blk_set hb 2 (.int .i64 x), hg⟩
theorem IsS97.new (w0 W : World) (f0 : ByteArray) (f1 : Int) (f2 : Int) (hB : Below w0.heap.size w0 W) : IsS97 w0 (W.alloc (.cells #[.string f0, .int .i64 f1, .int .i64 f2] 97)) W.heap.size f0 f1 f2 := ⟨by simpa using heap_alloc_new W _, hB.size⟩

/-! ### cursor_New: function 21 -/
def cursor_New.f (l0 : List Int) : Option (ByteArray × Int × Int) := some (strOfNums l0, 0, 0)
set_option maxHeartbeats 8000000 in
set_option maxRecDepth 100000 in
theorem cursor_New.calls (A0 : Option Addr) (c0 : Nat) (l0 : List Int) (r1 : ByteArray) (r2 : Int) (r3 : Int) (w0 w : World) (hB : Below w0.heap.size w0 w) (hr0 : Kd.C (Kd.int .u8) w A0 l0.length l0) (hc0 : l0.length ≤ c0) (h : cursor_New.f l0 = some (r1, r2, r3)) :
    Calls Try.prog 21 #[.slice A0 l0.length c0] w fun e w' => ∃ g_ : Nat, e = .returned (.pointer (some ⟨g_, 0, none⟩)) ∧ IsS97 w0 w' g_ r1 r2 r3 ∧ Below w0.heap.size w0 w' ∧ Below w.heap.size w w' := by
  have hu97 := Try.underlying97
  have HR0 := qm hr0
  have HC0 := qm hc0
  clear hr0 hc0
  have HBW := qm (Below.refl w.heap.size w)
  have HW0 := qm hB.size
  have HB := qm hB
  clear hB
  have H : (some (strOfNums l0, 0, 0)) = some (r1, r2, r3) := h
  clear h
  simp only [o2q, Prod.mk.injEq] at H
  obtain ⟨rfl, rfl, rfl⟩ := H
  have hcv2 := Kd.C_string (P := Try.prog) (A := A0) (c := c0) Try.underlying28 Try.underlying5 Try.underlying9 HR0.out
  have hcv4 := fun m_ : Nat => Kd.C_string (P := Try.prog) (A := A0) (c := c0) Try.underlying28 Try.underlying5 Try.underlying9 (cnq HR0.out m_)
  go_enter Try.func21, Try.ntmps21
  go_wp2_with (first | ((with_reducible refine gdq (N := 6) rfl ?_); refine box_event ?hg (N := 6) ?hd (cs := #[.string (strOfNums l0), .int .i64 0, .int .i64 0]) (t := 97) ?hr ?_; (case hd => rfl); (case hg => rfl); (case hr => first | (go_simp; done) | (go_simp; rfl)); intro gb199 hg w5 hbox hb; have n0_ := qm (qt HBW.out hb); have n1_ := qm (qt (by repeat (first | (with_reducible first | exact HB.out | apply qa | apply qn | apply qd) | exact HB.out)) hb); have n2_ := qm (hbox); have n3_ := qm ((by rw [hg]; exact (qs (by repeat (first | (with_reducible first | exact HBW.out | apply qa | apply qn | apply qd) | exact HBW.out))) : w.heap.size ≤ gb199)); have n4_ := qm ((Nat.le_trans HW0.out (by rw [hg]; exact (qs (by repeat (first | (with_reducible first | exact HBW.out | apply qa | apply qn | apply qd) | exact HBW.out))) : w.heap.size ≤ gb199) : w0.heap.size ≤ gb199)); clear HBW; clear HB; have HBW := n0_; have HB := n1_; have BK199 := n2_; have GW199 := n3_; have GE199 := n4_; clear n0_ n1_ n2_ n3_ n4_; clear hb hbox hg))
  go_ret
  exact ⟨_, rfl, (show IsS97 w0 _ gb199 (strOfNums l0) 0 0 from ⟨by (with_reducible repeat (first | refine knq ?_ _ | refine kdq ?_ | refine kaq ?_ _)); exact BK199.out, GE199.out⟩), by repeat (first | (with_reducible first | exact HB.out | apply qa | apply qn | apply qd | refine qb ?_ GE199.out) | exact HB.out), by repeat (first | (with_reducible first | exact HBW.out | apply qa | apply qn | apply qd | refine qb ?_ GW199.out) | exact HBW.out)⟩

/-! ### cursor_Cursor_Err: function 24 -/
def cursor_Cursor_Err.f (s0_0 : ByteArray) (s0_1 : Int) (s0_2 : Int) : Option (Int × ByteArray × Int × Int) := some (s0_2, s0_0, s0_1, s0_2)
set_option maxHeartbeats 8000000 in
set_option maxRecDepth 100000 in
theorem cursor_Cursor_Err.calls (g : Nat) (s0_0 : ByteArray) (s0_1 : Int) (s0_2 : Int) (r1 : Int) (r2 : ByteArray) (r3 : Int) (r4 : Int) (w0 w : World) (hI : IsS97 w0 w g s0_0 s0_1 s0_2) (hB : Below w0.heap.size w0 w) (h : cursor_Cursor_Err.f s0_0 s0_1 s0_2 = some (r1, r2, r3, r4)) :
    Calls Try.prog 24 #[.pointer (some ⟨g, 0, none⟩)] w fun e w' => e = .returned (.int .i64 r1) ∧ IsS97 w0 w' g r2 r3 r4 ∧ Below w0.heap.size w0 w' ∧ KeepBut w w' g none := by
  have HI0 := qm hI
  have HK := qm (KeepBut.refl w g none)
  have HL := qm hB.size
  clear hI
  have HW0 := qm hB.size
  have HB := qm hB
  clear hB
  have H : (some (s0_2, s0_0, s0_1, s0_2)) = some (r1, r2, r3, r4) := h
  clear h
  simp only [o2q, Prod.mk.injEq] at H
  obtain ⟨rfl, rfl, rfl, rfl⟩ := H
  obtain ⟨HGz2, hgz2⟩ := HI0.out
  have hcz2_0 := cellS97_0 HGz2
  have hcz2_1 := cellS97_1 HGz2
  have hcz2_2 := cellS97_2 HGz2
  have hfz2_0 := kfq HGz2 0
  have hfz2_1 := kfq HGz2 1
  have hfz2_2 := kfq HGz2 2
  clear HGz2 hgz2
  go_enter Try.func24, Try.ntmps24
  go_wp2
  go_ret
  exact ⟨by first | rfl | (simp [errW_none, errW_some] <;> rfl) | (simp [*, errW_none, errW_some] <;> rfl), by repeat (first | (with_reducible first | exact HI0.out | apply IsS97.alloc | apply IsS97.drewN | apply IsS97.drew | apply IsS97.set_0 | apply IsS97.set_1 | apply IsS97.set_2) | exact HI0.out), by repeat (first | (with_reducible first | exact HB.out | apply qa | apply qn | apply qd | refine qb ?_ (IsS97.ge HI0.out)) | exact HB.out), by repeat (first | (with_reducible first | exact HK.out | apply KeepBut.set_ | apply k1q | apply keep_drew | apply keep_alloc) | exact HK.out)⟩

/-! ### wire_Get: function 32 -/
mutual
def wire_Get.l0 : Nat → Int → List Int → Int → Int → Option (Int × Int × Int)
 | 0, _, _, _, _ => none
 | k + 1, x5, x8, x9, x10 => if x10 < x9 then (if 0 ≤ x10 then (if x10 < (x8.length : Int) then (if 0 ≤ (wrap64 (7 * x10)) then (if x10 = 9 then (wire_Get.j1 k (Go.bits .or .u64 x5 (shl .u64 (IntKind.u64.wrap (Go.bits .and .u8 (rd x8 x10) 127)) (wrap64 (7 * x10)))) x10 (rd x8 x10) x8 x9 x10 (decide ((rd x8 x10) > 1))) else (wire_Get.j1 k (Go.bits .or .u64 x5 (shl .u64 (IntKind.u64.wrap (Go.bits .and .u8 (rd x8 x10) 127)) (wrap64 (7 * x10)))) x10 (rd x8 x10) x8 x9 x10 false)) else (none)) else (none)) else (none)) else (some (0, 0, 2))
def wire_Get.j1 : Nat → Int → Int → Int → List Int → Int → Int → Bool → Option (Int × Int × Int)
 | 0, _, _, _, _, _, _, _ => none
 | k + 1, x5, x6, x7, x8, x9, x10, x23 => if x23 = true then (some (0, 0, 3)) else (if x7 ≥ 128 then (wire_Get.l0 k x5 x8 x9 (wrap64 (x10 + 1))) else (if x7 = 0 then (if x6 > 0 then (some (0, 0, 4)) else (some (x5, wrap64 (x6 + 1), 0))) else (some (x5, wrap64 (x6 + 1), 0))))
end
def wire_Get.f (k : Nat) (l0 : List Int) : Option (Int × Int × Int) := wire_Get.l0 k 0 l0 (l0.length : Int) 0
set_option maxHeartbeats 8000000 in
set_option maxRecDepth 100000 in
theorem wire_Get.calls (k : Nat) (A0 : Option Addr) (c0 : Nat) (l0 : List Int) (r1 : Int) (r2 : Int) (r3 : Int) (w : World) (hr0 : Kd.C (Kd.int .u8) w A0 l0.length l0) (hc0 : l0.length ≤ c0) (h : wire_Get.f k l0 = some (r1,r2,r3)) :
  Calls Try.prog 32 #[.slice A0 l0.length c0] w fun e w' => e = .returned (.tuple #[.int .u64 r1,.int .i64 r2,.int .i64 r3]) ∧ Drawn0 w w':=by
 have HR0:=qm hr0
 have HC0:=qm hc0
 clear hr0 hc0
 have H : (wire_Get.l0 k 0 l0 (l0.length : Int) 0) = some (r1,r2,r3):=h
 clear h
 have H':=qm H
 clear H
 go_enter Try.func32,Try.ntmps32
 go_wp2
 go_loopg [5,10] k (fun kq v5 v10 w' => ∃ (x5_1 : Int) (x10_1 : Int),v5 = .int .u64 x5_1 ∧ v10 = .int .i64 x10_1 ∧ Aside0 (wire_Get.l0 kq x5_1 l0 (l0.length : Int) x10_1 = some (r1,r2,r3)) ∧ Aside0 (kq ≤ k) ∧ Drawn0 w w')
 case atStart => exact ⟨(0),(0),(by first | rfl | (simp;done) | (simp [*];done)),(by first | rfl | (simp;done) | (simp [*];done)),H',⟨Nat.le_refl _⟩,by repeat (first | exact Drawn0.refl _ | apply Drawn0.step)⟩
 case round =>
  clear H'
  obtain ⟨x5_1,x10_1,rfl,rfl,HA,HK1,⟨m1,rfl⟩⟩:=hrel
  cases gk with
  | zero => exact absurd HA.out (by simp [wire_Get.l0])
  | succ k1 =>
   have H:=HA.out
   clear HA
   simp only [wire_Get.l0] at H
   by_cases c2 : x10_1 < (l0.length : Int)
   ·rw [if_pos c2] at H
    have c2b0 : decide (x10_1 < (l0.length : Int)) = true:=dt_ c2
    clear c2
    by_cases c3 : 0 ≤ x10_1
    ·rw [if_pos c3] at H
     have c3b0 : decide (0 ≤ x10_1) = true:=dt_ c3
     clear c3
     by_cases c4 : x10_1 < (l0.length : Int)
     ·rw [if_pos c4] at H
      have c4b0 : decide (x10_1 < (l0.length : Int)) = true:=dt_ c4
      clear c4
      obtain ⟨ji5,hji5⟩ : ∃ j_ : Int,(wrap64 (7 * x10_1)) = j_:=⟨_,rfl⟩
      replace H : (if 0 ≤ (ji5) then (if x10_1 = 9 then (wire_Get.j1 k1 (Go.bits .or .u64 x5_1 (shl .u64 (IntKind.u64.wrap (Go.bits .and .u8 (rd l0 x10_1) 127)) (ji5))) x10_1 (rd l0 x10_1) l0 (l0.length : Int) x10_1 (decide ((rd l0 x10_1) > 1))) else (wire_Get.j1 k1 (Go.bits .or .u64 x5_1 (shl .u64 (IntKind.u64.wrap (Go.bits .and .u8 (rd l0 x10_1) 127)) (ji5))) x10_1 (rd l0 x10_1) l0 (l0.length : Int) x10_1 false)) else (none)) = some (r1,r2,r3):=by first | (rw [hji5] at H;exact H) | (simp only [hji5] at H ⊢;exact H)
      have hji5w : (IntKind.i64.wrap (7 * x10_1)) = ji5:=(i64_w _).trans hji5
      by_cases c6 : 0 ≤ (ji5)
      ·rw [if_pos c6] at H
       have c6b0:=eq_true c6
       have c6b1 : decide (0 ≤ (ji5)) = true:=dt_ c6
       clear c6
       obtain ⟨ji7,hji7⟩ : ∃ j_ : Int,(shl .u64 (IntKind.u64.wrap (Go.bits .and .u8 (rd l0 x10_1) 127)) (ji5)) = j_:=⟨_,rfl⟩
       replace H : (if x10_1 = 9 then (wire_Get.j1 k1 (Go.bits .or .u64 x5_1 (ji7)) x10_1 (rd l0 x10_1) l0 (l0.length : Int) x10_1 (decide ((rd l0 x10_1) > 1))) else (wire_Get.j1 k1 (Go.bits .or .u64 x5_1 (ji7)) x10_1 (rd l0 x10_1) l0 (l0.length : Int) x10_1 false)) = some (r1,r2,r3):=by first | (rw [hji7] at H;exact H) | (simp only [hji7] at H ⊢;exact H)
       have hji7_ : (IntKind.u64.wrap ((IntKind.u64.wrap (Go.bits .and .u8 (rd l0 x10_1) 127)) * 2 ^ min (ji5).toNat 64)) = ji7:=hji7
       have hji7z : (ji5) ≤ 64 → (IntKind.u64.wrap ((IntKind.u64.wrap (Go.bits .and .u8 (rd l0 x10_1) 127)) * 2 ^ (ji5).toNat)) = ji7:=shl_small hji7
       have HC8:=qm H
       clear H
       have p182 : 0 ≤ (x10_1 : Int):=dq_ (by first | (with_reducible assumption) | assumption)
       have q182 : x10_1 < (l0.length : Int):=dq_ (by first | (with_reducible assumption) | assumption)
       obtain ⟨ad182,e182,hx182_0⟩:=Kd.at_int HR0.out x10_1 p182 q182
       cases e182
       replace p182:=eq_true p182
       replace q182:=eq_true q182
       go_upto_region 6 with (fail)
       go_cut [23] (fun v23 wc => ∃ (kq : Nat) (x23_7 : Bool),v23 = .bool x23_7 ∧ Aside0 (wire_Get.j1 kq (Go.bits .or .u64 x5_1 (ji7)) x10_1 (rd l0 x10_1) l0 (l0.length : Int) x10_1 x23_7 = some (r1,r2,r3)) ∧ Aside0 (kq ≤ k1) ∧ Drawn0 w wc)
       case first =>
        have H:=HC8.out
        clear HC8
        by_cases c9 : x10_1 = 9
        ·rw [if_pos c9] at H
         have c9b0 : (x10_1 == 9) = true:=beq_iff_eq.mpr c9
         have c9b1 : (x10_1 != 9) = false:=b2q.mpr c9
         clear c9
         (first | rw [c9b0] | (simp only [i64_w,i32_w];rw [c9b0]) | skip)
         have H':=qm H
         clear H
         go_wp2
         go_meet
         case rel => exact ⟨_,(decide ((rd l0 x10_1) > 1)),(by first | rfl | (simp;done) | (simp [*];done)),H',⟨by have:=HK1.out;first | omega | exact Nat.le_refl _⟩,by repeat (first | exact Drawn0.refl _ | apply Drawn0.step)⟩
        ·rw [if_neg c9] at H
         have c9b0 : (x10_1 == 9) = false:=b1q.mpr c9
         have c9b1 : (x10_1 != 9) = true:=bne_iff_ne.mpr c9
         (first | rw [c9b0] | (simp only [i64_w,i32_w];rw [c9b0]) | skip)
         have H':=qm H
         clear H
         go_wp2
         go_meet
         case rel => exact ⟨_,(false),(by first | rfl | (simp;done) | (simp [*];done)),H',⟨by have:=HK1.out;first | omega | exact Nat.le_refl _⟩,by repeat (first | exact Drawn0.refl _ | apply Drawn0.step)⟩
       case rest =>
        clear HC8
        try clear p1
        try clear q1
        try clear hx1
        try clear c2
        try clear c2b0
        try clear p2
        try clear c3
        try clear c3b0
        try clear c4
        try clear c4b0
        try clear c6
        try clear c6b0
        try clear c6b1
        try clear p6
        try clear c9
        try clear c9b0
        try clear c9b1
        try clear hx182_0
        try clear p182
        try clear q182
        obtain ⟨kq,x23_7,rfl,HA,HJ7,⟨mc7,rfl⟩⟩:=hcut
        cases kq with
        | zero => exact absurd HA.out (by simp [wire_Get.j1])
        | succ kj7 =>
         have H:=HA.out
         clear HA
         simp only [wire_Get.j1] at H
         by_cases c10 : x23_7 = true
         ·subst c10
          have H1 : (some (0,0,3)) = some (r1,r2,r3):=by rw [if_pos rfl] at H;exact H
          clear H
          have H:=H1
          clear H1
          simp only [o2q,Prod.mk.injEq] at H
          obtain ⟨rfl,rfl,rfl⟩:=H
          go_wp2
          go_ret3
          exact ⟨by first | rfl | (simp;done) | (simp only [← hji5,← hji7] <;> (first | rfl | simp)) | (simp [*];done),by repeat (first | exact Drawn0.refl _ | apply Drawn0.step)⟩
         ·replace c10:=Bool.eq_false_iff.mpr c10
          subst c10
          have H1 : (if (rd l0 x10_1) ≥ 128 then (wire_Get.l0 kj7 (Go.bits .or .u64 x5_1 (ji7)) l0 (l0.length : Int) (wrap64 (x10_1 + 1))) else (if (rd l0 x10_1) = 0 then (if x10_1 > 0 then (some (0,0,4)) else (some ((Go.bits .or .u64 x5_1 (ji7)),wrap64 (x10_1 + 1),0))) else (some ((Go.bits .or .u64 x5_1 (ji7)),wrap64 (x10_1 + 1),0)))) = some (r1,r2,r3):=by rw [if_neg (show ¬ (false = true) by decide)] at H;exact H
          clear H
          have H:=H1
          clear H1
          by_cases c11 : (rd l0 x10_1) ≥ 128
          ·rw [if_pos c11] at H
           have c11b0 : decide (128 ≤ (rd l0 x10_1)) = true:=dt_ c11
           clear c11
           have H':=qm H
           clear H
           go_wp2
           go_roundg kj7
           case measure => have:=HK1.out;have:=HJ7.out;omega
           case rel => exact ⟨((Go.bits .or .u64 x5_1 (ji7))),(wrap64 (x10_1 + 1)),(by first | rfl | (simp;done) | (simp only [← hji7] <;> (first | rfl | simp)) | (simp [*];done)),(by first | rfl | (simp;done) | (simp [*];done)),H',⟨by have:=HK1.out;have:=HJ7.out;omega⟩,by repeat (first | exact Drawn0.refl _ | apply Drawn0.step)⟩
          ·rw [if_neg c11] at H
           have c11b0 : decide (128 ≤ (rd l0 x10_1)) = false:=decide_eq_false c11
           clear c11
           by_cases c12 : (rd l0 x10_1) = 0
           ·rw [if_pos c12] at H
            have c12b0 : ((rd l0 x10_1) == 0) = true:=beq_iff_eq.mpr c12
            have c12b1 : ((rd l0 x10_1) != 0) = false:=b2q.mpr c12
            clear c12
            by_cases c13 : x10_1 > 0
            ·rw [if_pos c13] at H
             have c13b0 : decide (0 < x10_1) = true:=dt_ c13
             clear c13
             simp only [o2q,Prod.mk.injEq] at H
             obtain ⟨rfl,rfl,rfl⟩:=H
             go_wp2
             go_ret3
             exact ⟨by first | rfl | (simp;done) | (simp only [← hji5,← hji7] <;> (first | rfl | simp)) | (simp [*];done),by repeat (first | exact Drawn0.refl _ | apply Drawn0.step)⟩
            ·rw [if_neg c13] at H
             have c13b0 : decide (0 < x10_1) = false:=decide_eq_false c13
             clear c13
             simp only [o2q,Prod.mk.injEq] at H
             obtain ⟨rfl,rfl,rfl⟩:=H
             go_wp2
             go_ret3
             exact ⟨by first | rfl | (simp;done) | (simp only [← hji5,← hji7] <;> (first | rfl | simp)) | (simp [*];done),by repeat (first | exact Drawn0.refl _ | apply Drawn0.step)⟩
           ·rw [if_neg c12] at H
            have c12b0 : ((rd l0 x10_1) == 0) = false:=b1q.mpr c12
            have c12b1 : ((rd l0 x10_1) != 0) = true:=bne_iff_ne.mpr c12
            simp only [o2q,Prod.mk.injEq] at H
            obtain ⟨rfl,rfl,rfl⟩:=H
            go_wp2
            go_ret3
            exact ⟨by first | rfl | (simp;done) | (simp only [← hji5,← hji7] <;> (first | rfl | simp)) | (simp [*];done),by repeat (first | exact Drawn0.refl _ | apply Drawn0.step)⟩
      ·rw [if_neg c6] at H
       exact absurd H (by simp)
     ·rw [if_neg c4] at H
      exact absurd H (by simp)
    ·rw [if_neg c3] at H
     exact absurd H (by simp)
   ·rw [if_neg c2] at H
    have c2b0 : decide (x10_1 < (l0.length : Int)) = false:=decide_eq_false c2
    clear c2
    simp only [o2q,Prod.mk.injEq] at H
    obtain ⟨rfl,rfl,rfl⟩:=H
    go_wp2
    go_ret3
    exact ⟨by first | rfl | (simp;done) | (simp [*];done),by repeat (first | exact Drawn0.refl _ | apply Drawn0.step)⟩

/-! ### cursor_take_uint64: function 81 -/
section
open Go.Proofs.YtmmfakdncjeoeaaAid

def cursor_take_u64.T4 : Bool × List (List Nat × List Nat) := (true, [([], []), ([], []), ([1], [1]), ([2], [2]), ([3], [3]), ([], []), ([5], [5]), ([6], [6]), ([7], [7]), ([4, 8], [4, 8]), ([9], [9]), ([0, 10], [0, 10]), ([11], [11]), ([12], [12]), ([12], [12]), ([12], [12]), ([13, 11, 0, 1, 2, 3, 4, 5, 6, 7, 8, 9, 10, 11, 12, 13], [13]), ([14, 16, 0, 1, 2, 3, 4, 5, 6, 7, 8, 9, 10, 11, 12, 13, 14, 16], [14]), ([15, 17, 0, 1, 2, 3, 4, 5, 6, 7, 8, 9, 10, 11, 12, 13, 14, 15, 16, 17], [15])])
def cursor_take_u64.B4 : List Nat := [0, 0, 2, 6, 14, 0, 32, 96, 224, 510, 1022, 2047, 4095, 8191, 8191, 8191, 16383, 98303, 262143]
theorem cursor_take_u64.tab4 : rtab .any (opsOf Try.f81 4) = cursor_take_u64.T4 := by kernel_rfl
theorem cursor_take_u64.bits4 : waitsOk cursor_take_u64.T4.2 cursor_take_u64.B4 = true := by kernel_rfl
set_option maxHeartbeats 8000000 in
set_option maxRecDepth 100000 in
theorem cursor_take_u64.gen (G : FuncId) (fnG : Func) (hfG : Try.prog.funcs[G]? = some fnG) (hnG : (fnG.name == "runtime.NumGoroutine") = false) (hbG : fnG.body.isSome = true) (caps : Array Value) (get : List Int → Option (Int × Int × Int)) (g : Nat) (s0_0 : ByteArray) (s0_1 : Int) (s0_2 : Int) (r1 : Int) (r2 : ByteArray) (r3 : Int) (r4 : Int) (w0 w : World) (hI : IsS97 w0 w g s0_0 s0_1 s0_2) (hB : Below w0.heap.size w0 w)
    (hget : ∀ (y : List Int) (t : Int) (n e : Int), get y = some (t, n, e) → ∀ (A : Option Addr) (c : Nat) (w1 : World), KeepBut w w1 g none → (Kd.int .u8).C w1 A y.length y → y.length ≤ c → Calls Try.prog G (#[.slice A y.length c] ++ caps) w1 fun e_ w' => e_ = .returned (.tuple #[.int .u64 t, .int .i64 n, .int .i64 e]) ∧ Below w1.heap.size w1 w')
    (h : cursor_take_out (0 : Int) s0_0 s0_1 s0_2 get = some (r1, r2, r3, r4)) :
    Calls Try.prog 81 #[.pointer (some ⟨g, 0, none⟩), .func (.func G) #[] caps] w fun e w' => e = .returned (.int .u64 r1) ∧ IsS97 w0 w' g r2 r3 r4 ∧ Below w0.heap.size w0 w' ∧ KeepBut w w' g none := by
  have HI0 := qm hI
  have HK := qm (KeepBut.refl w g none)
  have HW0 := qm hB.size
  have HB := qm hB
  clear hB hI
  unfold cursor_take_out at h
  have H := h
  clear h
  by_cases c3 : s0_2 = 0
  · rw [if_pos c3] at H
    have c3b0 : (s0_2 == 0) = true := beq_iff_eq.mpr c3
    have c3b1 : (s0_2 != 0) = false := b2q.mpr c3
    clear c3
    by_cases c4 : 0 ≤ s0_1
    · rw [if_pos c4] at H
      have c4b0 := eq_true c4
      have c4b1 : decide (0 ≤ s0_1) = true := dt_ c4
      clear c4
      by_cases c5 : s0_1 ≤ (s0_0.size : Int)
      · rw [if_pos c5] at H
        have c5b0 := eq_true c5
        have c5b1 : decide (s0_1 ≤ (s0_0.size : Int)) = true := dt_ c5
        clear c5
        by_cases c6 : (s0_0.extract (s0_1 : Int).toNat s0_0.size).size ≤ 9223372036854775807
        · rw [if_pos c6] at H
          have c6b1 : decide ((s0_0.extract (s0_1 : Int).toNat s0_0.size).size ≤ 9223372036854775807) = true := dt_ c6
          clear c6
          obtain ⟨y106, hy106⟩ : ∃ y_ : List Int, y_ = (bytesOf (s0_0.extract (s0_1 : Int).toNat s0_0.size)) := ⟨_, rfl⟩
          rw [← hy106] at H
          have Ny106 := qm hy106
          clear hy106
          replace H := obq.mp H
          obtain ⟨⟨t107, t108, t109⟩, A70, H⟩ := H
          have A7 := qm A70
          clear A70
          dsimp only at H
          obtain ⟨HGz, hgz⟩ := HI0.out
          have hcz_0 := cellS97_0 HGz
          have hcz_1 := cellS97_1 HGz
          have hcz_2 := cellS97_2 HGz
          have hfz_0 := kfq HGz 0
          have hfz_1 := kfq HGz 1
          have hfz_2 := kfq HGz 2
          clear HGz hgz
          go_enter Try.func81, Try.ntmps81
          go_wp2
          have n0_ := qm (IsS97.drew HI0.out)
          have n1_ := qm (keep_drew HK.out)
          have n2_ := qm (qd HB.out)
          clear HI0 HK HB hcz_0 hcz_1 hcz_2 hfz_0 hfz_1 hfz_2
          have HI0 := n0_
          have HK := n1_
          have HB := n2_
          clear n0_ n1_ n2_
          refine start_ (n := 19) (S := fun w' => w'.cell? ⟨g, 0, none⟩ = some (.string s0_0) ∧ w'.cell? ⟨g, 1, none⟩ = some (.int .i64 s0_1)) (ds := []) #[false, false, false, false, false, false, false, false, false, false, false, false, false, false, false, false, false, false, false] (by kernel_rfl) rfl rfl ⟨(cellS97_0 HI0.out.1), (cellS97_1 HI0.out.1)⟩ (fun hHeld => ?_)
          refine with_tabW cursor_take_u64.tab4 cursor_take_u64.bits4 (fun HT_ HW_ => ?_)
          generalize w.drew = w4 at HI0 HK HB hHeld ⊢
          refine pure_ (i := 0) (N := some 16) (v := ?_) (a' := ?_) #[true, false, false, false, false, false, false, false, false, false, false, false, false, false, false, false, false, false, false] rfl rfl (any_of HT_.out (by kernel_rfl)) (fun _ _ _ h => h) (Or.inl ⟨by rfl, ?_⟩) ?_ ?_
          rotate_left
          · intro w'
            go_simp
            with_reducible rfl
          rotate_left
          · simp only [Act.put, l6q, l7q, l8q, i64_w, i32_w]
            rfl
          refine pure_ (i := 1) (N := some 17) (v := ?_) (a' := ?_) #[true, true, false, false, false, false, false, false, false, false, false, false, false, false, false, false, false, false, false] rfl rfl (any_of HT_.out (by kernel_rfl)) (fun _ _ _ h => h) (Or.inl ⟨by rfl, ?_⟩) ?_ ?_
          rotate_left
          · intro w'
            go_simp
            with_reducible rfl
          rotate_left
          · simp only [Act.put, l6q, l7q, l8q, i64_w, i32_w]
            rfl
          refine pure_ (i := 2) (N := some 18) (v := ?_) (a' := ?_) #[true, true, true, false, false, false, false, false, false, false, false, false, false, false, false, false, false, false, false] rfl rfl (any_of HT_.out (by kernel_rfl)) (fun _ _ _ h => h) (Or.inl ⟨by rfl, ?_⟩) ?_ ?_
          rotate_left
          · intro w'
            go_simp
            with_reducible rfl
          rotate_left
          · simp only [Act.put, l6q, l7q, l8q, i64_w, i32_w]
            rfl
          refine pure_ (i := 3) (N := some 19) (v := ?_) (a' := ?_) #[true, true, true, true, false, false, false, false, false, false, false, false, false, false, false, false, false, false, false] rfl rfl (any_of HT_.out (by kernel_rfl)) (fun _ _ _ h => h) (Or.inl ⟨by rfl, ?_⟩) ?_ ?_
          rotate_left
          · intro w'
            go_simp
            with_reducible rfl
          rotate_left
          · simp only [Act.put, l6q, l7q, l8q, i64_w, i32_w]
            rfl
          refine pure_ (i := 5) (N := some 21) (v := ?_) (a' := ?_) #[true, true, true, true, false, true, false, false, false, false, false, false, false, false, false, false, false, false, false] rfl rfl (any_of HT_.out (by kernel_rfl)) (fun _ _ _ h => h) (Or.inl ⟨by rfl, ?_⟩) ?_ ?_
          rotate_left
          · intro w'
            go_simp
            with_reducible rfl
          rotate_left
          · simp only [Act.put, l6q, l7q, l8q, i64_w, i32_w]
            rfl
          refine pure_ (i := 6) (N := some 22) (v := ?_) (a' := ?_) #[true, true, true, true, false, true, true, false, false, false, false, false, false, false, false, false, false, false, false] rfl rfl (any_of HT_.out (by kernel_rfl)) (fun _ _ _ h => h) (Or.inl ⟨by rfl, ?_⟩) ?_ ?_
          rotate_left
          · intro w'
            go_simp
            with_reducible rfl
          rotate_left
          · simp only [Act.put, l6q, l7q, l8q, i64_w, i32_w]
            rfl
          refine pure_ (i := 7) (N := some 23) (v := ?_) (a' := ?_) #[true, true, true, true, false, true, true, true, false, false, false, false, false, false, false, false, false, false, false] rfl rfl (any_of HT_.out (by kernel_rfl)) (fun _ _ _ h => h) (Or.inl ⟨by rfl, ?_⟩) ?_ ?_
          rotate_left
          · intro w'
            go_simp
            with_reducible rfl
          rotate_left
          · simp only [Act.put, l6q, l7q, l8q, i64_w, i32_w]
            rfl
          refine take_ (i := 4) (N := some 20) (v := ?_) (a' := ?_) #[true, true, true, true, true, true, true, true, false, false, false, false, false, false, false, false, false, false, false] rfl rfl (take_ofW HT_.out HW_.out (by kernel_rfl)) (fun _ _ _ h => h) (Or.inl ⟨by rfl, ?_⟩) hHeld ?_ ?_
          rotate_left
          · rintro w' ⟨s0, s1⟩
            go_simp
            with_reducible rfl
          rotate_left
          · simp only [Act.put, l6q, l7q, l8q, i64_w, i32_w]
            rfl
          refine take_ (i := 8) (N := some 24) (v := ?_) (a' := ?_) #[true, true, true, true, true, true, true, true, true, false, false, false, false, false, false, false, false, false, false] rfl rfl (take_ofW HT_.out HW_.out (by kernel_rfl)) (fun _ _ _ h => h) (Or.inl ⟨by rfl, ?_⟩) hHeld ?_ ?_
          rotate_left
          · rintro w' ⟨s0, s1⟩
            go_simp
            with_reducible rfl
          rotate_left
          · simp only [Act.put, l6q, l7q, l8q, i64_w, i32_w]
            rfl
          refine pure_ (i := 9) (N := some 25) (v := ?_) (a' := ?_) #[true, true, true, true, true, true, true, true, true, true, false, false, false, false, false, false, false, false, false] rfl rfl (any_of HT_.out (by kernel_rfl)) (fun _ _ _ h => h) (Or.inl ⟨by rfl, ?_⟩) ?_ ?_
          rotate_left
          · intro w'
            go_simp
            with_reducible rfl
          rotate_left
          · simp only [Act.put, l6q, l7q, l8q, i64_w, i32_w]
            rfl
          refine one_ (i := 10) (N := some 26) #[true, true, true, true, true, true, true, true, true, true, true, false, false, false, false, false, false, false, false] rfl rfl (one_of HT_.out (by kernel_rfl)) (by decide) (fun K hK => ?_)
          refine conv_bytes_step _ (by rfl) (N := 26) rfl 9 28 5 _ rfl (s0_0.extract (s0_1 : Int).toNat s0_0.size) Try.underlying9 Try.underlying28 Try.underlying5 rfl (dq_ c6b1) (Below.refl _ _) (Nat.le_refl _) ?_
          intro A105 c105 n105_ w10 hn_ hs_ hc_ hb hg_
          clear hg_
          obtain rfl : n105_ = y106.length := (by rw [hn_, Ny106.out])
          rw [← Ny106.out] at hs_
          have n0_ := qm (IsS97.below HI0.out hb)
          have n1_ := qm (KeepBut.trans HK.out (KeepBut.of_below hb g none) (.inl rfl))
          have n2_ := qm (qt HB.out hb)
          clear HI0 HK HB
          have HI0 := n0_
          have HK := n1_
          have HB := n2_
          clear n0_ n1_ n2_
          have HR105 := qm hs_
          have HC105 := qm hc_
          clear hb hs_ hc_ hn_
          refine hK.out _ _ ⟨(cellS97_0 HI0.out.1), (cellS97_1 HI0.out.1)⟩ (fun hHeld => ?_)
          clear hK K
          refine norm_ (a' := ?_) ?_ ?_
          rotate_left
          · show Act.put _ (some 26) _ = _
            simp only [Act.put, l6q, l7q, l8q, i64_w, i32_w]
            rfl
          refine one_ (i := 11) (N := some 27) #[true, true, true, true, true, true, true, true, true, true, true, true, false, false, false, false, false, false, false] rfl rfl (one_of HT_.out (by kernel_rfl)) (by decide) (fun K hK => ?_)
          refine goesVs_ hfG hnG hbG #[.slice A105 y106.length c105] caps _ (by rfl) rfl rfl rfl (by simp only [l3q, l4q, l5q]; rfl) ?_
          refine (hget _ _ _ _ A7.out _ _ _ HK.out HR105.out HC105.out).mono ?_
          rintro e w11 ⟨rfl, hb⟩
          refine ⟨_, rfl, ?_⟩
          have n0_ := qm (IsS97.below HI0.out hb)
          have n1_ := qm (KeepBut.trans HK.out (KeepBut.of_below hb g none) (.inl rfl))
          have n2_ := qm (qt HB.out hb)
          clear HI0 HK HB
          have HI0 := n0_
          have HK := n1_
          have HB := n2_
          clear n0_ n1_ n2_
          clear hb
          refine hK.out _ _ ⟨(cellS97_0 HI0.out.1), (cellS97_1 HI0.out.1)⟩ (fun hHeld => ?_)
          clear hK K
          refine norm_ (a' := ?_) ?_ ?_
          rotate_left
          · show Act.put _ (some 27) _ = _
            simp only [Act.put, l6q, l7q, l8q, i64_w, i32_w]
            rfl
          refine pure_ (i := 12) (N := some 15) (v := ?_) (a' := ?_) #[true, true, true, true, true, true, true, true, true, true, true, true, true, false, false, false, false, false, false] rfl rfl (any_of HT_.out (by kernel_rfl)) (fun _ _ _ h => h) (Or.inl ⟨by rfl, ?_⟩) ?_ ?_
          rotate_left
          · intro w'
            go_simp
            with_reducible rfl
          rotate_left
          · simp only [Act.put, l6q, l7q, l8q, i64_w, i32_w]
            rfl
          refine pure_ (i := 13) (N := some 28) (v := ?_) (a' := ?_) #[true, true, true, true, true, true, true, true, true, true, true, true, true, true, false, false, false, false, false] rfl rfl (any_of HT_.out (by kernel_rfl)) (fun _ _ _ h => h) (Or.inl ⟨by rfl, ?_⟩) ?_ ?_
          rotate_left
          · intro w'
            go_simp
            with_reducible rfl
          rotate_left
          · simp only [Act.put, l6q, l7q, l8q, i64_w, i32_w]
            rfl
          refine pure_ (i := 14) (N := some 29) (v := ?_) (a' := ?_) #[true, true, true, true, true, true, true, true, true, true, true, true, true, true, true, false, false, false, false] rfl rfl (any_of HT_.out (by kernel_rfl)) (fun _ _ _ h => h) (Or.inl ⟨by rfl, ?_⟩) ?_ ?_
          rotate_left
          · intro w'
            go_simp
            with_reducible rfl
          rotate_left
          · simp only [Act.put, l6q, l7q, l8q, i64_w, i32_w]
            rfl
          refine pure_ (i := 15) (N := some 30) (v := ?_) (a' := ?_) #[true, true, true, true, true, true, true, true, true, true, true, true, true, true, true, true, false, false, false] rfl rfl (any_of HT_.out (by kernel_rfl)) (fun _ _ _ h => h) (Or.inl ⟨by rfl, ?_⟩) ?_ ?_
          rotate_left
          · intro w'
            go_simp
            with_reducible rfl
          rotate_left
          · simp only [Act.put, l6q, l7q, l8q, i64_w, i32_w]
            rfl
          refine pure_ (i := 16) (N := some 6) (v := ?_) (a' := ?_) #[true, true, true, true, true, true, true, true, true, true, true, true, true, true, true, true, true, false, false] rfl rfl (any_of HT_.out (by kernel_rfl)) (fun _ _ _ h => h) (Or.inl ⟨by rfl, ?_⟩) ?_ ?_
          rotate_left
          · intro w'
            go_simp
            with_reducible rfl
          rotate_left
          · simp only [Act.put, l6q, l7q, l8q, i64_w, i32_w]
            rfl
          refine pure_ (i := 17) (N := some 7) (v := ?_) (a' := ?_) #[true, true, true, true, true, true, true, true, true, true, true, true, true, true, true, true, true, true, false] rfl rfl (any_of HT_.out (by kernel_rfl)) (fun _ _ _ h => h) (Or.inl ⟨by rfl, ?_⟩) ?_ ?_
          rotate_left
          · intro w'
            go_simp
            with_reducible rfl
          rotate_left
          · simp only [Act.put, l6q, l7q, l8q, i64_w, i32_w]
            rfl
          refine pure_ (i := 18) (N := some 8) (v := ?_) (a' := ?_) #[true, true, true, true, true, true, true, true, true, true, true, true, true, true, true, true, true, true, true] rfl rfl (any_of HT_.out (by kernel_rfl)) (fun _ _ _ h => h) (Or.inl ⟨by rfl, ?_⟩) ?_ ?_
          rotate_left
          · intro w'
            go_simp
            with_reducible rfl
          rotate_left
          · simp only [Act.put, l6q, l7q, l8q, i64_w, i32_w]
            rfl
          refine done_ (done_of HT_.out (by kernel_rfl)) ?_

          obtain ⟨HGz, hgz⟩ := HI0.out
          have hcz_0 := cellS97_0 HGz
          have hcz_1 := cellS97_1 HGz
          have hcz_2 := cellS97_2 HGz
          have hfz_0 := kfq HGz 0
          have hfz_1 := kfq HGz 1
          have hfz_2 := kfq HGz 2
          clear HGz hgz
          by_cases c8 : t109 = 0
          · rw [if_pos c8] at H
            have c8b0 : (t109 == 0) = true := beq_iff_eq.mpr c8
            have c8b1 : (t109 != 0) = false := b2q.mpr c8
            simp only [o2q, Prod.mk.injEq] at H
            obtain ⟨rfl, rfl, rfl, rfl⟩ := H
            clear c8
            go_wp2
            go_ret
            exact ⟨by first | rfl | (simp [*] <;> rfl), (by repeat (first | (with_reducible first | exact HI0.out | apply IsS97.alloc | apply IsS97.drewN | apply IsS97.drew | apply IsS97.set_0 | apply IsS97.set_1 | apply IsS97.set_2) | exact HI0.out)), (by repeat (first | (with_reducible first | exact HB.out | apply qa | apply qn | apply qd | refine qb ?_ (IsS97.ge HI0.out)) | exact HB.out)), (by repeat (first | (with_reducible first | exact HK.out | apply KeepBut.set_ | apply k1q | apply keep_drew | apply keep_alloc) | exact HK.out))⟩
          · rw [if_neg c8] at H
            have c8b0 : (t109 == 0) = false := b1q.mpr c8
            have c8b1 : (t109 != 0) = true := bne_iff_ne.mpr c8
            simp only [o2q, Prod.mk.injEq] at H
            obtain ⟨rfl, rfl, rfl, rfl⟩ := H
            go_wp2
            go_ret
            exact ⟨by first | rfl | (simp [*] <;> rfl), (by repeat (first | (with_reducible first | exact HI0.out | apply IsS97.alloc | apply IsS97.drewN | apply IsS97.drew | apply IsS97.set_0 | apply IsS97.set_1 | apply IsS97.set_2) | exact HI0.out)), (by repeat (first | (with_reducible first | exact HB.out | apply qa | apply qn | apply qd | refine qb ?_ (IsS97.ge HI0.out)) | exact HB.out)), (by repeat (first | (with_reducible first | exact HK.out | apply KeepBut.set_ | apply k1q | apply keep_drew | apply keep_alloc) | exact HK.out))⟩
        · rw [if_neg c6] at H
          exact absurd H (by simp)
      · rw [if_neg c5] at H
        exact absurd H (by simp)
    · rw [if_neg c4] at H
      exact absurd H (by simp)
  · rw [if_neg c3] at H
    have c3b0 : (s0_2 == 0) = false := b1q.mpr c3
    have c3b1 : (s0_2 != 0) = true := bne_iff_ne.mpr c3
    simp only [o2q, Prod.mk.injEq] at H
    obtain ⟨rfl, rfl, rfl, rfl⟩ := H
    obtain ⟨HGz, hgz⟩ := HI0.out
    have hcz_0 := cellS97_0 HGz
    have hcz_1 := cellS97_1 HGz
    have hcz_2 := cellS97_2 HGz
    have hfz_0 := kfq HGz 0
    have hfz_1 := kfq HGz 1
    have hfz_2 := kfq HGz 2
    clear HGz hgz
    go_enter Try.func81, Try.ntmps81
    go_wp2
    go_ret
    exact ⟨by first | rfl | (simp [*] <;> rfl), (by repeat (first | (with_reducible first | exact HI0.out | apply IsS97.alloc | apply IsS97.drewN | apply IsS97.drew | apply IsS97.set_0 | apply IsS97.set_1 | apply IsS97.set_2) | exact HI0.out)), (by repeat (first | (with_reducible first | exact HB.out | apply qa | apply qn | apply qd | refine qb ?_ (IsS97.ge HI0.out)) | exact HB.out)), (by repeat (first | (with_reducible first | exact HK.out | apply KeepBut.set_ | apply k1q | apply keep_drew | apply keep_alloc) | exact HK.out))⟩
end

end Go.Proofs.Ytmmfakdncjeoeaa.PU
