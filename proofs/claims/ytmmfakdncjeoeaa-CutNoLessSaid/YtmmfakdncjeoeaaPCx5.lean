-- Contracts of Go functions, each with its plain Lean function: written by wip/tools/myprint.py of this work (the kit's print, with contracts proved by hand spliced in).
import Derived.Test.YtmmfakdncjeoeaaPCx0
import Derived.Test.YtmmfakdncjeoeaaPCx3
import Derived.Test.YtmmfakdncjeoeaaPCx4
namespace Go.Proofs.Ytmmfakdncjeoeaa.PC
open Go.RowKit Go.Proofs.YtmmfakdncjeoeaaW.PrintWords Go.Proofs.YtmmfakdncjeoeaaW.PrintLast Go.Proofs.YtmmfakdncjeoeaaW.PrintMore
attribute [local go_sem] max2_int min2_int max_two min_two max_three min_three max_four min_four   -- for this text's walks alone
set_option linter.unusedVariables false
set_option linter.unusedSimpArgs false

/-! ### block_payload: function 39 -/
mutual
def block_payload.l0 : Nat → List (S56) → List Int → List ByteArray → Int → Int → ByteArray → Option (List Int)
 | 0, _, _, _, _, _, _ => none
 | k + 1, x0, x6, x33, x34, x35, x133000 => if x35 < x34 then (if 0 ≤ x35 then (if x35 < (x33.length : Int) then ((blob_Put.f x6 (rdOf ByteArray.empty x33 x35)).bind fun t149 => (block_payload.l0 k x0 t149 x33 x34 (wrap64 (x35 + 1)) x133000)) else (none)) else (none)) else (block_payload.l1 k x0 x6 x0 (x0.length : Int) 0 x133000)
def block_payload.l1 : Nat → List (S56) → List Int → List (S56) → Int → Int → ByteArray → Option (List Int)
 | 0, _, _, _, _, _, _ => none
 | k + 1, x0, x6, x43, x44, x45, x133000 => if x45 < x44 then (if 0 ≤ x45 then (if x45 < (x43.length : Int) then (if x45 > 0 then (if 0 ≤ (wrap64 (x45 - 1)) then (if (wrap64 (x45 - 1)) < (x0.length : Int) then ((wire_Put.f x6 (IntKind.u64.wrap (((rd_T56 x43 x45).f0) - ((rd_T56 x0 (wrap64 (x45 - 1))).f0)))).bind fun t155 => (block_payload.j2 k x0 t155 x43 x44 x45 x133000 ((rd_T56 x43 x45).f0) ((rd_T56 x43 x45).f1))) else (none)) else (none)) else (block_payload.j2 k x0 x6 x43 x44 x45 x133000 ((rd_T56 x43 x45).f0) ((rd_T56 x43 x45).f1))) else (none)) else (none)) else (some x6)
def block_payload.j2 : Nat → List (S56) → List Int → List (S56) → Int → Int → ByteArray → Int → List (S59) → Option (List Int)
 | 0, _, _, _, _, _, _, _, _ => none
 | k + 1, x0, x6, x43, x44, x45, x133000, x154000, x154001 => (wire_Put.f x6 (IntKind.u64.wrap ((x154001.length : Int)))).bind fun t158 => (block_payload.l2 k x0 t158 x43 x44 x45 x154001 (x154001.length : Int) 0 x133000)
def block_payload.l2 : Nat → List (S56) → List Int → List (S56) → Int → Int → List (S59) → Int → Int → ByteArray → Option (List Int)
 | 0, _, _, _, _, _, _, _, _, _ => none
 | k + 1, x0, x6, x43, x44, x45, x70, x71, x72, x133000 => if x72 < x71 then (if 0 ≤ x72 then (if x72 < (x70.length : Int) then ((wire_Put.f x6 (IntKind.u64.wrap ((rd_T59 x70 x72).f0))).bind fun t163 => (block_payload.l3 k x0 t163 x43 x44 x45 x70 x71 x72 ((rd_T59 x70 x72).f1) (((rd_T59 x70 x72).f1).length : Int) 0 x133000)) else (none)) else (none)) else (block_payload.l1 k x0 x6 x43 x44 (wrap64 (x45 + 1)) x133000)
def block_payload.l3 : Nat → List (S56) → List Int → List (S56) → Int → Int → List (S59) → Int → Int → List (S61) → Int → Int → ByteArray → Option (List Int)
 | 0, _, _, _, _, _, _, _, _, _, _, _, _ => none
 | k + 1, x0, x6, x43, x44, x45, x70, x71, x72, x82, x83, x84, x133000 => if x84 < x83 then (if 0 ≤ x84 then (if x84 < (x82.length : Int) then ((block_writers_1.f x133000 ((rd_T61 x82 x84).f0) ((rd_T61 x82 x84).f1) ((rd_T61 x82 x84).f2)).bind fun bt168 => ((wire_Put.f x6 bt168.1).bind fun t170 => (block_payload.l3 k x0 t170 x43 x44 x45 x70 x71 x72 x82 x83 (wrap64 (x84 + 1)) bt168.2))) else (none)) else (none)) else (block_payload.l2 k x0 x6 x43 x44 x45 x70 x71 (wrap64 (x72 + 1)) x133000)
end
def block_payload.f (k : Nat) (l0 : List (S56)) : Option (List Int) := (dict_Of.f k l0).bind fun t131 => ((dict_Dict_All.f t131).bind fun bt134 => (if 0 < (l0.length : Int) then ((wire_Put.f ([] : List Int) ((rd_T56 l0 0).f0)).bind fun t139 => ((wire_Put.f t139 (IntKind.u64.wrap ((l0.length : Int)))).bind fun t142 => ((wire_Put.f t142 (IntKind.u64.wrap ((bt134.1.length : Int)))).bind fun t145 => (block_payload.l0 k l0 t145 bt134.1 (bt134.1.length : Int) 0 bt134.2)))) else (none)))
theorem block_payload.mono_l : ∀ k, (∀ y0 y1 y2 y3 y4 y5, LeO (block_payload.l0 k y0 y1 y2 y3 y4 y5) (block_payload.l0 (k + 1) y0 y1 y2 y3 y4 y5)) ∧ (∀ y0 y1 y2 y3 y4 y5, LeO (block_payload.l1 k y0 y1 y2 y3 y4 y5) (block_payload.l1 (k + 1) y0 y1 y2 y3 y4 y5)) ∧ (∀ y0 y1 y2 y3 y4 y5 y6 y7, LeO (block_payload.j2 k y0 y1 y2 y3 y4 y5 y6 y7) (block_payload.j2 (k + 1) y0 y1 y2 y3 y4 y5 y6 y7)) ∧ (∀ y0 y1 y2 y3 y4 y5 y6 y7 y8, LeO (block_payload.l2 k y0 y1 y2 y3 y4 y5 y6 y7 y8) (block_payload.l2 (k + 1) y0 y1 y2 y3 y4 y5 y6 y7 y8)) ∧ (∀ y0 y1 y2 y3 y4 y5 y6 y7 y8 y9 y10 y11, LeO (block_payload.l3 k y0 y1 y2 y3 y4 y5 y6 y7 y8 y9 y10 y11) (block_payload.l3 (k + 1) y0 y1 y2 y3 y4 y5 y6 y7 y8 y9 y10 y11))
 | 0 => ⟨fun _ _ _ _ _ _ r h => by simp [block_payload.l0] at h, fun _ _ _ _ _ _ r h => by simp [block_payload.l1] at h, fun _ _ _ _ _ _ _ _ r h => by simp [block_payload.j2] at h, fun _ _ _ _ _ _ _ _ _ r h => by simp [block_payload.l2] at h, fun _ _ _ _ _ _ _ _ _ _ _ _ r h => by simp [block_payload.l3] at h⟩
 | k + 1 => by
  obtain ⟨ih0, ih1, ih2, ih3, ih4⟩ := block_payload.mono_l k
  refine ⟨?_, ?_, ?_, ?_, ?_⟩
  ·intro y0 y1 y2 y3 y4 y5
   unfold block_payload.l0
   repeat' first
   | (with_reducible exact ih0 _ _ _ _ _ _)
   | (with_reducible exact ih1 _ _ _ _ _ _)
   | (with_reducible exact ih2 _ _ _ _ _ _ _ _)
   | (with_reducible exact ih3 _ _ _ _ _ _ _ _ _)
   | (with_reducible exact ih4 _ _ _ _ _ _ _ _ _ _ _ _)
   | (with_reducible exact dict_Of.mono _ _)
   | (with_reducible exact LeO.refl _)
   | (with_reducible exact LeO.none _)
   | (with_reducible refine LeO.ite ?_ ?_)
   | (with_reducible refine LeO.bind ?_ (fun _ => ?_))
   | exact ih0 _ _ _ _ _ _
   | exact ih1 _ _ _ _ _ _
   | exact ih2 _ _ _ _ _ _ _ _
   | exact ih3 _ _ _ _ _ _ _ _ _
   | exact ih4 _ _ _ _ _ _ _ _ _ _ _ _
   | exact dict_Of.mono _ _
   | exact LeO.none _
   | refine LeO.ite ?_ ?_
   | refine LeO.bind ?_ (fun _ => ?_)
  ·intro y0 y1 y2 y3 y4 y5
   unfold block_payload.l1
   repeat' first
   | (with_reducible exact ih0 _ _ _ _ _ _)
   | (with_reducible exact ih1 _ _ _ _ _ _)
   | (with_reducible exact ih2 _ _ _ _ _ _ _ _)
   | (with_reducible exact ih3 _ _ _ _ _ _ _ _ _)
   | (with_reducible exact ih4 _ _ _ _ _ _ _ _ _ _ _ _)
   | (with_reducible exact dict_Of.mono _ _)
   | (with_reducible exact LeO.refl _)
   | (with_reducible exact LeO.none _)
   | (with_reducible refine LeO.ite ?_ ?_)
   | (with_reducible refine LeO.bind ?_ (fun _ => ?_))
   | exact ih0 _ _ _ _ _ _
   | exact ih1 _ _ _ _ _ _
   | exact ih2 _ _ _ _ _ _ _ _
   | exact ih3 _ _ _ _ _ _ _ _ _
   | exact ih4 _ _ _ _ _ _ _ _ _ _ _ _
   | exact dict_Of.mono _ _
   | exact LeO.none _
   | refine LeO.ite ?_ ?_
   | refine LeO.bind ?_ (fun _ => ?_)
  ·intro y0 y1 y2 y3 y4 y5 y6 y7
   unfold block_payload.j2
   repeat' first
   | (with_reducible exact ih0 _ _ _ _ _ _)
   | (with_reducible exact ih1 _ _ _ _ _ _)
   | (with_reducible exact ih2 _ _ _ _ _ _ _ _)
   | (with_reducible exact ih3 _ _ _ _ _ _ _ _ _)
   | (with_reducible exact ih4 _ _ _ _ _ _ _ _ _ _ _ _)
   | (with_reducible exact dict_Of.mono _ _)
   | (with_reducible exact LeO.refl _)
   | (with_reducible exact LeO.none _)
   | (with_reducible refine LeO.ite ?_ ?_)
   | (with_reducible refine LeO.bind ?_ (fun _ => ?_))
   | exact ih0 _ _ _ _ _ _
   | exact ih1 _ _ _ _ _ _
   | exact ih2 _ _ _ _ _ _ _ _
   | exact ih3 _ _ _ _ _ _ _ _ _
   | exact ih4 _ _ _ _ _ _ _ _ _ _ _ _
   | exact dict_Of.mono _ _
   | exact LeO.none _
   | refine LeO.ite ?_ ?_
   | refine LeO.bind ?_ (fun _ => ?_)
  ·intro y0 y1 y2 y3 y4 y5 y6 y7 y8
   unfold block_payload.l2
   repeat' first
   | (with_reducible exact ih0 _ _ _ _ _ _)
   | (with_reducible exact ih1 _ _ _ _ _ _)
   | (with_reducible exact ih2 _ _ _ _ _ _ _ _)
   | (with_reducible exact ih3 _ _ _ _ _ _ _ _ _)
   | (with_reducible exact ih4 _ _ _ _ _ _ _ _ _ _ _ _)
   | (with_reducible exact dict_Of.mono _ _)
   | (with_reducible exact LeO.refl _)
   | (with_reducible exact LeO.none _)
   | (with_reducible refine LeO.ite ?_ ?_)
   | (with_reducible refine LeO.bind ?_ (fun _ => ?_))
   | exact ih0 _ _ _ _ _ _
   | exact ih1 _ _ _ _ _ _
   | exact ih2 _ _ _ _ _ _ _ _
   | exact ih3 _ _ _ _ _ _ _ _ _
   | exact ih4 _ _ _ _ _ _ _ _ _ _ _ _
   | exact dict_Of.mono _ _
   | exact LeO.none _
   | refine LeO.ite ?_ ?_
   | refine LeO.bind ?_ (fun _ => ?_)
  ·intro y0 y1 y2 y3 y4 y5 y6 y7 y8 y9 y10 y11
   unfold block_payload.l3
   repeat' first
   | (with_reducible exact ih0 _ _ _ _ _ _)
   | (with_reducible exact ih1 _ _ _ _ _ _)
   | (with_reducible exact ih2 _ _ _ _ _ _ _ _)
   | (with_reducible exact ih3 _ _ _ _ _ _ _ _ _)
   | (with_reducible exact ih4 _ _ _ _ _ _ _ _ _ _ _ _)
   | (with_reducible exact dict_Of.mono _ _)
   | (with_reducible exact LeO.refl _)
   | (with_reducible exact LeO.none _)
   | (with_reducible refine LeO.ite ?_ ?_)
   | (with_reducible refine LeO.bind ?_ (fun _ => ?_))
   | exact ih0 _ _ _ _ _ _
   | exact ih1 _ _ _ _ _ _
   | exact ih2 _ _ _ _ _ _ _ _
   | exact ih3 _ _ _ _ _ _ _ _ _
   | exact ih4 _ _ _ _ _ _ _ _ _ _ _ _
   | exact dict_Of.mono _ _
   | exact LeO.none _
   | refine LeO.ite ?_ ?_
   | refine LeO.bind ?_ (fun _ => ?_)
theorem block_payload.mono : ∀ a0 k, LeO (block_payload.f k a0) (block_payload.f (k + 1) a0) := by
 intro a0 k
 obtain ⟨ih0, ih1, ih2, ih3, ih4⟩ := block_payload.mono_l k
 unfold block_payload.f
 repeat' first
   | (with_reducible exact ih0 _ _ _ _ _ _)
   | (with_reducible exact ih1 _ _ _ _ _ _)
   | (with_reducible exact ih2 _ _ _ _ _ _ _ _)
   | (with_reducible exact ih3 _ _ _ _ _ _ _ _ _)
   | (with_reducible exact ih4 _ _ _ _ _ _ _ _ _ _ _ _)
   | (with_reducible exact dict_Of.mono _ _)
   | (with_reducible exact LeO.refl _)
   | (with_reducible exact LeO.none _)
   | (with_reducible refine LeO.ite ?_ ?_)
   | (with_reducible refine LeO.bind ?_ (fun _ => ?_))
   | exact ih0 _ _ _ _ _ _
   | exact ih1 _ _ _ _ _ _
   | exact ih2 _ _ _ _ _ _ _ _
   | exact ih3 _ _ _ _ _ _ _ _ _
   | exact ih4 _ _ _ _ _ _ _ _ _ _ _ _
   | exact dict_Of.mono _ _
   | exact LeO.none _
   | refine LeO.ite ?_ ?_
   | refine LeO.bind ?_ (fun _ => ?_)
def block_payload.T13 : Bool × List (List Nat × List Nat) := (true, [([], []), ([], []), ([1], [1]), ([], []), ([], []), ([4], [4]), ([3, 5], [3, 5]), ([6], [6]), ([7], [7]), ([2, 8], [2, 8]), ([0, 9], [0, 9]), ([10, 10, 0, 1, 2, 3, 4, 5, 6, 7, 8, 9, 10], [0, 10])])
def block_payload.B13 : List Nat := [0, 0, 2, 0, 0, 16, 56, 120, 248, 510, 1023, 2047]
theorem block_payload.tab13 : rtab .any (opsOf Try.f39 13) = block_payload.T13 := by kernel_rfl
theorem block_payload.bits13 : waitsOk block_payload.T13.2 block_payload.B13 = true := by kernel_rfl
def block_payload.T22 : Bool × List (List Nat × List Nat) := (true, [([], []), ([], []), ([1], [1]), ([2], [2]), ([3], [3]), ([4], [4]), ([], []), ([], []), ([5, 6, 7], [5, 6, 7]), ([0, 8, 8], [0, 8]), ([9, 9, 0, 1, 2, 3, 4, 5, 6, 7, 8, 9], [0, 9])])
def block_payload.B22 : List Nat := [0, 0, 2, 6, 14, 30, 0, 0, 254, 511, 1023]
theorem block_payload.tab22 : rtab .any (opsOf Try.f39 22) = block_payload.T22 := by kernel_rfl
theorem block_payload.bits22 : waitsOk block_payload.T22.2 block_payload.B22 = true := by kernel_rfl
attribute [local go_sem] Go.Proofs.YtmmfakdncjeoeaaAid.run_store_nilFunc Go.Proofs.YtmmfakdncjeoeaaAid.run_store_func
set_option maxHeartbeats 8000000 in
set_option maxRecDepth 100000 in
theorem block_payload.calls (k : Nat) (A0 : Option Addr) (c0 : Nat) (l0 : List (S56)) (r : List Int) (w : World) (hr0 : Kd.C k56 w A0 l0.length l0) (hc0 : l0.length ≤ c0) (h : block_payload.f k l0 = some r) :
  Calls Try.prog 39 #[.slice A0 l0.length c0] w fun e w' => ∃ v0_ : Value,e = .returned (v0_) ∧ Kd.R (Kd.int .u8) 5 w' w.heap.size (fun _ => True) v0_ r ∧ Below w.heap.size w w':=by
 have hu119:=Try.underlying119
 have hu56:=Try.underlying56
 have hu59:=Try.underlying59
 have hu61:=Try.underlying61
 have HR0:=Aside0.mk hr0
 have HC0:=Aside0.mk hc0
 clear hr0 hc0
 have HB:=Aside0.mk (Below.refl w.heap.size w)
 have H : ((dict_Of.f k l0).bind fun t131 => ((dict_Dict_All.f t131).bind fun bt134 => (if 0 < (l0.length : Int) then ((wire_Put.f ([] : List Int) ((rd_T56 l0 0).f0)).bind fun t139 => ((wire_Put.f t139 (IntKind.u64.wrap ((l0.length : Int)))).bind fun t142 => ((wire_Put.f t142 (IntKind.u64.wrap ((bt134.1.length : Int)))).bind fun t145 => (block_payload.l0 k l0 t145 bt134.1 (bt134.1.length : Int) 0 bt134.2)))) else (none)))) = some r:=h
 clear h
 replace H:=Option.bind_eq_some_iff.mp H
 obtain ⟨t131,A20,H⟩:=H
 replace H : ((dict_Dict_All.f t131).bind fun bt134 => (if 0 < (l0.length : Int) then ((wire_Put.f ([] : List Int) ((rd_T56 l0 0).f0)).bind fun t139 => ((wire_Put.f t139 (IntKind.u64.wrap ((l0.length : Int)))).bind fun t142 => ((wire_Put.f t142 (IntKind.u64.wrap ((bt134.1.length : Int)))).bind fun t145 => (block_payload.l0 k l0 t145 bt134.1 (bt134.1.length : Int) 0 bt134.2)))) else (none))) = some r:=H
 have A2:=Aside0.mk A20
 clear A20
 replace H:=Option.bind_eq_some_iff.mp H
 obtain ⟨⟨t134,t137⟩,A30,H⟩:=H
 replace H : (if 0 < (l0.length : Int) then ((wire_Put.f ([] : List Int) ((rd_T56 l0 0).f0)).bind fun t139 => ((wire_Put.f t139 (IntKind.u64.wrap ((l0.length : Int)))).bind fun t142 => ((wire_Put.f t142 (IntKind.u64.wrap ((t134.length : Int)))).bind fun t145 => (block_payload.l0 k l0 t145 t134 (t134.length : Int) 0 t137)))) else (none)) = some r:=H
 have A3:=Aside0.mk A30
 clear A30
 by_cases c4 : 0 < (l0.length : Int)
 ·rw [if_pos c4] at H
  have c4b0 : decide (0 < (l0.length : Int)) = true:=decide_eq_true c4
  have c4b1 : decide (0 < l0.length) = true:=decide_eq_true (by omega)
  clear c4
  replace H:=Option.bind_eq_some_iff.mp H
  obtain ⟨t139,A50,H⟩:=H
  replace H : ((wire_Put.f t139 (IntKind.u64.wrap ((l0.length : Int)))).bind fun t142 => ((wire_Put.f t142 (IntKind.u64.wrap ((t134.length : Int)))).bind fun t145 => (block_payload.l0 k l0 t145 t134 (t134.length : Int) 0 t137))) = some r:=H
  have A5:=Aside0.mk A50
  clear A50
  replace H:=Option.bind_eq_some_iff.mp H
  obtain ⟨t142,A60,H⟩:=H
  replace H : ((wire_Put.f t142 (IntKind.u64.wrap ((t134.length : Int)))).bind fun t145 => (block_payload.l0 k l0 t145 t134 (t134.length : Int) 0 t137)) = some r:=H
  have A6:=Aside0.mk A60
  clear A60
  replace H:=Option.bind_eq_some_iff.mp H
  obtain ⟨t145,A70,H⟩:=H
  replace H : (block_payload.l0 k l0 t145 t134 (t134.length : Int) 0 t137) = some r:=H
  have A7:=Aside0.mk A70
  clear A70
  have H':=Aside0.mk H
  clear H
  go_enter Try.func39,Try.ntmps39
  go_wp2_with (first | ((with_reducible refine gate_callee (f:=57) rfl ?_);refine goesL_ (some 16) rfl rfl Try.func57 (by kernel_rfl) rfl #[.slice A0 l0.length c0] rfl (by (try simp only [List.map_toArray,List.map_cons,List.map_nil]);first | done | rfl | (simp only [List.length_drop,List.length_take];rfl)) ?_;(with_reducible refine (dict_Of.calls k _ _ l0 t131 w _ ?side1 ?side2 ?side3 A2.out).mono ?_);(case side1 => repeat (first | (with_reducible first | exact HB.out | apply below_alloc | apply pw_below_drewN | apply below_drew1) | exact HB.out));(case side2 => repeat (first | exact HR0.out | (with_reducible refine Kd.C_alloc ?_ _) | (with_reducible refine Kd.C_drewN ?_ _) | (with_reducible refine Kd.C_drew ?_)));(case side3 => exact HC0.out);rintro e w8 ⟨g132,rfl,hi,hb,hb2⟩;refine ⟨_,rfl,?_⟩;have n0_:=Aside0.mk (hb);have n1_:=Aside0.mk (hi);clear HB;have HB:=n0_;have HI132:=n1_;clear n0_ n1_;(try clear hb);(try clear hb2);(try clear hk);(try clear hi)) | ((with_reducible refine gate_callee (f:=58) rfl ?_);refine goesL_ (some 17) rfl rfl Try.func58 (by kernel_rfl) rfl #[] rfl (by (try simp only [List.map_toArray,List.map_cons,List.map_nil]);first | done | rfl) ?_;(with_reducible refine (Go.Proofs.YtmmfakdncjeoeaaAid.writers_calls _).mono ?_);rintro e w17_ ⟨rfl,hb⟩;refine ⟨_,rfl,?_⟩;have n0_:=Aside0.mk (IsS143.below HI132.out hb);have n1_:=Aside0.mk (below_step HB.out hb);clear HI132 HB;have HI132:=n0_;have HB:=n1_;clear n0_ n1_ hb) | ((with_reducible refine gate_dst (N:=4) rfl ?_);refine box_event ?hg (N:=4) ?hd (cs:=#[.nilFunc,.nilFunc,.nilFunc]) (t:=119) ?hr ?_;(case hd => rfl);(case hg => rfl);(case hr => first | (go_simp;done) | (go_simp;rfl));intro gb133 hg w9 hbox hb;have n0_:=Aside0.mk (IsS143.below (by repeat (first | (with_reducible first | exact HI132.out | apply IsS143.alloc | apply IsS143.drewN | apply IsS143.drew | apply IsS143.set_0) | exact HI132.out)) hb);have n1_:=Aside0.mk (below_step (by repeat (first | (with_reducible first | exact HB.out | apply below_alloc | apply pw_below_drewN | apply below_drew1 | refine below_set ?_ (IsS143.ge HI132.out)) | exact HB.out)) hb);have n2_:=Aside0.mk (hbox);have n3_:=Aside0.mk ((by rw [hg];exact (below_size (by repeat (first | (with_reducible first | exact HB.out | apply below_alloc | apply pw_below_drewN | apply below_drew1 | refine below_set ?_ (IsS143.ge HI132.out)) | exact HB.out))) : w.heap.size ≤ gb133));have n4_:=Aside0.mk ((by rw [hg];exact (below_size (by repeat (first | (with_reducible first | exact HB.out | apply below_alloc | apply pw_below_drewN | apply below_drew1 | refine below_set ?_ (IsS143.ge HI132.out)) | exact HB.out))) : w.heap.size ≤ gb133));have n5_:=Aside0.mk ((by rw [hg];exact Nat.ne_of_lt (IsS143.lt (show IsS143 w _ g132 t131 from by repeat (first | (with_reducible first | exact HI132.out | apply IsS143.alloc | apply IsS143.drewN | apply IsS143.drew | apply IsS143.set_0) | exact HI132.out))) : g132 ≠ gb133));have n6_:=Aside0.mk ((by rw [hg];exact Nat.ne_of_gt (IsS143.lt (show IsS143 w _ g132 t131 from by repeat (first | (with_reducible first | exact HI132.out | apply IsS143.alloc | apply IsS143.drewN | apply IsS143.drew | apply IsS143.set_0) | exact HI132.out))) : gb133 ≠ g132));clear HI132;clear HB;have HI132:=n0_;have HB:=n1_;have BK133:=n2_;have GW133:=n3_;have GE133:=n4_;have NB132_133:=n5_;have NB133_132:=n6_;clear n0_ n1_ n2_ n3_ n4_ n5_ n6_;clear hb hbox hg;have hnb10:=NB133_132.out;have hnc10:=NB132_133.out;have hcz11_0 : w9.cell? ⟨gb133,0,none⟩ = some .nilFunc:=(blk_cell BK133.out 0).trans rfl;have hcz11_1 : w9.cell? ⟨gb133,1,none⟩ = some .nilFunc:=(blk_cell BK133.out 1).trans rfl;have hcz11_2 : w9.cell? ⟨gb133,2,none⟩ = some .nilFunc:=(blk_cell BK133.out 2).trans rfl;have hfz11_0:=blk_frozen BK133.out 0;have hfz11_1:=blk_frozen BK133.out 1;have hfz11_2:=blk_frozen BK133.out 2) | ((with_reducible refine gate_callee (f:=59) rfl ?_);refine goesL_ (some 19) rfl rfl Try.func59 (by kernel_rfl) rfl #[.pointer (some ⟨g132,0,none⟩)] rfl (by (try simp only [List.map_toArray,List.map_cons,List.map_nil]);first | done | rfl | (simp only [List.length_drop,List.length_take];rfl)) ?_;(with_reducible refine (dict_Dict_All.calls g132 t131 t134 t137 w _ ?side1 ?side2 A3.out).mono ?_);(case side1 => repeat (first | (with_reducible first | exact HI132.out | apply IsS143.alloc | apply IsS143.drewN | apply IsS143.drew | apply IsS143.set_0 | refine IsS143.farT (t:=119) (a:=gb133) ?_ (by (with_reducible repeat (first | exact Go.Proofs.YtmmfakdncjeoeaaAid.TyAt.mk BK133.out | apply Go.Proofs.YtmmfakdncjeoeaaAid.TyAt.set | apply Go.Proofs.YtmmfakdncjeoeaaAid.TyAt.alloc | apply Go.Proofs.YtmmfakdncjeoeaaAid.TyAt.drewN | apply Go.Proofs.YtmmfakdncjeoeaaAid.TyAt.drew))) (by decide) (by decide) _) | exact HI132.out));(case side2 => repeat (first | (with_reducible first | exact HB.out | apply below_alloc | apply pw_below_drewN | apply below_drew1 | refine below_set ?_ (IsS143.ge HI132.out) | refine below_set ?_ GE133.out) | exact HB.out));rintro e w12 ⟨v135,rfl,ho0,hi,hb,hk,hbl⟩;refine ⟨_,rfl,?_⟩;have n0_:=Aside0.mk (KeepBut.blk hk (g':=gb133) (o:=.cells #[.nilFunc,.func (.func 75) #[] #[],.func (.func 77) #[] #[]] 119 (0,0)) (by (with_reducible repeat (first | refine blk_drewN ?_ _ | refine blk_drew ?_ | refine blk_alloc ?_ _));refine blk_put (cs:=#[.nilFunc,.func (.func 75) #[] #[],.nilFunc]) ?_ 2 _ rfl;(with_reducible repeat (first | refine blk_drewN ?_ _ | refine blk_drew ?_ | refine blk_alloc ?_ _));refine blk_put (cs:=#[.nilFunc,.nilFunc,.nilFunc]) ?_ 1 _ rfl;(with_reducible repeat (first | refine blk_drewN ?_ _ | refine blk_drew ?_ | refine blk_alloc ?_ _));refine blk_put (cs:=#[.nilFunc,.nilFunc,.nilFunc]) ?_ 0 _ rfl;(with_reducible repeat (first | refine blk_drewN ?_ _ | refine blk_drew ?_ | refine blk_alloc ?_ _));exact BK133.out) NB133_132.out (by simp));have n1_:=Aside0.mk (Kd.R_lower ho0 (below_size (by repeat (first | (with_reducible first | exact HB.out | apply below_alloc | apply pw_below_drewN | apply below_drew1 | refine below_set ?_ (IsS143.ge HI132.out) | refine below_set ?_ GE133.out) | exact HB.out))));have n2_:=Aside0.mk (hb);have n3_:=Aside0.mk (hi);clear BK133;clear HB;clear HI132;have BK133:=n0_;have HO136:=n1_;have HB:=n2_;have HI132:=n3_;clear n0_ n1_ n2_ n3_;(try clear hb);(try clear hb2);(try clear hk);(try clear hbl);(try clear hi);(try clear ho0);have p138 : 0 ≤ (0 : Int):=(by omega);have q138 : 0 < (l0.length : Int):=of_decide_eq_true (by first | (with_reducible assumption) | assumption);obtain ⟨ad138,A138_1,c138_1,e138,hx138_0,hx138_1,hl138_1,hi138_1⟩:=at_T56 HR0.out 0 p138 q138;cases e138;have qi138 : (0 < l0.length) = True:=eq_true (by omega);(try rw [show ((0 : Int)).toNat = 0 from rfl] at hx138_0);(try rw [show 0 * 2 = 0 from rfl] at hx138_0);(try rw [Addr.add_zero'] at hx138_0);(try rw [show ((0 : Int)).toNat = 0 from rfl] at hx138_1);(try rw [show 0 * 2 = 0 from rfl] at hx138_1);(try rw [Addr.add_zero'] at hx138_1);replace hx138_0:=(HB.out.cell (World.block_lt_of_cell? w _ hx138_0)).trans hx138_0;replace hx138_1:=(HB.out.cell (World.block_lt_of_cell? w _ hx138_1)).trans hx138_1;have HR138_1:=Aside0.mk hi138_1;have HC138_1:=Aside0.mk hl138_1;clear hi138_1 hl138_1;replace p138:=eq_true p138;replace q138:=eq_true q138) | ((with_reducible refine gate_callee (f:=60) rfl ?_);refine goesL_ (some 24) rfl rfl Try.func60 (by kernel_rfl) rfl #[.slice none 0 0,.int .u64 ((rd_T56 l0 0).f0)] rfl (by (try simp only [List.map_toArray,List.map_cons,List.map_nil]);first | done | rfl | (simp only [List.length_drop,List.length_take];rfl)) ?_;(refine (wire_Put.calls _ _ ([] : List Int) ((rd_T56 l0 0).f0) t139 _ ?side1 ?side2 A5.out).mono ?_);(case side1 => exact Kd.C_nil _ _);(case side2 => exact Nat.le_refl _);rintro e w13 ⟨v140,rfl,ho0,hb⟩;refine ⟨_,rfl,?_⟩;have n0_:=Aside0.mk (Kd.R_below (by (with_reducible repeat (first | apply Kd.R_alloc | apply Kd.R_drewN | apply Kd.R_drew));exact HO136.out) hb);have n1_:=Aside0.mk (Kd.R_lower ho0 (below_size (by repeat (first | (with_reducible first | exact HB.out | apply below_alloc | apply pw_below_drewN | apply below_drew1 | refine below_set ?_ (IsS143.ge HI132.out) | refine below_set ?_ GE133.out) | exact HB.out))));have n2_:=Aside0.mk (IsS143.below (by repeat (first | (with_reducible first | exact HI132.out | apply IsS143.alloc | apply IsS143.drewN | apply IsS143.drew | apply IsS143.set_0 | refine IsS143.farT (t:=119) (a:=gb133) ?_ (by (with_reducible repeat (first | exact Go.Proofs.YtmmfakdncjeoeaaAid.TyAt.mk BK133.out | apply Go.Proofs.YtmmfakdncjeoeaaAid.TyAt.set | apply Go.Proofs.YtmmfakdncjeoeaaAid.TyAt.alloc | apply Go.Proofs.YtmmfakdncjeoeaaAid.TyAt.drewN | apply Go.Proofs.YtmmfakdncjeoeaaAid.TyAt.drew))) (by decide) (by decide) _) | exact HI132.out)) hb);have n3_:=Aside0.mk (blk_below (g:=gb133) (o:=.cells #[.nilFunc,.func (.func 75) #[] #[],.func (.func 77) #[] #[]] 119 (0,0)) (by (with_reducible repeat (first | refine blk_drewN ?_ _ | refine blk_drew ?_ | refine blk_alloc ?_ _));exact BK133.out) hb);have n4_:=Aside0.mk (below_step (by repeat (first | (with_reducible first | exact HB.out | apply below_alloc | apply pw_below_drewN | apply below_drew1 | refine below_set ?_ (IsS143.ge HI132.out) | refine below_set ?_ GE133.out) | exact HB.out)) hb);clear HO136;clear HI132;clear BK133;clear HB;have HO136:=n0_;have HO141:=n1_;have HI132:=n2_;have BK133:=n3_;have HB:=n4_;clear n0_ n1_ n2_ n3_ n4_;(try clear hb);(try clear hb2);(try clear hk);(try clear hi);(try clear ho0);obtain ⟨Ao14,co14,eo14⟩:=Kd.R_slice HO141.out;subst eo14) | ((with_reducible refine gate_callee (f:=60) rfl ?_);refine goesL_ (some 28) rfl rfl Try.func60 (by kernel_rfl) rfl #[.slice Ao14 t139.length co14,.int .u64 (IntKind.u64.wrap ((l0.length : Int)))] rfl (by (try simp only [List.map_toArray,List.map_cons,List.map_nil]);first | done | rfl | (simp only [List.length_drop,List.length_take];rfl)) ?_;(with_reducible refine (wire_Put.calls _ _ t139 (IntKind.u64.wrap ((l0.length : Int))) t142 _ ?side1 ?side2 A6.out).mono ?_);(case side1 => repeat (first | exact (Kd.R_reads' HO141.out).2.2 | (with_reducible refine Kd.C_alloc ?_ _) | (with_reducible refine Kd.C_drewN ?_ _) | (with_reducible refine Kd.C_drew ?_)));(case side2 => exact (Kd.R_reads' HO141.out).2.1);rintro e w15 ⟨v143,rfl,ho0,hb⟩;refine ⟨_,rfl,?_⟩;have n0_:=Aside0.mk (Kd.R_below (by (with_reducible repeat (first | apply Kd.R_alloc | apply Kd.R_drewN | apply Kd.R_drew));exact HO136.out) hb);have n1_:=Aside0.mk (Kd.R_elder' (by (with_reducible repeat (first | apply Kd.R_alloc | apply Kd.R_drewN | apply Kd.R_drew));exact HO141.out) (Kd.R_base ho0) hb);have n2_:=Aside0.mk (Kd.R_lower (Kd.R_new' ho0 (Kd.R_lt (by (with_reducible repeat (first | apply Kd.R_alloc | apply Kd.R_drewN | apply Kd.R_drew));exact HO141.out))) (below_size (by repeat (first | (with_reducible first | exact HB.out | apply below_alloc | apply pw_below_drewN | apply below_drew1 | refine below_set ?_ (IsS143.ge HI132.out) | refine below_set ?_ GE133.out) | exact HB.out))));have n3_:=Aside0.mk (IsS143.below (by repeat (first | (with_reducible first | exact HI132.out | apply IsS143.alloc | apply IsS143.drewN | apply IsS143.drew | apply IsS143.set_0 | refine IsS143.farT (t:=119) (a:=gb133) ?_ (by (with_reducible repeat (first | exact Go.Proofs.YtmmfakdncjeoeaaAid.TyAt.mk BK133.out | apply Go.Proofs.YtmmfakdncjeoeaaAid.TyAt.set | apply Go.Proofs.YtmmfakdncjeoeaaAid.TyAt.alloc | apply Go.Proofs.YtmmfakdncjeoeaaAid.TyAt.drewN | apply Go.Proofs.YtmmfakdncjeoeaaAid.TyAt.drew))) (by decide) (by decide) _) | exact HI132.out)) hb);have n4_:=Aside0.mk (blk_below (g:=gb133) (o:=.cells #[.nilFunc,.func (.func 75) #[] #[],.func (.func 77) #[] #[]] 119 (0,0)) (by (with_reducible repeat (first | refine blk_drewN ?_ _ | refine blk_drew ?_ | refine blk_alloc ?_ _));exact BK133.out) hb);have n5_:=Aside0.mk (below_step (by repeat (first | (with_reducible first | exact HB.out | apply below_alloc | apply pw_below_drewN | apply below_drew1 | refine below_set ?_ (IsS143.ge HI132.out) | refine below_set ?_ GE133.out) | exact HB.out)) hb);clear HO136;clear HO141;clear HI132;clear BK133;clear HB;have HO136:=n0_;have HO141:=n1_;have HO144:=n2_;have HI132:=n3_;have BK133:=n4_;have HB:=n5_;clear n0_ n1_ n2_ n3_ n4_ n5_;(try clear hb);(try clear hb2);(try clear hk);(try clear hi);(try clear ho0);obtain ⟨Ao16,co16,eo16⟩:=Kd.R_slice HO136.out;subst eo16;obtain ⟨Ao17,co17,eo17⟩:=Kd.R_slice HO144.out;subst eo17) | ((with_reducible refine gate_callee (f:=60) rfl ?_);refine goesL_ (some 32) rfl rfl Try.func60 (by kernel_rfl) rfl #[.slice Ao17 t142.length co17,.int .u64 (IntKind.u64.wrap ((t134.length : Int)))] rfl (by (try simp only [List.map_toArray,List.map_cons,List.map_nil]);first | done | rfl | (simp only [List.length_drop,List.length_take];rfl)) ?_;(with_reducible refine (wire_Put.calls _ _ t142 (IntKind.u64.wrap ((t134.length : Int))) t145 _ ?side1 ?side2 A7.out).mono ?_);(case side1 => repeat (first | exact (Kd.R_reads' HO144.out).2.2 | (with_reducible refine Kd.C_alloc ?_ _) | (with_reducible refine Kd.C_drewN ?_ _) | (with_reducible refine Kd.C_drew ?_)));(case side2 => exact (Kd.R_reads' HO144.out).2.1);rintro e w18 ⟨v146,rfl,ho0,hb⟩;refine ⟨_,rfl,?_⟩;have n0_:=Aside0.mk (Kd.R_below (by (with_reducible repeat (first | apply Kd.R_alloc | apply Kd.R_drewN | apply Kd.R_drew));exact HO136.out) hb);have n1_:=Aside0.mk (Kd.R_elder' (by (with_reducible repeat (first | apply Kd.R_alloc | apply Kd.R_drewN | apply Kd.R_drew));exact HO141.out) (Kd.R_base ho0) hb);have n2_:=Aside0.mk (Kd.R_elder' (by (with_reducible repeat (first | apply Kd.R_alloc | apply Kd.R_drewN | apply Kd.R_drew));exact HO144.out) (Kd.R_base ho0) hb);have n3_:=Aside0.mk (Kd.R_lower (Kd.R_new' (Kd.R_new' ho0 (Kd.R_lt (by (with_reducible repeat (first | apply Kd.R_alloc | apply Kd.R_drewN | apply Kd.R_drew));exact HO141.out))) (Kd.R_lt (by (with_reducible repeat (first | apply Kd.R_alloc | apply Kd.R_drewN | apply Kd.R_drew));exact HO144.out))) (below_size (by repeat (first | (with_reducible first | exact HB.out | apply below_alloc | apply pw_below_drewN | apply below_drew1 | refine below_set ?_ (IsS143.ge HI132.out) | refine below_set ?_ GE133.out) | exact HB.out))));have n4_:=Aside0.mk (IsS143.below (by repeat (first | (with_reducible first | exact HI132.out | apply IsS143.alloc | apply IsS143.drewN | apply IsS143.drew | apply IsS143.set_0 | refine IsS143.farT (t:=119) (a:=gb133) ?_ (by (with_reducible repeat (first | exact Go.Proofs.YtmmfakdncjeoeaaAid.TyAt.mk BK133.out | apply Go.Proofs.YtmmfakdncjeoeaaAid.TyAt.set | apply Go.Proofs.YtmmfakdncjeoeaaAid.TyAt.alloc | apply Go.Proofs.YtmmfakdncjeoeaaAid.TyAt.drewN | apply Go.Proofs.YtmmfakdncjeoeaaAid.TyAt.drew))) (by decide) (by decide) _) | exact HI132.out)) hb);have n5_:=Aside0.mk (blk_below (g:=gb133) (o:=.cells #[.nilFunc,.func (.func 75) #[] #[],.func (.func 77) #[] #[]] 119 (0,0)) (by (with_reducible repeat (first | refine blk_drewN ?_ _ | refine blk_drew ?_ | refine blk_alloc ?_ _));exact BK133.out) hb);have n6_:=Aside0.mk (below_step (by repeat (first | (with_reducible first | exact HB.out | apply below_alloc | apply pw_below_drewN | apply below_drew1 | refine below_set ?_ (IsS143.ge HI132.out) | refine below_set ?_ GE133.out) | exact HB.out)) hb);clear HO136;clear HO141;clear HO144;clear HI132;clear BK133;clear HB;have HO136:=n0_;have HO141:=n1_;have HO144:=n2_;have HO147:=n3_;have HI132:=n4_;have BK133:=n5_;have HB:=n6_;clear n0_ n1_ n2_ n3_ n4_ n5_ n6_;(try clear hb);(try clear hb2);(try clear hk);(try clear hi);(try clear ho0)))
  go_loopg [6,35] k (fun kq v6 v35 w' => ∃ (x6_1 : List Int) (x35_1 : Int),v35 = .int .i64 x35_1 ∧ Aside0 (block_payload.l0 kq l0 x6_1 t134 (t134.length : Int) x35_1 t137 = some r) ∧ Aside0 (kq ≤ k) ∧ Aside0 (Kd.R (Kd.int .u8) 5 w' w.heap.size (fun _ => True) v6 x6_1) ∧ Aside0 (Kd.R Kd.string 9 w' w.heap.size (fun _ => True) (.slice Ao16 t134.length co16) t134) ∧ Aside0 (w'.heap[gb133]? = some (.cells #[.nilFunc,.func (.func 75) #[] #[],.func (.func 77) #[] #[]] 119 (0,0))) ∧ Aside0 (IsS143 w w' g132 t137) ∧ Aside0 (Below w.heap.size w w'))
  case atStart => exact ⟨(t145),(0),(by first | rfl | (simp;done) | (simp [*];done)),H',⟨Nat.le_refl _⟩,⟨by (with_reducible repeat (first | apply Kd.R_alloc | apply Kd.R_drewN | apply Kd.R_drew));exact Kd.R_mono HO147.out (fun _ hk => trivial)⟩,⟨by (with_reducible repeat (first | apply Kd.R_alloc | apply Kd.R_drewN | apply Kd.R_drew));exact HO136.out⟩,⟨by (with_reducible repeat (first | refine blk_drewN ?_ _ | refine blk_drew ?_ | refine blk_alloc ?_ _));exact BK133.out⟩,⟨by repeat (first | (with_reducible first | exact HI132.out | apply IsS143.alloc | apply IsS143.drewN | apply IsS143.drew | apply IsS143.set_0 | refine IsS143.farT (t:=119) (a:=gb133) ?_ (by (with_reducible repeat (first | exact Go.Proofs.YtmmfakdncjeoeaaAid.TyAt.mk BK133.out | apply Go.Proofs.YtmmfakdncjeoeaaAid.TyAt.set | apply Go.Proofs.YtmmfakdncjeoeaaAid.TyAt.alloc | apply Go.Proofs.YtmmfakdncjeoeaaAid.TyAt.drewN | apply Go.Proofs.YtmmfakdncjeoeaaAid.TyAt.drew))) (by decide) (by decide) _) | exact HI132.out)⟩,⟨by repeat (first | (with_reducible first | exact HB.out | apply below_alloc | apply pw_below_drewN | apply below_drew1 | refine below_set ?_ (IsS143.ge HI132.out) | refine below_set ?_ GE133.out) | exact HB.out)⟩⟩
  case round =>
   clear H'
   (try clear c1);(try clear p1);(try clear q1);(try clear hx1);(try clear qi1);(try clear p2);(try clear c3);(try clear c4);(try clear c4b0);(try clear c4b1);(try clear c5);(try clear c6);(try clear c10);(try clear c13);(try clear p13);(try clear q13);(try clear hx13);(try clear qi13);(try clear hcz11_0);(try clear hcz11_1);(try clear hcz11_2);(try clear hfz11_0);(try clear hfz11_1);(try clear hfz11_2);(try clear hx138_0);(try clear hx138_1);(try clear p138);(try clear q138)
   obtain ⟨x6_1,x35_1,rfl,HA,HK1,HO_6,HO_33,BK133,HI132,HB⟩:=hrel
   cases gk with
   | zero => exact absurd HA.out (by simp [block_payload.l0])
   | succ k1 =>
    have H:=HA.out
    clear HA
    simp only [block_payload.l0] at H
    by_cases c19 : x35_1 < (t134.length : Int)
    ·rw [if_pos c19] at H
     have c19b0 : decide (x35_1 < (t134.length : Int)) = true:=decide_eq_true c19
     clear c19
     by_cases c20 : 0 ≤ x35_1
     ·rw [if_pos c20] at H
      have c20b0 : decide (0 ≤ x35_1) = true:=decide_eq_true c20
      clear c20
      by_cases c21 : x35_1 < (t134.length : Int)
      ·rw [if_pos c21] at H
       have c21b0 : decide (x35_1 < (t134.length : Int)) = true:=decide_eq_true c21
       clear c21
       replace H:=Option.bind_eq_some_iff.mp H
       obtain ⟨t149,A220,H⟩:=H
       replace H : (block_payload.l0 k1 l0 t149 t134 (t134.length : Int) (wrap64 (x35_1 + 1)) t137) = some r:=H
       have A22:=Aside0.mk A220
       clear A220
       have H':=Aside0.mk H
       clear H
       have p148 : 0 ≤ (x35_1 : Int):=of_decide_eq_true (by first | (with_reducible assumption) | assumption)
       have q148 : x35_1 < (t134.length : Int):=of_decide_eq_true (by first | (with_reducible assumption) | assumption)
       obtain ⟨ad148,e148,hx148_0⟩:=Kd.at_string (Kd.R_reads' HO_33.out).2.2 x35_1 p148 q148
       cases e148
       replace p148:=eq_true p148
       replace q148:=eq_true q148
       obtain ⟨Ao23,co23,eo23⟩:=Kd.R_slice HO_6.out
       subst eo23
       go_wp2_with (first | ((with_reducible refine gate_callee (f:=61) rfl ?_);refine goesL_ (some 41) rfl rfl Try.func61 (by kernel_rfl) rfl #[.slice Ao23 x6_1.length co23,.string (rdOf ByteArray.empty t134 x35_1)] rfl (by (try simp only [List.map_toArray,List.map_cons,List.map_nil]);first | done | rfl | (simp only [List.length_drop,List.length_take];rfl)) ?_;(with_reducible refine (blob_Put.calls _ _ x6_1 (rdOf ByteArray.empty t134 x35_1) t149 _ ?side1 ?side2 A22.out).mono ?_);(case side1 => repeat (first | exact (Kd.R_reads' HO_6.out).2.2 | (with_reducible refine Kd.C_alloc ?_ _) | (with_reducible refine Kd.C_drewN ?_ _) | (with_reducible refine Kd.C_drew ?_)));(case side2 => exact (Kd.R_reads' HO_6.out).2.1);rintro e w24 ⟨v150,rfl,ho0,hb⟩;refine ⟨_,rfl,?_⟩;have n0_:=Aside0.mk (Kd.R_elder' (by (with_reducible repeat (first | apply Kd.R_alloc | apply Kd.R_drewN | apply Kd.R_drew));exact HO_6.out) (Kd.R_base ho0) hb);have n1_:=Aside0.mk (Kd.R_below (by (with_reducible repeat (first | apply Kd.R_alloc | apply Kd.R_drewN | apply Kd.R_drew));exact HO_33.out) hb);have n2_:=Aside0.mk (Kd.R_lower (Kd.R_new' ho0 (Kd.R_lt (by (with_reducible repeat (first | apply Kd.R_alloc | apply Kd.R_drewN | apply Kd.R_drew));exact HO_6.out))) (below_size (by repeat (first | (with_reducible first | exact HB.out | apply below_alloc | apply pw_below_drewN | apply below_drew1 | refine below_set ?_ (IsS143.ge HI132.out) | refine below_set ?_ GE133.out) | exact HB.out))));have n3_:=Aside0.mk (blk_below (g:=gb133) (o:=.cells #[.nilFunc,.func (.func 75) #[] #[],.func (.func 77) #[] #[]] 119 (0,0)) (by (with_reducible repeat (first | refine blk_drewN ?_ _ | refine blk_drew ?_ | refine blk_alloc ?_ _));exact BK133.out) hb);have n4_:=Aside0.mk (IsS143.below (by repeat (first | (with_reducible first | exact HI132.out | apply IsS143.alloc | apply IsS143.drewN | apply IsS143.drew | apply IsS143.set_0 | refine IsS143.farT (t:=119) (a:=gb133) ?_ (by (with_reducible repeat (first | exact Go.Proofs.YtmmfakdncjeoeaaAid.TyAt.mk BK133.out | apply Go.Proofs.YtmmfakdncjeoeaaAid.TyAt.set | apply Go.Proofs.YtmmfakdncjeoeaaAid.TyAt.alloc | apply Go.Proofs.YtmmfakdncjeoeaaAid.TyAt.drewN | apply Go.Proofs.YtmmfakdncjeoeaaAid.TyAt.drew))) (by decide) (by decide) _) | exact HI132.out)) hb);have n5_:=Aside0.mk (below_step (by repeat (first | (with_reducible first | exact HB.out | apply below_alloc | apply pw_below_drewN | apply below_drew1 | refine below_set ?_ (IsS143.ge HI132.out) | refine below_set ?_ GE133.out) | exact HB.out)) hb);clear HO_6;clear HO_33;clear BK133;clear HI132;clear HB;have HO_6:=n0_;have HO_33:=n1_;have HO151:=n2_;have BK133:=n3_;have HI132:=n4_;have HB:=n5_;clear n0_ n1_ n2_ n3_ n4_ n5_;(try clear hb);(try clear hb2);(try clear hk);(try clear hi);(try clear ho0)))
       go_roundg k1
       case measure => have:=HK1.out;omega
       case rel => exact ⟨(t149),(wrap64 (x35_1 + 1)),(by first | rfl | (simp;done) | (simp [*];done)),H',⟨by have:=HK1.out;omega⟩,⟨by (with_reducible repeat (first | apply Kd.R_alloc | apply Kd.R_drewN | apply Kd.R_drew));exact Kd.R_mono HO151.out (fun _ hk => trivial)⟩,⟨by (with_reducible repeat (first | apply Kd.R_alloc | apply Kd.R_drewN | apply Kd.R_drew));exact HO_33.out⟩,⟨by (with_reducible repeat (first | refine blk_drewN ?_ _ | refine blk_drew ?_ | refine blk_alloc ?_ _));exact BK133.out⟩,⟨by repeat (first | (with_reducible first | exact HI132.out | apply IsS143.alloc | apply IsS143.drewN | apply IsS143.drew | apply IsS143.set_0 | refine IsS143.farT (t:=119) (a:=gb133) ?_ (by (with_reducible repeat (first | exact Go.Proofs.YtmmfakdncjeoeaaAid.TyAt.mk BK133.out | apply Go.Proofs.YtmmfakdncjeoeaaAid.TyAt.set | apply Go.Proofs.YtmmfakdncjeoeaaAid.TyAt.alloc | apply Go.Proofs.YtmmfakdncjeoeaaAid.TyAt.drewN | apply Go.Proofs.YtmmfakdncjeoeaaAid.TyAt.drew))) (by decide) (by decide) _) | exact HI132.out)⟩,⟨by repeat (first | (with_reducible first | exact HB.out | apply below_alloc | apply pw_below_drewN | apply below_drew1 | refine below_set ?_ (IsS143.ge HI132.out) | refine below_set ?_ GE133.out) | exact HB.out)⟩⟩
      ·rw [if_neg c21] at H
       exact absurd H (by simp)
     ·rw [if_neg c20] at H
      exact absurd H (by simp)
    ·rw [if_neg c19] at H
     have c19b0 : decide (x35_1 < (t134.length : Int)) = false:=decide_eq_false c19
     clear c19
     have H':=Aside0.mk H
     clear H
     go_wp2
     go_loopg [6,45] k1 (fun kq v6 v45 w' => ∃ (x6_2 : List Int) (x45_2 : Int) (x133000_2 : ByteArray),v45 = .int .i64 x45_2 ∧ Aside0 (block_payload.l1 kq l0 x6_2 l0 (l0.length : Int) x45_2 x133000_2 = some r) ∧ Aside0 (kq ≤ k1) ∧ Aside0 (Kd.R (Kd.int .u8) 5 w' w.heap.size (fun _ => True) v6 x6_2) ∧ Aside0 (w'.heap[gb133]? = some (.cells #[.nilFunc,.func (.func 75) #[] #[],.func (.func 77) #[] #[]] 119 (0,0))) ∧ Aside0 (IsS143 w w' g132 x133000_2) ∧ Aside0 (Below w.heap.size w w'))
     case atStart => exact ⟨(x6_1),(0),(t137),(by first | rfl | (simp;done) | (simp [*];done)),H',⟨Nat.le_refl _⟩,⟨by (with_reducible repeat (first | apply Kd.R_alloc | apply Kd.R_drewN | apply Kd.R_drew));exact HO_6.out⟩,⟨by (with_reducible repeat (first | refine blk_drewN ?_ _ | refine blk_drew ?_ | refine blk_alloc ?_ _));exact BK133.out⟩,⟨by repeat (first | (with_reducible first | exact HI132.out | apply IsS143.alloc | apply IsS143.drewN | apply IsS143.drew | apply IsS143.set_0 | refine IsS143.farT (t:=119) (a:=gb133) ?_ (by (with_reducible repeat (first | exact Go.Proofs.YtmmfakdncjeoeaaAid.TyAt.mk BK133.out | apply Go.Proofs.YtmmfakdncjeoeaaAid.TyAt.set | apply Go.Proofs.YtmmfakdncjeoeaaAid.TyAt.alloc | apply Go.Proofs.YtmmfakdncjeoeaaAid.TyAt.drewN | apply Go.Proofs.YtmmfakdncjeoeaaAid.TyAt.drew))) (by decide) (by decide) _) | exact HI132.out)⟩,⟨by repeat (first | (with_reducible first | exact HB.out | apply below_alloc | apply pw_below_drewN | apply below_drew1 | refine below_set ?_ (IsS143.ge HI132.out) | refine below_set ?_ GE133.out) | exact HB.out)⟩⟩
     case round =>
      clear H'
      (try clear c1);(try clear p1);(try clear q1);(try clear hx1);(try clear qi1);(try clear c2);(try clear p2);(try clear c3);(try clear c4);(try clear c4b0);(try clear c4b1);(try clear c5);(try clear c6);(try clear p6);(try clear c10);(try clear c13);(try clear p13);(try clear q13);(try clear hx13);(try clear qi13);(try clear p14);(try clear q14);(try clear hx14);(try clear c19);(try clear c19b0);(try clear c20);(try clear c20b0);(try clear c21);(try clear c21b0);(try clear hcz11_0);(try clear hcz11_1);(try clear hcz11_2);(try clear hfz11_0);(try clear hfz11_1);(try clear hfz11_2);(try clear hx138_0);(try clear hx138_1);(try clear hx148_0);(try clear p1);(try clear p13);(try clear p138);(try clear p148);(try clear p2);(try clear q1);(try clear q13);(try clear q138);(try clear q148)
      obtain ⟨x6_2,x45_2,x133000_2,rfl,HA,HK2,HO_6,BK133,HI132,HB⟩:=hrel
      cases gk with
      | zero => exact absurd HA.out (by simp [block_payload.l1])
      | succ k2 =>
       have H:=HA.out
       clear HA
       simp only [block_payload.l1] at H
       by_cases c25 : x45_2 < (l0.length : Int)
       ·rw [if_pos c25] at H
        have c25b0 : decide (x45_2 < (l0.length : Int)) = true:=decide_eq_true c25
        clear c25
        by_cases c26 : 0 ≤ x45_2
        ·rw [if_pos c26] at H
         have c26b0 : decide (0 ≤ x45_2) = true:=decide_eq_true c26
         clear c26
         by_cases c27 : x45_2 < (l0.length : Int)
         ·rw [if_pos c27] at H
          have c27b0 : decide (x45_2 < (l0.length : Int)) = true:=decide_eq_true c27
          clear c27
          have HC28:=Aside0.mk H
          clear H
          have p152 : 0 ≤ (x45_2 : Int):=of_decide_eq_true (by first | (with_reducible assumption) | assumption)
          have q152 : x45_2 < (l0.length : Int):=of_decide_eq_true (by first | (with_reducible assumption) | assumption)
          obtain ⟨ad152,A152_1,c152_1,e152,hx152_0,hx152_1,hl152_1,hi152_1⟩:=at_T56 HR0.out x45_2 p152 q152
          obtain rfl : ad138 = ad152:=(by injection e152)
          replace hx152_0:=(HB.out.cell (World.block_lt_of_cell? w _ hx152_0)).trans hx152_0
          replace hx152_1:=(HB.out.cell (World.block_lt_of_cell? w _ hx152_1)).trans hx152_1
          have HR152_1:=Aside0.mk hi152_1
          have HC152_1:=Aside0.mk hl152_1
          clear hi152_1 hl152_1
          replace p152:=eq_true p152
          replace q152:=eq_true q152
          go_upto_if 51 with (first | ((with_reducible refine gate_dst (N:=10) rfl ?_);refine box_event ?hg (N:=10) ?hd (cs:=#[.int .u64 0,.slice none 0 0]) (t:=56) ?hr ?_;(case hd => rfl);(case hg => rfl);(case hr => first | (go_simp;done) | (go_simp;rfl));intro gb153 hg w29 hbox hb;have n0_:=Aside0.mk (Kd.R_below (by (with_reducible repeat (first | apply Kd.R_alloc | apply Kd.R_drewN | apply Kd.R_drew));exact HO_6.out) hb);have n1_:=Aside0.mk (blk_below (g:=gb133) (o:=.cells #[.nilFunc,.func (.func 75) #[] #[],.func (.func 77) #[] #[]] 119 (0,0)) (by (with_reducible repeat (first | refine blk_drewN ?_ _ | refine blk_drew ?_ | refine blk_alloc ?_ _));exact BK133.out) hb);have n2_:=Aside0.mk (IsS143.below (by repeat (first | (with_reducible first | exact HI132.out | apply IsS143.alloc | apply IsS143.drewN | apply IsS143.drew | apply IsS143.set_0 | refine IsS143.farT (t:=119) (a:=gb133) ?_ (by (with_reducible repeat (first | exact Go.Proofs.YtmmfakdncjeoeaaAid.TyAt.mk BK133.out | apply Go.Proofs.YtmmfakdncjeoeaaAid.TyAt.set | apply Go.Proofs.YtmmfakdncjeoeaaAid.TyAt.alloc | apply Go.Proofs.YtmmfakdncjeoeaaAid.TyAt.drewN | apply Go.Proofs.YtmmfakdncjeoeaaAid.TyAt.drew))) (by decide) (by decide) _) | exact HI132.out)) hb);have n3_:=Aside0.mk (below_step (by repeat (first | (with_reducible first | exact HB.out | apply below_alloc | apply pw_below_drewN | apply below_drew1 | refine below_set ?_ (IsS143.ge HI132.out) | refine below_set ?_ GE133.out) | exact HB.out)) hb);have n4_:=Aside0.mk (hbox);have n5_:=Aside0.mk ((by rw [hg];exact (below_size (by repeat (first | (with_reducible first | exact HB.out | apply below_alloc | apply pw_below_drewN | apply below_drew1 | refine below_set ?_ (IsS143.ge HI132.out) | refine below_set ?_ GE133.out) | exact HB.out))) : w.heap.size ≤ gb153));have n6_:=Aside0.mk ((by rw [hg];exact (below_size (by repeat (first | (with_reducible first | exact HB.out | apply below_alloc | apply pw_below_drewN | apply below_drew1 | refine below_set ?_ (IsS143.ge HI132.out) | refine below_set ?_ GE133.out) | exact HB.out))) : w.heap.size ≤ gb153));have n7_:=Aside0.mk ((by rw [hg];exact Nat.ne_of_lt (blk_lt (g:=gb133) (o:=.cells #[.nilFunc,.func (.func 75) #[] #[],.func (.func 77) #[] #[]] 119 (0,0)) (by (with_reducible repeat (first | refine blk_drewN ?_ _ | refine blk_drew ?_ | refine blk_alloc ?_ _));exact BK133.out)) : gb133 ≠ gb153));have n8_:=Aside0.mk ((by rw [hg];exact Nat.ne_of_gt (blk_lt (g:=gb133) (o:=.cells #[.nilFunc,.func (.func 75) #[] #[],.func (.func 77) #[] #[]] 119 (0,0)) (by (with_reducible repeat (first | refine blk_drewN ?_ _ | refine blk_drew ?_ | refine blk_alloc ?_ _));exact BK133.out)) : gb153 ≠ gb133));have n9_:=Aside0.mk ((by rw [hg];exact Nat.ne_of_lt (IsS143.lt (show IsS143 w _ g132 x133000_2 from by repeat (first | (with_reducible first | exact HI132.out | apply IsS143.alloc | apply IsS143.drewN | apply IsS143.drew | apply IsS143.set_0 | refine IsS143.farT (t:=119) (a:=gb133) ?_ (by (with_reducible repeat (first | exact Go.Proofs.YtmmfakdncjeoeaaAid.TyAt.mk BK133.out | apply Go.Proofs.YtmmfakdncjeoeaaAid.TyAt.set | apply Go.Proofs.YtmmfakdncjeoeaaAid.TyAt.alloc | apply Go.Proofs.YtmmfakdncjeoeaaAid.TyAt.drewN | apply Go.Proofs.YtmmfakdncjeoeaaAid.TyAt.drew))) (by decide) (by decide) _) | exact HI132.out))) : g132 ≠ gb153));have n10_:=Aside0.mk ((by rw [hg];exact Nat.ne_of_gt (IsS143.lt (show IsS143 w _ g132 x133000_2 from by repeat (first | (with_reducible first | exact HI132.out | apply IsS143.alloc | apply IsS143.drewN | apply IsS143.drew | apply IsS143.set_0 | refine IsS143.farT (t:=119) (a:=gb133) ?_ (by (with_reducible repeat (first | exact Go.Proofs.YtmmfakdncjeoeaaAid.TyAt.mk BK133.out | apply Go.Proofs.YtmmfakdncjeoeaaAid.TyAt.set | apply Go.Proofs.YtmmfakdncjeoeaaAid.TyAt.alloc | apply Go.Proofs.YtmmfakdncjeoeaaAid.TyAt.drewN | apply Go.Proofs.YtmmfakdncjeoeaaAid.TyAt.drew))) (by decide) (by decide) _) | exact HI132.out))) : gb153 ≠ g132));clear HO_6;clear BK133;clear HI132;clear HB;have HO_6:=n0_;have BK133:=n1_;have HI132:=n2_;have HB:=n3_;have BK153:=n4_;have GW153:=n5_;have GE153:=n6_;have NB133_153:=n7_;have NB153_133:=n8_;have NB132_153:=n9_;have NB153_132:=n10_;clear n0_ n1_ n2_ n3_ n4_ n5_ n6_ n7_ n8_ n9_ n10_;clear hb hbox hg;have hnb30:=NB153_133.out;have hnc30:=NB133_153.out;have hnb31:=NB153_132.out;have hnc31:=NB132_153.out;have hcz32_0 : w29.cell? ⟨gb153,0,none⟩ = some (.int .u64 0):=(blk_cell BK153.out 0).trans rfl;have hcz32_1 : w29.cell? ⟨gb153,1,none⟩ = some (.slice none 0 0):=(blk_cell BK153.out 1).trans rfl;have hfz32_0:=blk_frozen BK153.out 0;have hfz32_1:=blk_frozen BK153.out 1))
          (try simp only [Act.put,List.setIfInBounds_toArray,List.set_cons_zero,List.set_cons_succ])
          go_cut [6] (fun v6 wc => ∃ (kq : Nat) (x6_27 : List Int),Aside0 (block_payload.j2 kq l0 x6_27 l0 (l0.length : Int) x45_2 x133000_2 ((rd_T56 l0 x45_2).f0) ((rd_T56 l0 x45_2).f1) = some r) ∧ Aside0 (kq ≤ k2) ∧ Aside0 (Kd.R (Kd.int .u8) 5 wc w.heap.size (fun _ => True) v6 x6_27) ∧ Aside0 (wc.heap[gb133]? = some (.cells #[.nilFunc,.func (.func 75) #[] #[],.func (.func 77) #[] #[]] 119 (0,0))) ∧ Aside0 (wc.heap[gb153]? = some (.cells #[.int .u64 ((rd_T56 l0 x45_2).f0),(.slice A152_1 ((rd_T56 l0 x45_2).f1).length c152_1)] 56 (0,0))) ∧ Aside0 (IsS143 w wc g132 x133000_2) ∧ Aside0 (Below w.heap.size w wc))
          case first =>
           have H:=HC28.out
           clear HC28
           by_cases c33 : x45_2 > 0
           ·rw [if_pos c33] at H
            have c33b0 : decide (0 < x45_2) = true:=decide_eq_true c33
            clear c33
            (first | rw [c33b0] | (simp only [i64_w,i32_w];rw [c33b0]) | skip)
            obtain ⟨ji34,hji34⟩ : ∃ j_ : Int,(wrap64 (x45_2 - 1)) = j_:=⟨_,rfl⟩
            replace H : (if 0 ≤ (ji34) then (if (ji34) < (l0.length : Int) then ((wire_Put.f x6_2 (IntKind.u64.wrap (((rd_T56 l0 x45_2).f0) - ((rd_T56 l0 (ji34)).f0)))).bind fun t155 => (block_payload.j2 k2 l0 t155 l0 (l0.length : Int) x45_2 x133000_2 ((rd_T56 l0 x45_2).f0) ((rd_T56 l0 x45_2).f1))) else (none)) else (none)) = some r:=by first | (rw [hji34] at H;exact H) | (simp only [hji34] at H ⊢;exact H)
            have hji34w : (IntKind.i64.wrap (x45_2 - 1)) = ji34:=(i64_w _).trans hji34
            by_cases c35 : 0 ≤ (ji34)
            ·rw [if_pos c35] at H
             have c35b0 : decide (0 ≤ (ji34)) = true:=decide_eq_true c35
             clear c35
             by_cases c36 : (ji34) < (l0.length : Int)
             ·rw [if_pos c36] at H
              have c36b0 : decide ((ji34) < (l0.length : Int)) = true:=decide_eq_true c36
              clear c36
              replace H:=Option.bind_eq_some_iff.mp H
              obtain ⟨t155,A370,H⟩:=H
              replace H : (block_payload.j2 k2 l0 t155 l0 (l0.length : Int) x45_2 x133000_2 ((rd_T56 l0 x45_2).f0) ((rd_T56 l0 x45_2).f1)) = some r:=H
              have A37:=Aside0.mk A370
              clear A370
              have H':=Aside0.mk H
              clear H
              try go_wp2
              have n0_ : Aside0 (Kd.R (Kd.int .u8) 5 ((w29.setCell ⟨gb153,0,none⟩ (.int .u64 ((rd_T56 l0 x45_2).f0))).setCell ⟨gb153,1,none⟩ (.slice A152_1 ((rd_T56 l0 x45_2).f1).length c152_1)) w.heap.size (fun _ => True) u6 x6_2):=⟨by (with_reducible repeat (first | apply Kd.R_alloc | apply Kd.R_drewN | apply Kd.R_drew));exact Kd.R_mono (Kd.R_far (p:=⟨gb153,1,none⟩) (Kd.R_far (p:=⟨gb153,0,none⟩) (Kd.R_types HO_6.out BK153.out (by decide)) (fun _ hk => hk.2) (.int .u64 ((rd_T56 l0 x45_2).f0))) (fun _ hk => hk.2) (.slice A152_1 ((rd_T56 l0 x45_2).f1).length c152_1)) (fun _ hk => trivial)⟩
              have n1_ : Aside0 (((w29.setCell ⟨gb153,0,none⟩ (.int .u64 ((rd_T56 l0 x45_2).f0))).setCell ⟨gb153,1,none⟩ (.slice A152_1 ((rd_T56 l0 x45_2).f1).length c152_1)).heap[gb133]? = some (.cells #[.nilFunc,.func (.func 75) #[] #[],.func (.func 77) #[] #[]] 119 (0,0))):=⟨by (with_reducible repeat (first | refine blk_drewN ?_ _ | refine blk_drew ?_ | refine blk_alloc ?_ _));refine blk_far ?_ NB133_153.out _;(with_reducible repeat (first | refine blk_drewN ?_ _ | refine blk_drew ?_ | refine blk_alloc ?_ _));refine blk_far ?_ NB133_153.out _;(with_reducible repeat (first | refine blk_drewN ?_ _ | refine blk_drew ?_ | refine blk_alloc ?_ _));exact BK133.out⟩
              have n2_ : Aside0 (((w29.setCell ⟨gb153,0,none⟩ (.int .u64 ((rd_T56 l0 x45_2).f0))).setCell ⟨gb153,1,none⟩ (.slice A152_1 ((rd_T56 l0 x45_2).f1).length c152_1)).heap[gb153]? = some (.cells #[.int .u64 ((rd_T56 l0 x45_2).f0),.slice A152_1 ((rd_T56 l0 x45_2).f1).length c152_1] 56 (0,0))):=⟨by (with_reducible repeat (first | refine blk_drewN ?_ _ | refine blk_drew ?_ | refine blk_alloc ?_ _));refine blk_put (cs:=#[.int .u64 ((rd_T56 l0 x45_2).f0),.slice none 0 0]) ?_ 1 _ rfl;(with_reducible repeat (first | refine blk_drewN ?_ _ | refine blk_drew ?_ | refine blk_alloc ?_ _));refine blk_put (cs:=#[.int .u64 0,.slice none 0 0]) ?_ 0 _ rfl;(with_reducible repeat (first | refine blk_drewN ?_ _ | refine blk_drew ?_ | refine blk_alloc ?_ _));exact BK153.out⟩
              have n3_ : Aside0 (IsS143 w ((w29.setCell ⟨gb153,0,none⟩ (.int .u64 ((rd_T56 l0 x45_2).f0))).setCell ⟨gb153,1,none⟩ (.slice A152_1 ((rd_T56 l0 x45_2).f1).length c152_1)) g132 x133000_2):=⟨by repeat (first | (with_reducible first | exact HI132.out | apply IsS143.alloc | apply IsS143.drewN | apply IsS143.drew | apply IsS143.set_0 | refine IsS143.farT (t:=119) (a:=gb133) ?_ (by (with_reducible repeat (first | exact Go.Proofs.YtmmfakdncjeoeaaAid.TyAt.mk BK133.out | apply Go.Proofs.YtmmfakdncjeoeaaAid.TyAt.set | apply Go.Proofs.YtmmfakdncjeoeaaAid.TyAt.alloc | apply Go.Proofs.YtmmfakdncjeoeaaAid.TyAt.drewN | apply Go.Proofs.YtmmfakdncjeoeaaAid.TyAt.drew))) (by decide) (by decide) _ | refine IsS143.farT (t:=56) (a:=gb153) ?_ (by (with_reducible repeat (first | exact Go.Proofs.YtmmfakdncjeoeaaAid.TyAt.mk BK153.out | apply Go.Proofs.YtmmfakdncjeoeaaAid.TyAt.set | apply Go.Proofs.YtmmfakdncjeoeaaAid.TyAt.alloc | apply Go.Proofs.YtmmfakdncjeoeaaAid.TyAt.drewN | apply Go.Proofs.YtmmfakdncjeoeaaAid.TyAt.drew))) (by decide) (by decide) _) | exact HI132.out)⟩
              have n4_ : Aside0 (Below w.heap.size w ((w29.setCell ⟨gb153,0,none⟩ (.int .u64 ((rd_T56 l0 x45_2).f0))).setCell ⟨gb153,1,none⟩ (.slice A152_1 ((rd_T56 l0 x45_2).f1).length c152_1))):=⟨by repeat (first | (with_reducible first | exact HB.out | apply below_alloc | apply pw_below_drewN | apply below_drew1 | refine below_set ?_ (IsS143.ge HI132.out) | refine below_set ?_ GE133.out | refine below_set ?_ GE153.out) | exact HB.out)⟩
              (try clear HO_6)
              (try clear BK133)
              (try clear BK153)
              (try clear HI132)
              (try clear HB)
              generalize ((w29.setCell ⟨gb153,0,none⟩ (.int .u64 ((rd_T56 l0 x45_2).f0))).setCell ⟨gb153,1,none⟩ (.slice A152_1 ((rd_T56 l0 x45_2).f1).length c152_1)) = w38 at n0_ n1_ n2_ n3_ n4_ ⊢
              have HO_6:=n0_
              have BK133:=n1_
              have BK153:=n2_
              have HI132:=n3_
              have HB:=n4_
              clear n0_ n1_ n2_ n3_ n4_
              have n0_:=Aside0.mk (Kd.R_drew HO_6.out)
              have n1_:=Aside0.mk (blk_drew BK133.out)
              have n2_:=Aside0.mk (blk_drew BK153.out)
              have n3_:=Aside0.mk (IsS143.drew HI132.out)
              have n4_:=Aside0.mk (below_drew1 HB.out)
              clear HO_6
              clear BK133
              clear BK153
              clear HI132
              clear HB
              have HO_6:=n0_
              have BK133:=n1_
              have BK153:=n2_
              have HI132:=n3_
              have HB:=n4_
              clear n0_ n1_ n2_ n3_ n4_
              have p154 : 0 ≤ ((ji34) : Int):=of_decide_eq_true (by first | (with_reducible assumption) | assumption)
              have q154 : (ji34) < (l0.length : Int):=of_decide_eq_true (by first | (with_reducible assumption) | assumption)
              obtain ⟨ad154,A154_1,c154_1,e154,hx154_0,hx154_1,hl154_1,hi154_1⟩:=at_T56 HR0.out (ji34) p154 q154
              have hw154_1:=hx154_1
              have hw154_0:=hx154_0
              obtain rfl : ad138 = ad154:=(by injection e154)
              replace hx154_0:=(HB.out.cell (World.block_lt_of_cell? w _ hx154_0)).trans hx154_0
              replace hx154_1:=(HB.out.cell (World.block_lt_of_cell? w _ hx154_1)).trans hx154_1
              have HR154_1:=Aside0.mk hi154_1
              have HC154_1:=Aside0.mk hl154_1
              clear hi154_1 hl154_1
              replace p154:=eq_true p154
              replace q154:=eq_true q154
              obtain ⟨Ao40,co40,eo40⟩:=Kd.R_slice HO_6.out
              (first | subst eo40 | (injection eo40 with f1_ f2_ f3_;have f4_:=f1_.symm;have f5_:=f3_.symm;clear f1_ f2_ f3_;subst f4_;subst f5_))
              refine start_ (n:=12) (S:=fun w' => w'.cell? ⟨gb153,0,none⟩ = some (.int .u64 ((rd_T56 l0 x45_2).f0)) ∧ w'.cell? ⟨gb153,1,none⟩ = some (.slice A152_1 ((rd_T56 l0 x45_2).f1).length c152_1) ∧ w'.cell? (ad138.add (((ji34)).toNat * 2)) = some (.int .u64 ((rd_T56 l0 (ji34)).f0)) ∧ w'.cell? ⟨(ad138.add (((ji34)).toNat * 2)).block,(ad138.add (((ji34)).toNat * 2)).off + 1,none⟩ = some (.slice A154_1 ((rd_T56 l0 (ji34)).f1).length c154_1)) (ds:=[]) #[n_,n_,n_,n_,n_,n_,n_,n_,n_,n_,n_,n_] (by kernel_rfl) rfl rfl ⟨(blk_cell BK153.out 0).trans rfl,(blk_cell BK153.out 1).trans rfl,((HB.out.cell (World.block_lt_of_cell? w _ hw154_0)).trans hw154_0),((HB.out.cell (World.block_lt_of_cell? w _ hw154_1)).trans hw154_1)⟩ (fun hHeld => ?_);refine with_tabW block_payload.tab13 block_payload.bits13 (fun HT_ HW_ => ?_)
              generalize w38.drew = w39 at HO_6 BK133 BK153 HI132 HB HR154_1 hx154_0 hx154_1 hHeld ⊢
              refine pure_ (i:=0) (N:=some 52) (v:=?_) (a':=?_) #[y_,n_,n_,n_,n_,n_,n_,n_,n_,n_,n_,n_] rfl rfl (any_of HT_.out (by kernel_rfl)) (fun _ _ _ h => h) (Or.inl ⟨by rfl,?_⟩) ?_ ?_
              rotate_left
              ·intro w'
               go_simp
               with_reducible rfl
              rotate_left
              ·simp only [Act.put,sA_,sB_,sC_,i64_w,i32_w]
               rfl
              refine pure_ (i:=1) (N:=some 53) (v:=?_) (a':=?_) #[y_,y_,n_,n_,n_,n_,n_,n_,n_,n_,n_,n_] rfl rfl (any_of HT_.out (by kernel_rfl)) (fun _ _ _ h => h) (Or.inl ⟨by rfl,?_⟩) ?_ ?_
              rotate_left
              ·intro w'
               go_simp
               with_reducible rfl
              rotate_left
              ·simp only [Act.put,sA_,sB_,sC_,i64_w,i32_w]
               rfl
              refine pure_ (i:=3) (N:=some 55) (v:=?_) (a':=?_) #[y_,y_,n_,y_,n_,n_,n_,n_,n_,n_,n_,n_] rfl rfl (any_of HT_.out (by kernel_rfl)) (fun _ _ _ h => h) (Or.inl ⟨by rfl,?_⟩) ?_ ?_
              rotate_left
              ·intro w'
               go_simp
               with_reducible rfl
              rotate_left
              ·simp only [Act.put,sA_,sB_,sC_,i64_w,i32_w]
               rfl
              refine pure_ (i:=4) (N:=some 56) (v:=?_) (a':=?_) #[y_,y_,n_,y_,y_,n_,n_,n_,n_,n_,n_,n_] rfl rfl (any_of HT_.out (by kernel_rfl)) (fun _ _ _ h => h) (Or.inl ⟨by rfl,?_⟩) ?_ ?_
              rotate_left
              ·intro w'
               go_simp
               with_reducible rfl
              rotate_left
              ·simp only [Act.put,sA_,sB_,sC_,i64_w,i32_w]
               rfl
              refine pure_ (i:=5) (N:=some 57) (v:=?_) (a':=?_) #[y_,y_,n_,y_,y_,y_,n_,n_,n_,n_,n_,n_] rfl rfl (any_of HT_.out (by kernel_rfl)) (fun _ _ _ h => h) (Or.inl ⟨by rfl,?_⟩) ?_ ?_
              rotate_left
              ·intro w'
               go_simp
               with_reducible rfl
              rotate_left
              ·simp only [Act.put,sA_,sB_,sC_,i64_w,i32_w]
               rfl
              refine pure_ (i:=6) (N:=some 58) (v:=?_) (a':=?_) #[y_,y_,n_,y_,y_,y_,y_,n_,n_,n_,n_,n_] rfl rfl (any_of HT_.out (by kernel_rfl)) (fun _ _ _ h => h) (Or.inl ⟨by rfl,?_⟩) ?_ ?_
              rotate_left
              ·intro w'
               go_simp
               with_reducible rfl
              rotate_left
              ·simp only [Act.put,sA_,sB_,sC_,i64_w,i32_w]
               rfl
              refine pure_ (i:=7) (N:=some 59) (v:=?_) (a':=?_) #[y_,y_,n_,y_,y_,y_,y_,y_,n_,n_,n_,n_] rfl rfl (any_of HT_.out (by kernel_rfl)) (fun _ _ _ h => h) (Or.inl ⟨by rfl,?_⟩) ?_ ?_
              rotate_left
              ·intro w'
               go_simp
               with_reducible rfl
              rotate_left
              ·simp only [Act.put,sA_,sB_,sC_,i64_w,i32_w]
               rfl
              refine take_ (i:=2) (N:=some 54) (v:=?_) (a':=?_) #[y_,y_,y_,y_,y_,y_,y_,y_,n_,n_,n_,n_] rfl rfl (take_ofW HT_.out HW_.out (by kernel_rfl)) (fun _ _ _ h => h) (Or.inl ⟨by rfl,?_⟩) hHeld ?_ ?_
              rotate_left
              ·rintro w' ⟨s0,s1,s2,s3⟩
               go_simp
               with_reducible rfl
              rotate_left
              ·simp only [Act.put,sA_,sB_,sC_,i64_w,i32_w]
               rfl
              refine take_ (i:=8) (N:=some 60) (v:=?_) (a':=?_) #[y_,y_,y_,y_,y_,y_,y_,y_,y_,n_,n_,n_] rfl rfl (take_ofW HT_.out HW_.out (by kernel_rfl)) (fun _ _ _ h => h) (Or.inl ⟨by rfl,?_⟩) hHeld ?_ ?_
              rotate_left
              ·rintro w' ⟨s0,s1,s2,s3⟩
               go_simp
               with_reducible rfl
              rotate_left
              ·simp only [Act.put,sA_,sB_,sC_,i64_w,i32_w]
               rfl
              refine pure_ (i:=9) (N:=some 61) (v:=?_) (a':=?_) #[y_,y_,y_,y_,y_,y_,y_,y_,y_,y_,n_,n_] rfl rfl (any_of HT_.out (by kernel_rfl)) (fun _ _ _ h => h) (Or.inl ⟨by rfl,?_⟩) ?_ ?_
              rotate_left
              ·intro w'
               go_simp
               with_reducible rfl
              rotate_left
              ·simp only [Act.put,sA_,sB_,sC_,i64_w,i32_w]
               rfl
              refine one_ (i:=10) (N:=some 62) #[y_,y_,y_,y_,y_,y_,y_,y_,y_,y_,y_,n_] rfl rfl (one_of HT_.out (by kernel_rfl)) (by decide) (fun K hK => ?_)
              refine goes_ Try.func60 (by kernel_rfl) rfl #[.slice Ao40 x6_2.length co40,.int .u64 (IntKind.u64.wrap (((rd_T56 l0 x45_2).f0) - ((rd_T56 l0 (ji34)).f0)))] (by rfl) rfl rfl (by (try simp only [List.map_toArray,List.map_cons,List.map_nil]);first | done | (simp only [hji34];rfl) | rfl | (simp only [List.length_drop,List.length_take];rfl)) ?_
              with_reducible refine (wire_Put.calls _ _ x6_2 (IntKind.u64.wrap (((rd_T56 l0 x45_2).f0) - ((rd_T56 l0 (ji34)).f0))) t155 _ ?side1 ?side2 A37.out).mono ?_
              (case side1 => repeat (first | exact (Kd.R_reads' HO_6.out).2.2 | (with_reducible refine Kd.C_alloc ?_ _) | (with_reducible refine Kd.C_drewN ?_ _) | (with_reducible refine Kd.C_drew ?_)))
              (case side2 => exact (Kd.R_reads' HO_6.out).2.1)
              rintro e w41 ⟨v156,rfl,ho0,hb⟩
              refine ⟨_,rfl,?_⟩
              have n0_:=Aside0.mk (Kd.R_elder' (by (with_reducible repeat (first | apply Kd.R_alloc | apply Kd.R_drewN | apply Kd.R_drew));exact HO_6.out) (Kd.R_base ho0) hb)
              have n1_:=Aside0.mk (Kd.R_lower (Kd.R_new' ho0 (Kd.R_lt (by (with_reducible repeat (first | apply Kd.R_alloc | apply Kd.R_drewN | apply Kd.R_drew));exact HO_6.out))) (below_size (by repeat (first | (with_reducible first | exact HB.out | apply below_alloc | apply pw_below_drewN | apply below_drew1 | refine below_set ?_ (IsS143.ge HI132.out) | refine below_set ?_ GE133.out | refine below_set ?_ GE153.out) | exact HB.out))))
              have n2_:=Aside0.mk (blk_below (g:=gb133) (o:=.cells #[.nilFunc,.func (.func 75) #[] #[],.func (.func 77) #[] #[]] 119 (0,0)) (by (with_reducible repeat (first | refine blk_drewN ?_ _ | refine blk_drew ?_ | refine blk_alloc ?_ _));exact BK133.out) hb)
              have n3_:=Aside0.mk (IsS143.below (by repeat (first | (with_reducible first | exact HI132.out | apply IsS143.alloc | apply IsS143.drewN | apply IsS143.drew | apply IsS143.set_0 | refine IsS143.farT (t:=119) (a:=gb133) ?_ (by (with_reducible repeat (first | exact Go.Proofs.YtmmfakdncjeoeaaAid.TyAt.mk BK133.out | apply Go.Proofs.YtmmfakdncjeoeaaAid.TyAt.set | apply Go.Proofs.YtmmfakdncjeoeaaAid.TyAt.alloc | apply Go.Proofs.YtmmfakdncjeoeaaAid.TyAt.drewN | apply Go.Proofs.YtmmfakdncjeoeaaAid.TyAt.drew))) (by decide) (by decide) _ | refine IsS143.farT (t:=56) (a:=gb153) ?_ (by (with_reducible repeat (first | exact Go.Proofs.YtmmfakdncjeoeaaAid.TyAt.mk BK153.out | apply Go.Proofs.YtmmfakdncjeoeaaAid.TyAt.set | apply Go.Proofs.YtmmfakdncjeoeaaAid.TyAt.alloc | apply Go.Proofs.YtmmfakdncjeoeaaAid.TyAt.drewN | apply Go.Proofs.YtmmfakdncjeoeaaAid.TyAt.drew))) (by decide) (by decide) _) | exact HI132.out)) hb)
              have n4_:=Aside0.mk (blk_below (g:=gb153) (o:=.cells #[.int .u64 ((rd_T56 l0 x45_2).f0),.slice A152_1 ((rd_T56 l0 x45_2).f1).length c152_1] 56 (0,0)) (by (with_reducible repeat (first | refine blk_drewN ?_ _ | refine blk_drew ?_ | refine blk_alloc ?_ _));exact BK153.out) hb)
              have n5_:=Aside0.mk (below_step (by repeat (first | (with_reducible first | exact HB.out | apply below_alloc | apply pw_below_drewN | apply below_drew1 | refine below_set ?_ (IsS143.ge HI132.out) | refine below_set ?_ GE133.out | refine below_set ?_ GE153.out) | exact HB.out)) hb)
              clear HO_6
              clear BK133
              clear HI132
              clear BK153
              clear HB
              have HO_6:=n0_
              have HO157:=n1_
              have BK133:=n2_
              have HI132:=n3_
              have BK153:=n4_
              have HB:=n5_
              clear n0_ n1_ n2_ n3_ n4_ n5_
              (try clear hb)
              (try clear hb2)
              (try clear hk)
              (try clear hi)
              (try clear ho0)
              refine hK.out _ _ ⟨(blk_cell BK153.out 0).trans rfl,(blk_cell BK153.out 1).trans rfl,((HB.out.cell (World.block_lt_of_cell? w _ hw154_0)).trans hw154_0),((HB.out.cell (World.block_lt_of_cell? w _ hw154_1)).trans hw154_1)⟩ (fun hHeld => ?_)
              clear hK K
              refine norm_ (a':=?_) ?_ ?_
              rotate_left
              ·show Act.put _ (some 62) _ = _
               simp only [Act.put,sA_,sB_,sC_,i64_w,i32_w]
               rfl
              refine pure_ (i:=11) (N:=some 6) (v:=?_) (a':=?_) #[y_,y_,y_,y_,y_,y_,y_,y_,y_,y_,y_,y_] rfl rfl (any_of HT_.out (by kernel_rfl)) (fun _ _ _ h => h) (Or.inl ⟨by rfl,?_⟩) ?_ ?_
              rotate_left
              ·intro w'
               go_simp
               with_reducible rfl
              rotate_left
              ·simp only [Act.put,sA_,sB_,sC_,i64_w,i32_w]
               rfl
              refine done_ (done_of HT_.out (by kernel_rfl)) ?_
              try go_wp2
              go_meet
              case rel => exact ⟨_,(t155),H',⟨by have:=HK1.out;have:=HK2.out;first | omega | exact Nat.le_refl _⟩,⟨by (with_reducible repeat (first | apply Kd.R_alloc | apply Kd.R_drewN | apply Kd.R_drew));exact Kd.R_mono HO157.out (fun _ hk => trivial)⟩,⟨by (with_reducible repeat (first | refine blk_drewN ?_ _ | refine blk_drew ?_ | refine blk_alloc ?_ _));exact BK133.out⟩,⟨by (with_reducible repeat (first | refine blk_drewN ?_ _ | refine blk_drew ?_ | refine blk_alloc ?_ _));exact BK153.out⟩,⟨by repeat (first | (with_reducible first | exact HI132.out | apply IsS143.alloc | apply IsS143.drewN | apply IsS143.drew | apply IsS143.set_0 | refine IsS143.farT (t:=119) (a:=gb133) ?_ (by (with_reducible repeat (first | exact Go.Proofs.YtmmfakdncjeoeaaAid.TyAt.mk BK133.out | apply Go.Proofs.YtmmfakdncjeoeaaAid.TyAt.set | apply Go.Proofs.YtmmfakdncjeoeaaAid.TyAt.alloc | apply Go.Proofs.YtmmfakdncjeoeaaAid.TyAt.drewN | apply Go.Proofs.YtmmfakdncjeoeaaAid.TyAt.drew))) (by decide) (by decide) _ | refine IsS143.farT (t:=56) (a:=gb153) ?_ (by (with_reducible repeat (first | exact Go.Proofs.YtmmfakdncjeoeaaAid.TyAt.mk BK153.out | apply Go.Proofs.YtmmfakdncjeoeaaAid.TyAt.set | apply Go.Proofs.YtmmfakdncjeoeaaAid.TyAt.alloc | apply Go.Proofs.YtmmfakdncjeoeaaAid.TyAt.drewN | apply Go.Proofs.YtmmfakdncjeoeaaAid.TyAt.drew))) (by decide) (by decide) _) | exact HI132.out)⟩,⟨by repeat (first | (with_reducible first | exact HB.out | apply below_alloc | apply pw_below_drewN | apply below_drew1 | refine below_set ?_ (IsS143.ge HI132.out) | refine below_set ?_ GE133.out | refine below_set ?_ GE153.out) | exact HB.out)⟩⟩
             ·rw [if_neg c36] at H
              exact absurd H (by simp)
            ·rw [if_neg c35] at H
             exact absurd H (by simp)
           ·rw [if_neg c33] at H
            have c33b0 : decide (0 < x45_2) = false:=decide_eq_false c33
            clear c33
            (first | rw [c33b0] | (simp only [i64_w,i32_w];rw [c33b0]) | skip)
            have H':=Aside0.mk H
            clear H
            go_wp2
            go_meet
            case rel => exact ⟨_,(x6_2),H',⟨by have:=HK1.out;have:=HK2.out;first | omega | exact Nat.le_refl _⟩,⟨by (with_reducible repeat (first | apply Kd.R_alloc | apply Kd.R_drewN | apply Kd.R_drew));exact Kd.R_mono (Kd.R_far (p:=⟨gb153,1,none⟩) (Kd.R_far (p:=⟨gb153,0,none⟩) (Kd.R_types HO_6.out BK153.out (by decide)) (fun _ hk => hk.2) (.int .u64 ((rd_T56 l0 x45_2).f0))) (fun _ hk => hk.2) (.slice A152_1 ((rd_T56 l0 x45_2).f1).length c152_1)) (fun _ hk => trivial)⟩,⟨by (with_reducible repeat (first | refine blk_drewN ?_ _ | refine blk_drew ?_ | refine blk_alloc ?_ _));refine blk_far ?_ NB133_153.out _;(with_reducible repeat (first | refine blk_drewN ?_ _ | refine blk_drew ?_ | refine blk_alloc ?_ _));refine blk_far ?_ NB133_153.out _;(with_reducible repeat (first | refine blk_drewN ?_ _ | refine blk_drew ?_ | refine blk_alloc ?_ _));exact BK133.out⟩,⟨by (with_reducible repeat (first | refine blk_drewN ?_ _ | refine blk_drew ?_ | refine blk_alloc ?_ _));refine blk_put (cs:=#[.int .u64 ((rd_T56 l0 x45_2).f0),.slice none 0 0]) ?_ 1 _ rfl;(with_reducible repeat (first | refine blk_drewN ?_ _ | refine blk_drew ?_ | refine blk_alloc ?_ _));refine blk_put (cs:=#[.int .u64 0,.slice none 0 0]) ?_ 0 _ rfl;(with_reducible repeat (first | refine blk_drewN ?_ _ | refine blk_drew ?_ | refine blk_alloc ?_ _));exact BK153.out⟩,⟨by repeat (first | (with_reducible first | exact HI132.out | apply IsS143.alloc | apply IsS143.drewN | apply IsS143.drew | apply IsS143.set_0 | refine IsS143.farT (t:=119) (a:=gb133) ?_ (by (with_reducible repeat (first | exact Go.Proofs.YtmmfakdncjeoeaaAid.TyAt.mk BK133.out | apply Go.Proofs.YtmmfakdncjeoeaaAid.TyAt.set | apply Go.Proofs.YtmmfakdncjeoeaaAid.TyAt.alloc | apply Go.Proofs.YtmmfakdncjeoeaaAid.TyAt.drewN | apply Go.Proofs.YtmmfakdncjeoeaaAid.TyAt.drew))) (by decide) (by decide) _ | refine IsS143.farT (t:=56) (a:=gb153) ?_ (by (with_reducible repeat (first | exact Go.Proofs.YtmmfakdncjeoeaaAid.TyAt.mk BK153.out | apply Go.Proofs.YtmmfakdncjeoeaaAid.TyAt.set | apply Go.Proofs.YtmmfakdncjeoeaaAid.TyAt.alloc | apply Go.Proofs.YtmmfakdncjeoeaaAid.TyAt.drewN | apply Go.Proofs.YtmmfakdncjeoeaaAid.TyAt.drew))) (by decide) (by decide) _) | exact HI132.out)⟩,⟨by repeat (first | (with_reducible first | exact HB.out | apply below_alloc | apply pw_below_drewN | apply below_drew1 | refine below_set ?_ (IsS143.ge HI132.out) | refine below_set ?_ GE133.out | refine below_set ?_ GE153.out) | exact HB.out)⟩⟩
          case rest =>
           clear HC28
           (try clear c1);(try clear p1);(try clear q1);(try clear hx1);(try clear qi1);(try clear c2);(try clear p2);(try clear c3);(try clear c4);(try clear c4b0);(try clear c4b1);(try clear c5);(try clear c6);(try clear p6);(try clear c10);(try clear c13);(try clear p13);(try clear q13);(try clear hx13);(try clear qi13);(try clear p14);(try clear q14);(try clear hx14);(try clear c15);(try clear p15);(try clear q15);(try clear hx15);(try clear c19);(try clear c19b0);(try clear c20);(try clear c20b0);(try clear c21);(try clear c21b0);(try clear c25);(try clear c25b0);(try clear c26);(try clear c26b0);(try clear c27);(try clear c27b0);(try clear c30);(try clear c31);(try clear c33);(try clear c33b0);(try clear c35);(try clear c35b0);(try clear c36);(try clear c36b0);(try clear c39);(try clear hcz11_0);(try clear hcz11_1);(try clear hcz11_2);(try clear hcz32_0);(try clear hcz32_1);(try clear hfz11_0);(try clear hfz11_1);(try clear hfz11_2);(try clear hfz32_0);(try clear hfz32_1);(try clear hx138_0);(try clear hx138_1);(try clear hx148_0);(try clear hx152_0);(try clear hx152_1);(try clear hx154_0);(try clear hx154_1);(try clear p1);(try clear p13);(try clear p138);(try clear p14);(try clear p148);(try clear p152);(try clear p154);(try clear p2);(try clear p6);(try clear q1);(try clear q13);(try clear q138);(try clear q14);(try clear q148);(try clear q152);(try clear q154)
           obtain ⟨kq,x6_27,HA,HJ27,HO_6,BK133,BK153,HI132,HB⟩:=hcut
           cases kq with
           | zero => exact absurd HA.out (by simp [block_payload.j2])
           | succ kj27 =>
            have H:=HA.out
            clear HA
            simp only [block_payload.j2] at H
            replace H:=Option.bind_eq_some_iff.mp H
            obtain ⟨t158,A420,H⟩:=H
            replace H : (block_payload.l2 kj27 l0 t158 l0 (l0.length : Int) x45_2 ((rd_T56 l0 x45_2).f1) (((rd_T56 l0 x45_2).f1).length : Int) 0 x133000_2) = some r:=H
            have A42:=Aside0.mk A420
            clear A420
            have H':=Aside0.mk H
            clear H
            have hnb43:=NB153_133.out
            have hnc43:=NB133_153.out
            have hnb44:=NB153_132.out
            have hnc44:=NB132_153.out
            have hcz45_0 : wc.cell? ⟨gb153,0,none⟩ = some (.int .u64 ((rd_T56 l0 x45_2).f0)):=(blk_cell BK153.out 0).trans rfl
            have hcz45_1 : wc.cell? ⟨gb153,1,none⟩ = some (.slice A152_1 ((rd_T56 l0 x45_2).f1).length c152_1):=(blk_cell BK153.out 1).trans rfl
            have hfz45_0:=blk_frozen BK153.out 0
            have hfz45_1:=blk_frozen BK153.out 1
            obtain ⟨Ao46,co46,eo46⟩:=Kd.R_slice HO_6.out
            subst eo46
            go_wp2_with (first | ((with_reducible refine gate_callee (f:=60) rfl ?_);refine goesL_ (some 68) rfl rfl Try.func60 (by kernel_rfl) rfl #[.slice Ao46 x6_27.length co46,.int .u64 (IntKind.u64.wrap ((((rd_T56 l0 x45_2).f1).length : Int)))] rfl (by (try simp only [List.map_toArray,List.map_cons,List.map_nil]);first | done | rfl | (simp only [List.length_drop,List.length_take];rfl)) ?_;(with_reducible refine (wire_Put.calls _ _ x6_27 (IntKind.u64.wrap ((((rd_T56 l0 x45_2).f1).length : Int))) t158 _ ?side1 ?side2 A42.out).mono ?_);(case side1 => repeat (first | exact (Kd.R_reads' HO_6.out).2.2 | (with_reducible refine Kd.C_alloc ?_ _) | (with_reducible refine Kd.C_drewN ?_ _) | (with_reducible refine Kd.C_drew ?_)));(case side2 => exact (Kd.R_reads' HO_6.out).2.1);rintro e w47 ⟨v159,rfl,ho0,hb⟩;refine ⟨_,rfl,?_⟩;have n0_:=Aside0.mk (Kd.R_elder' (by (with_reducible repeat (first | apply Kd.R_alloc | apply Kd.R_drewN | apply Kd.R_drew));exact HO_6.out) (Kd.R_base ho0) hb);have n1_:=Aside0.mk (Kd.R_lower (Kd.R_new' ho0 (Kd.R_lt (by (with_reducible repeat (first | apply Kd.R_alloc | apply Kd.R_drewN | apply Kd.R_drew));exact HO_6.out))) (below_size (by repeat (first | (with_reducible first | exact HB.out | apply below_alloc | apply pw_below_drewN | apply below_drew1 | refine below_set ?_ (IsS143.ge HI132.out) | refine below_set ?_ GE133.out | refine below_set ?_ GE153.out) | exact HB.out))));have n2_:=Aside0.mk (blk_below (g:=gb133) (o:=.cells #[.nilFunc,.func (.func 75) #[] #[],.func (.func 77) #[] #[]] 119 (0,0)) (by (with_reducible repeat (first | refine blk_drewN ?_ _ | refine blk_drew ?_ | refine blk_alloc ?_ _));exact BK133.out) hb);have n3_:=Aside0.mk (blk_below (g:=gb153) (o:=.cells #[.int .u64 ((rd_T56 l0 x45_2).f0),.slice A152_1 ((rd_T56 l0 x45_2).f1).length c152_1] 56 (0,0)) (by (with_reducible repeat (first | refine blk_drewN ?_ _ | refine blk_drew ?_ | refine blk_alloc ?_ _));exact BK153.out) hb);have n4_:=Aside0.mk (IsS143.below (by repeat (first | (with_reducible first | exact HI132.out | apply IsS143.alloc | apply IsS143.drewN | apply IsS143.drew | apply IsS143.set_0 | refine IsS143.farT (t:=119) (a:=gb133) ?_ (by (with_reducible repeat (first | exact Go.Proofs.YtmmfakdncjeoeaaAid.TyAt.mk BK133.out | apply Go.Proofs.YtmmfakdncjeoeaaAid.TyAt.set | apply Go.Proofs.YtmmfakdncjeoeaaAid.TyAt.alloc | apply Go.Proofs.YtmmfakdncjeoeaaAid.TyAt.drewN | apply Go.Proofs.YtmmfakdncjeoeaaAid.TyAt.drew))) (by decide) (by decide) _ | refine IsS143.farT (t:=56) (a:=gb153) ?_ (by (with_reducible repeat (first | exact Go.Proofs.YtmmfakdncjeoeaaAid.TyAt.mk BK153.out | apply Go.Proofs.YtmmfakdncjeoeaaAid.TyAt.set | apply Go.Proofs.YtmmfakdncjeoeaaAid.TyAt.alloc | apply Go.Proofs.YtmmfakdncjeoeaaAid.TyAt.drewN | apply Go.Proofs.YtmmfakdncjeoeaaAid.TyAt.drew))) (by decide) (by decide) _) | exact HI132.out)) hb);have n5_:=Aside0.mk (below_step (by repeat (first | (with_reducible first | exact HB.out | apply below_alloc | apply pw_below_drewN | apply below_drew1 | refine below_set ?_ (IsS143.ge HI132.out) | refine below_set ?_ GE133.out | refine below_set ?_ GE153.out) | exact HB.out)) hb);clear HO_6;clear BK133;clear BK153;clear HI132;clear HB;have HO_6:=n0_;have HO160:=n1_;have BK133:=n2_;have BK153:=n3_;have HI132:=n4_;have HB:=n5_;clear n0_ n1_ n2_ n3_ n4_ n5_;(try clear hb);(try clear hb2);(try clear hk);(try clear hi);(try clear ho0);have hcz48_0 : w47.cell? ⟨gb153,0,none⟩ = some (.int .u64 ((rd_T56 l0 x45_2).f0)):=(blk_cell BK153.out 0).trans rfl;have hcz48_1 : w47.cell? ⟨gb153,1,none⟩ = some (.slice A152_1 ((rd_T56 l0 x45_2).f1).length c152_1):=(blk_cell BK153.out 1).trans rfl;have hfz48_0:=blk_frozen BK153.out 0;have hfz48_1:=blk_frozen BK153.out 1))
            go_loopg [6,72] kj27 (fun kq v6 v72 w' => ∃ (x6_4 : List Int) (x72_4 : Int) (x133000_4 : ByteArray),v72 = .int .i64 x72_4 ∧ Aside0 (block_payload.l2 kq l0 x6_4 l0 (l0.length : Int) x45_2 ((rd_T56 l0 x45_2).f1) (((rd_T56 l0 x45_2).f1).length : Int) x72_4 x133000_4 = some r) ∧ Aside0 (kq ≤ kj27) ∧ Aside0 (Kd.R (Kd.int .u8) 5 w' w.heap.size (fun _ => True) v6 x6_4) ∧ Aside0 (w'.heap[gb133]? = some (.cells #[.nilFunc,.func (.func 75) #[] #[],.func (.func 77) #[] #[]] 119 (0,0))) ∧ Aside0 (w'.heap[gb153]? = some (.cells #[.int .u64 ((rd_T56 l0 x45_2).f0),(.slice A152_1 ((rd_T56 l0 x45_2).f1).length c152_1)] 56 (0,0))) ∧ Aside0 (IsS143 w w' g132 x133000_4) ∧ Aside0 (Below w.heap.size w w'))
            case atStart => exact ⟨(t158),(0),(x133000_2),(by first | rfl | (simp;done) | (simp [*];done)),H',⟨Nat.le_refl _⟩,⟨by (with_reducible repeat (first | apply Kd.R_alloc | apply Kd.R_drewN | apply Kd.R_drew));exact Kd.R_mono HO160.out (fun _ hk => trivial)⟩,⟨by (with_reducible repeat (first | refine blk_drewN ?_ _ | refine blk_drew ?_ | refine blk_alloc ?_ _));exact BK133.out⟩,⟨by (with_reducible repeat (first | refine blk_drewN ?_ _ | refine blk_drew ?_ | refine blk_alloc ?_ _));exact BK153.out⟩,⟨by repeat (first | (with_reducible first | exact HI132.out | apply IsS143.alloc | apply IsS143.drewN | apply IsS143.drew | apply IsS143.set_0 | refine IsS143.farT (t:=119) (a:=gb133) ?_ (by (with_reducible repeat (first | exact Go.Proofs.YtmmfakdncjeoeaaAid.TyAt.mk BK133.out | apply Go.Proofs.YtmmfakdncjeoeaaAid.TyAt.set | apply Go.Proofs.YtmmfakdncjeoeaaAid.TyAt.alloc | apply Go.Proofs.YtmmfakdncjeoeaaAid.TyAt.drewN | apply Go.Proofs.YtmmfakdncjeoeaaAid.TyAt.drew))) (by decide) (by decide) _ | refine IsS143.farT (t:=56) (a:=gb153) ?_ (by (with_reducible repeat (first | exact Go.Proofs.YtmmfakdncjeoeaaAid.TyAt.mk BK153.out | apply Go.Proofs.YtmmfakdncjeoeaaAid.TyAt.set | apply Go.Proofs.YtmmfakdncjeoeaaAid.TyAt.alloc | apply Go.Proofs.YtmmfakdncjeoeaaAid.TyAt.drewN | apply Go.Proofs.YtmmfakdncjeoeaaAid.TyAt.drew))) (by decide) (by decide) _) | exact HI132.out)⟩,⟨by repeat (first | (with_reducible first | exact HB.out | apply below_alloc | apply pw_below_drewN | apply below_drew1 | refine below_set ?_ (IsS143.ge HI132.out) | refine below_set ?_ GE133.out | refine below_set ?_ GE153.out) | exact HB.out)⟩⟩
            case round =>
             clear H'
             (try clear c1);(try clear p1);(try clear q1);(try clear hx1);(try clear qi1);(try clear c2);(try clear p2);(try clear c3);(try clear c4);(try clear c4b0);(try clear c4b1);(try clear c5);(try clear c6);(try clear p6);(try clear c10);(try clear c13);(try clear p13);(try clear q13);(try clear hx13);(try clear qi13);(try clear p14);(try clear q14);(try clear hx14);(try clear c15);(try clear p15);(try clear q15);(try clear hx15);(try clear c19);(try clear c19b0);(try clear c20);(try clear c20b0);(try clear c21);(try clear c21b0);(try clear c25);(try clear c25b0);(try clear c26);(try clear c26b0);(try clear c27);(try clear c27b0);(try clear c30);(try clear c31);(try clear c33);(try clear c33b0);(try clear c35);(try clear c35b0);(try clear c36);(try clear c36b0);(try clear c39);(try clear c43);(try clear c44);(try clear hcz11_0);(try clear hcz11_1);(try clear hcz11_2);(try clear hcz32_0);(try clear hcz32_1);(try clear hcz45_0);(try clear hcz45_1);(try clear hcz48_0);(try clear hcz48_1);(try clear hfz11_0);(try clear hfz11_1);(try clear hfz11_2);(try clear hfz32_0);(try clear hfz32_1);(try clear hfz45_0);(try clear hfz45_1);(try clear hfz48_0);(try clear hfz48_1);(try clear hx138_0);(try clear hx138_1);(try clear hx148_0);(try clear hx152_0);(try clear hx152_1);(try clear hx154_0);(try clear hx154_1);(try clear p1);(try clear p13);(try clear p138);(try clear p14);(try clear p148);(try clear p15);(try clear p152);(try clear p154);(try clear p2);(try clear p6);(try clear q1);(try clear q13);(try clear q138);(try clear q14);(try clear q148);(try clear q15);(try clear q152);(try clear q154)
             obtain ⟨x6_4,x72_4,x133000_4,rfl,HA,HK4,HO_6,BK133,BK153,HI132,HB⟩:=hrel
             cases gk with
             | zero => exact absurd HA.out (by simp [block_payload.l2])
             | succ k4 =>
              have H:=HA.out
              clear HA
              simp only [block_payload.l2] at H
              by_cases c49 : x72_4 < (((rd_T56 l0 x45_2).f1).length : Int)
              ·rw [if_pos c49] at H
               have c49b0 : decide (x72_4 < (((rd_T56 l0 x45_2).f1).length : Int)) = true:=decide_eq_true c49
               clear c49
               by_cases c50 : 0 ≤ x72_4
               ·rw [if_pos c50] at H
                have c50b0 : decide (0 ≤ x72_4) = true:=decide_eq_true c50
                clear c50
                by_cases c51 : x72_4 < (((rd_T56 l0 x45_2).f1).length : Int)
                ·rw [if_pos c51] at H
                 have c51b0 : decide (x72_4 < (((rd_T56 l0 x45_2).f1).length : Int)) = true:=decide_eq_true c51
                 clear c51
                 replace H:=Option.bind_eq_some_iff.mp H
                 obtain ⟨t163,A520,H⟩:=H
                 replace H : (block_payload.l3 k4 l0 t163 l0 (l0.length : Int) x45_2 ((rd_T56 l0 x45_2).f1) (((rd_T56 l0 x45_2).f1).length : Int) x72_4 ((rd_T59 ((rd_T56 l0 x45_2).f1) x72_4).f1) (((rd_T59 ((rd_T56 l0 x45_2).f1) x72_4).f1).length : Int) 0 x133000_4) = some r:=H
                 have A52:=Aside0.mk A520
                 clear A520
                 have H':=Aside0.mk H
                 clear H
                 have p161 : 0 ≤ (x72_4 : Int):=of_decide_eq_true (by first | (with_reducible assumption) | assumption)
                 have q161 : x72_4 < (((rd_T56 l0 x45_2).f1).length : Int):=of_decide_eq_true (by first | (with_reducible assumption) | assumption)
                 obtain ⟨ad161,A161_1,c161_1,e161,hx161_0,hx161_1,hl161_1,hi161_1⟩:=at_T59 HR152_1.out x72_4 p161 q161
                 cases e161
                 replace hx161_0:=(HB.out.cell (World.block_lt_of_cell? w _ hx161_0)).trans hx161_0
                 replace hx161_1:=(HB.out.cell (World.block_lt_of_cell? w _ hx161_1)).trans hx161_1
                 have HR161_1:=Aside0.mk hi161_1
                 have HC161_1:=Aside0.mk hl161_1
                 clear hi161_1 hl161_1
                 replace p161:=eq_true p161
                 replace q161:=eq_true q161
                 go_wp2_with (first | ((with_reducible refine gate_dst (N:=12) rfl ?_);refine box_event ?hg (N:=12) ?hd (cs:=#[.int .i64 0,.slice none 0 0]) (t:=59) ?hr ?_;(case hd => rfl);(case hg => rfl);(case hr => first | (go_simp;done) | (go_simp;rfl));intro gb162 hg w53 hbox hb;have n0_:=Aside0.mk (Kd.R_below (by (with_reducible repeat (first | apply Kd.R_alloc | apply Kd.R_drewN | apply Kd.R_drew));exact HO_6.out) hb);have n1_:=Aside0.mk (blk_below (g:=gb133) (o:=.cells #[.nilFunc,.func (.func 75) #[] #[],.func (.func 77) #[] #[]] 119 (0,0)) (by (with_reducible repeat (first | refine blk_drewN ?_ _ | refine blk_drew ?_ | refine blk_alloc ?_ _));exact BK133.out) hb);have n2_:=Aside0.mk (blk_below (g:=gb153) (o:=.cells #[.int .u64 ((rd_T56 l0 x45_2).f0),.slice (some ad161) ((rd_T56 l0 x45_2).f1).length c152_1] 56 (0,0)) (by (with_reducible repeat (first | refine blk_drewN ?_ _ | refine blk_drew ?_ | refine blk_alloc ?_ _));exact BK153.out) hb);have n3_:=Aside0.mk (IsS143.below (by repeat (first | (with_reducible first | exact HI132.out | apply IsS143.alloc | apply IsS143.drewN | apply IsS143.drew | apply IsS143.set_0 | refine IsS143.farT (t:=119) (a:=gb133) ?_ (by (with_reducible repeat (first | exact Go.Proofs.YtmmfakdncjeoeaaAid.TyAt.mk BK133.out | apply Go.Proofs.YtmmfakdncjeoeaaAid.TyAt.set | apply Go.Proofs.YtmmfakdncjeoeaaAid.TyAt.alloc | apply Go.Proofs.YtmmfakdncjeoeaaAid.TyAt.drewN | apply Go.Proofs.YtmmfakdncjeoeaaAid.TyAt.drew))) (by decide) (by decide) _ | refine IsS143.farT (t:=56) (a:=gb153) ?_ (by (with_reducible repeat (first | exact Go.Proofs.YtmmfakdncjeoeaaAid.TyAt.mk BK153.out | apply Go.Proofs.YtmmfakdncjeoeaaAid.TyAt.set | apply Go.Proofs.YtmmfakdncjeoeaaAid.TyAt.alloc | apply Go.Proofs.YtmmfakdncjeoeaaAid.TyAt.drewN | apply Go.Proofs.YtmmfakdncjeoeaaAid.TyAt.drew))) (by decide) (by decide) _) | exact HI132.out)) hb);have n4_:=Aside0.mk (below_step (by repeat (first | (with_reducible first | exact HB.out | apply below_alloc | apply pw_below_drewN | apply below_drew1 | refine below_set ?_ (IsS143.ge HI132.out) | refine below_set ?_ GE133.out | refine below_set ?_ GE153.out) | exact HB.out)) hb);have n5_:=Aside0.mk (hbox);have n6_:=Aside0.mk ((by rw [hg];exact (below_size (by repeat (first | (with_reducible first | exact HB.out | apply below_alloc | apply pw_below_drewN | apply below_drew1 | refine below_set ?_ (IsS143.ge HI132.out) | refine below_set ?_ GE133.out | refine below_set ?_ GE153.out) | exact HB.out))) : w.heap.size ≤ gb162));have n7_:=Aside0.mk ((by rw [hg];exact (below_size (by repeat (first | (with_reducible first | exact HB.out | apply below_alloc | apply pw_below_drewN | apply below_drew1 | refine below_set ?_ (IsS143.ge HI132.out) | refine below_set ?_ GE133.out | refine below_set ?_ GE153.out) | exact HB.out))) : w.heap.size ≤ gb162));have n8_:=Aside0.mk ((by rw [hg];exact Nat.ne_of_lt (blk_lt (g:=gb133) (o:=.cells #[.nilFunc,.func (.func 75) #[] #[],.func (.func 77) #[] #[]] 119 (0,0)) (by (with_reducible repeat (first | refine blk_drewN ?_ _ | refine blk_drew ?_ | refine blk_alloc ?_ _));exact BK133.out)) : gb133 ≠ gb162));have n9_:=Aside0.mk ((by rw [hg];exact Nat.ne_of_gt (blk_lt (g:=gb133) (o:=.cells #[.nilFunc,.func (.func 75) #[] #[],.func (.func 77) #[] #[]] 119 (0,0)) (by (with_reducible repeat (first | refine blk_drewN ?_ _ | refine blk_drew ?_ | refine blk_alloc ?_ _));exact BK133.out)) : gb162 ≠ gb133));have n10_:=Aside0.mk ((by rw [hg];exact Nat.ne_of_lt (blk_lt (g:=gb153) (o:=.cells #[.int .u64 ((rd_T56 l0 x45_2).f0),.slice (some ad161) ((rd_T56 l0 x45_2).f1).length c152_1] 56 (0,0)) (by (with_reducible repeat (first | refine blk_drewN ?_ _ | refine blk_drew ?_ | refine blk_alloc ?_ _));exact BK153.out)) : gb153 ≠ gb162));have n11_:=Aside0.mk ((by rw [hg];exact Nat.ne_of_gt (blk_lt (g:=gb153) (o:=.cells #[.int .u64 ((rd_T56 l0 x45_2).f0),.slice (some ad161) ((rd_T56 l0 x45_2).f1).length c152_1] 56 (0,0)) (by (with_reducible repeat (first | refine blk_drewN ?_ _ | refine blk_drew ?_ | refine blk_alloc ?_ _));exact BK153.out)) : gb162 ≠ gb153));have n12_:=Aside0.mk ((by rw [hg];exact Nat.ne_of_lt (IsS143.lt (show IsS143 w _ g132 x133000_4 from by repeat (first | (with_reducible first | exact HI132.out | apply IsS143.alloc | apply IsS143.drewN | apply IsS143.drew | apply IsS143.set_0 | refine IsS143.farT (t:=119) (a:=gb133) ?_ (by (with_reducible repeat (first | exact Go.Proofs.YtmmfakdncjeoeaaAid.TyAt.mk BK133.out | apply Go.Proofs.YtmmfakdncjeoeaaAid.TyAt.set | apply Go.Proofs.YtmmfakdncjeoeaaAid.TyAt.alloc | apply Go.Proofs.YtmmfakdncjeoeaaAid.TyAt.drewN | apply Go.Proofs.YtmmfakdncjeoeaaAid.TyAt.drew))) (by decide) (by decide) _ | refine IsS143.farT (t:=56) (a:=gb153) ?_ (by (with_reducible repeat (first | exact Go.Proofs.YtmmfakdncjeoeaaAid.TyAt.mk BK153.out | apply Go.Proofs.YtmmfakdncjeoeaaAid.TyAt.set | apply Go.Proofs.YtmmfakdncjeoeaaAid.TyAt.alloc | apply Go.Proofs.YtmmfakdncjeoeaaAid.TyAt.drewN | apply Go.Proofs.YtmmfakdncjeoeaaAid.TyAt.drew))) (by decide) (by decide) _) | exact HI132.out))) : g132 ≠ gb162));have n13_:=Aside0.mk ((by rw [hg];exact Nat.ne_of_gt (IsS143.lt (show IsS143 w _ g132 x133000_4 from by repeat (first | (with_reducible first | exact HI132.out | apply IsS143.alloc | apply IsS143.drewN | apply IsS143.drew | apply IsS143.set_0 | refine IsS143.farT (t:=119) (a:=gb133) ?_ (by (with_reducible repeat (first | exact Go.Proofs.YtmmfakdncjeoeaaAid.TyAt.mk BK133.out | apply Go.Proofs.YtmmfakdncjeoeaaAid.TyAt.set | apply Go.Proofs.YtmmfakdncjeoeaaAid.TyAt.alloc | apply Go.Proofs.YtmmfakdncjeoeaaAid.TyAt.drewN | apply Go.Proofs.YtmmfakdncjeoeaaAid.TyAt.drew))) (by decide) (by decide) _ | refine IsS143.farT (t:=56) (a:=gb153) ?_ (by (with_reducible repeat (first | exact Go.Proofs.YtmmfakdncjeoeaaAid.TyAt.mk BK153.out | apply Go.Proofs.YtmmfakdncjeoeaaAid.TyAt.set | apply Go.Proofs.YtmmfakdncjeoeaaAid.TyAt.alloc | apply Go.Proofs.YtmmfakdncjeoeaaAid.TyAt.drewN | apply Go.Proofs.YtmmfakdncjeoeaaAid.TyAt.drew))) (by decide) (by decide) _) | exact HI132.out))) : gb162 ≠ g132));clear HO_6;clear BK133;clear BK153;clear HI132;clear HB;have HO_6:=n0_;have BK133:=n1_;have BK153:=n2_;have HI132:=n3_;have HB:=n4_;have BK162:=n5_;have GW162:=n6_;have GE162:=n7_;have NB133_162:=n8_;have NB162_133:=n9_;have NB153_162:=n10_;have NB162_153:=n11_;have NB132_162:=n12_;have NB162_132:=n13_;clear n0_ n1_ n2_ n3_ n4_ n5_ n6_ n7_ n8_ n9_ n10_ n11_ n12_ n13_;clear hb hbox hg;have hnb54:=NB162_133.out;have hnc54:=NB133_162.out;have hnb55:=NB162_153.out;have hnc55:=NB153_162.out;have hnb56:=NB162_132.out;have hnc56:=NB132_162.out;have hcz57_0 : w53.cell? ⟨gb162,0,none⟩ = some (.int .i64 0):=(blk_cell BK162.out 0).trans rfl;have hcz57_1 : w53.cell? ⟨gb162,1,none⟩ = some (.slice none 0 0):=(blk_cell BK162.out 1).trans rfl;have hfz57_0:=blk_frozen BK162.out 0;have hfz57_1:=blk_frozen BK162.out 1;obtain ⟨Ao58,co58,eo58⟩:=Kd.R_slice HO_6.out;subst eo58) | ((with_reducible refine gate_callee (f:=60) rfl ?_);refine goesL_ (some 80) rfl rfl Try.func60 (by kernel_rfl) rfl #[.slice Ao58 x6_4.length co58,.int .u64 (IntKind.u64.wrap ((rd_T59 ((rd_T56 l0 x45_2).f1) x72_4).f0))] rfl (by (try simp only [List.map_toArray,List.map_cons,List.map_nil]);first | done | rfl | (simp only [List.length_drop,List.length_take];rfl)) ?_;(with_reducible refine (wire_Put.calls _ _ x6_4 (IntKind.u64.wrap ((rd_T59 ((rd_T56 l0 x45_2).f1) x72_4).f0)) t163 _ ?side1 ?side2 A52.out).mono ?_);(case side1 => refine (Kd.R_reads' (e:=5) (base:=w.heap.size) (ok:=fun k_ => True) (n:=x6_4.length) (c:=co58) ?_).2.2;exact (by (with_reducible repeat (first | apply Kd.R_alloc | apply Kd.R_drewN | apply Kd.R_drew));exact (Kd.R_mono (Kd.R_far (p:=⟨gb162,1,none⟩) (Kd.R_far (p:=⟨gb162,0,none⟩) (Kd.R_types HO_6.out BK162.out (by decide)) (fun _ hk => hk.2) (.int .i64 ((rd_T59 ((rd_T56 l0 x45_2).f1) x72_4).f0))) (fun _ hk => hk.2) (.slice A161_1 ((rd_T59 ((rd_T56 l0 x45_2).f1) x72_4).f1).length c161_1)) (fun _ h_ => h_.1))));(case side2 => exact (Kd.R_reads' HO_6.out).2.1);rintro e w59 ⟨v164,rfl,ho0,hb⟩;refine ⟨_,rfl,?_⟩;have n0_:=Aside0.mk (Kd.R_elder' (by (with_reducible repeat (first | apply Kd.R_alloc | apply Kd.R_drewN | apply Kd.R_drew));exact (Kd.R_mono (Kd.R_far (p:=⟨gb162,1,none⟩) (Kd.R_far (p:=⟨gb162,0,none⟩) (Kd.R_types HO_6.out BK162.out (by decide)) (fun _ hk => hk.2) (.int .i64 ((rd_T59 ((rd_T56 l0 x45_2).f1) x72_4).f0))) (fun _ hk => hk.2) (.slice A161_1 ((rd_T59 ((rd_T56 l0 x45_2).f1) x72_4).f1).length c161_1)) (fun _ h_ => h_.1))) (Kd.R_base ho0) hb);have n1_:=Aside0.mk (Kd.R_lower (Kd.R_new' ho0 (Kd.R_lt (by (with_reducible repeat (first | apply Kd.R_alloc | apply Kd.R_drewN | apply Kd.R_drew));exact (Kd.R_mono (Kd.R_far (p:=⟨gb162,1,none⟩) (Kd.R_far (p:=⟨gb162,0,none⟩) (Kd.R_types HO_6.out BK162.out (by decide)) (fun _ hk => hk.2) (.int .i64 ((rd_T59 ((rd_T56 l0 x45_2).f1) x72_4).f0))) (fun _ hk => hk.2) (.slice A161_1 ((rd_T59 ((rd_T56 l0 x45_2).f1) x72_4).f1).length c161_1)) (fun _ h_ => h_.1))))) (below_size (by repeat (first | (with_reducible first | exact HB.out | apply below_alloc | apply pw_below_drewN | apply below_drew1 | refine below_set ?_ (IsS143.ge HI132.out) | refine below_set ?_ GE133.out | refine below_set ?_ GE153.out | refine below_set ?_ GE162.out) | exact HB.out))));have n2_:=Aside0.mk (blk_below (g:=gb133) (o:=.cells #[.nilFunc,.func (.func 75) #[] #[],.func (.func 77) #[] #[]] 119 (0,0)) (by (with_reducible repeat (first | refine blk_drewN ?_ _ | refine blk_drew ?_ | refine blk_alloc ?_ _));refine blk_far ?_ NB133_162.out _;(with_reducible repeat (first | refine blk_drewN ?_ _ | refine blk_drew ?_ | refine blk_alloc ?_ _));refine blk_far ?_ NB133_162.out _;(with_reducible repeat (first | refine blk_drewN ?_ _ | refine blk_drew ?_ | refine blk_alloc ?_ _));exact BK133.out) hb);have n3_:=Aside0.mk (blk_below (g:=gb153) (o:=.cells #[.int .u64 ((rd_T56 l0 x45_2).f0),.slice (some ad161) ((rd_T56 l0 x45_2).f1).length c152_1] 56 (0,0)) (by (with_reducible repeat (first | refine blk_drewN ?_ _ | refine blk_drew ?_ | refine blk_alloc ?_ _));refine blk_far ?_ NB153_162.out _;(with_reducible repeat (first | refine blk_drewN ?_ _ | refine blk_drew ?_ | refine blk_alloc ?_ _));refine blk_far ?_ NB153_162.out _;(with_reducible repeat (first | refine blk_drewN ?_ _ | refine blk_drew ?_ | refine blk_alloc ?_ _));exact BK153.out) hb);have n4_:=Aside0.mk (IsS143.below (show IsS143 w ((w53.setCell ⟨gb162,0,none⟩ (.int .i64 ((rd_T59 ((rd_T56 l0 x45_2).f1) x72_4).f0))).setCell ⟨gb162,1,none⟩ (.slice A161_1 ((rd_T59 ((rd_T56 l0 x45_2).f1) x72_4).f1).length c161_1)) g132 x133000_4 from by repeat (first | (with_reducible first | exact HI132.out | apply IsS143.alloc | apply IsS143.drewN | apply IsS143.drew | apply IsS143.set_0 | refine IsS143.farT (t:=119) (a:=gb133) ?_ (by (with_reducible repeat (first | exact Go.Proofs.YtmmfakdncjeoeaaAid.TyAt.mk BK133.out | apply Go.Proofs.YtmmfakdncjeoeaaAid.TyAt.set | apply Go.Proofs.YtmmfakdncjeoeaaAid.TyAt.alloc | apply Go.Proofs.YtmmfakdncjeoeaaAid.TyAt.drewN | apply Go.Proofs.YtmmfakdncjeoeaaAid.TyAt.drew))) (by decide) (by decide) _ | refine IsS143.farT (t:=56) (a:=gb153) ?_ (by (with_reducible repeat (first | exact Go.Proofs.YtmmfakdncjeoeaaAid.TyAt.mk BK153.out | apply Go.Proofs.YtmmfakdncjeoeaaAid.TyAt.set | apply Go.Proofs.YtmmfakdncjeoeaaAid.TyAt.alloc | apply Go.Proofs.YtmmfakdncjeoeaaAid.TyAt.drewN | apply Go.Proofs.YtmmfakdncjeoeaaAid.TyAt.drew))) (by decide) (by decide) _ | refine IsS143.farT (t:=59) (a:=gb162) ?_ (by (with_reducible repeat (first | exact Go.Proofs.YtmmfakdncjeoeaaAid.TyAt.mk BK162.out | apply Go.Proofs.YtmmfakdncjeoeaaAid.TyAt.set | apply Go.Proofs.YtmmfakdncjeoeaaAid.TyAt.alloc | apply Go.Proofs.YtmmfakdncjeoeaaAid.TyAt.drewN | apply Go.Proofs.YtmmfakdncjeoeaaAid.TyAt.drew))) (by decide) (by decide) _) | exact HI132.out)) hb);have n5_:=Aside0.mk (blk_below (g:=gb162) (o:=.cells #[.int .i64 ((rd_T59 ((rd_T56 l0 x45_2).f1) x72_4).f0),.slice A161_1 ((rd_T59 ((rd_T56 l0 x45_2).f1) x72_4).f1).length c161_1] 59 (0,0)) (by (with_reducible repeat (first | refine blk_drewN ?_ _ | refine blk_drew ?_ | refine blk_alloc ?_ _));refine blk_put (cs:=#[.int .i64 ((rd_T59 ((rd_T56 l0 x45_2).f1) x72_4).f0),.slice none 0 0]) ?_ 1 _ rfl;(with_reducible repeat (first | refine blk_drewN ?_ _ | refine blk_drew ?_ | refine blk_alloc ?_ _));refine blk_put (cs:=#[.int .i64 0,.slice none 0 0]) ?_ 0 _ rfl;(with_reducible repeat (first | refine blk_drewN ?_ _ | refine blk_drew ?_ | refine blk_alloc ?_ _));exact BK162.out) hb);have n6_:=Aside0.mk (below_step (by repeat (first | (with_reducible first | exact HB.out | apply below_alloc | apply pw_below_drewN | apply below_drew1 | refine below_set ?_ (IsS143.ge HI132.out) | refine below_set ?_ GE133.out | refine below_set ?_ GE153.out | refine below_set ?_ GE162.out) | exact HB.out)) hb);clear HO_6;clear BK133;clear BK153;clear HI132;clear BK162;clear HB;have HO_6:=n0_;have HO165:=n1_;have BK133:=n2_;have BK153:=n3_;have HI132:=n4_;have BK162:=n5_;have HB:=n6_;clear n0_ n1_ n2_ n3_ n4_ n5_ n6_;(try clear hb);(try clear hb2);(try clear hk);(try clear hi);(try clear ho0);have hcz60_0 : w59.cell? ⟨gb162,0,none⟩ = some (.int .i64 ((rd_T59 ((rd_T56 l0 x45_2).f1) x72_4).f0)):=(blk_cell BK162.out 0).trans rfl;have hcz60_1 : w59.cell? ⟨gb162,1,none⟩ = some (.slice A161_1 ((rd_T59 ((rd_T56 l0 x45_2).f1) x72_4).f1).length c161_1):=(blk_cell BK162.out 1).trans rfl;have hfz60_0:=blk_frozen BK162.out 0;have hfz60_1:=blk_frozen BK162.out 1))
                 go_loopg [6,84] k4 (fun kq v6 v84 w' => ∃ (x6_5 : List Int) (x84_5 : Int) (x133000_5 : ByteArray),v84 = .int .i64 x84_5 ∧ Aside0 (block_payload.l3 kq l0 x6_5 l0 (l0.length : Int) x45_2 ((rd_T56 l0 x45_2).f1) (((rd_T56 l0 x45_2).f1).length : Int) x72_4 ((rd_T59 ((rd_T56 l0 x45_2).f1) x72_4).f1) (((rd_T59 ((rd_T56 l0 x45_2).f1) x72_4).f1).length : Int) x84_5 x133000_5 = some r) ∧ Aside0 (kq ≤ k4) ∧ Aside0 (Kd.R (Kd.int .u8) 5 w' w.heap.size (fun _ => True) v6 x6_5) ∧ Aside0 (w'.heap[gb133]? = some (.cells #[.nilFunc,.func (.func 75) #[] #[],.func (.func 77) #[] #[]] 119 (0,0))) ∧ Aside0 (w'.heap[gb153]? = some (.cells #[.int .u64 ((rd_T56 l0 x45_2).f0),(.slice (some ad161) ((rd_T56 l0 x45_2).f1).length c152_1)] 56 (0,0))) ∧ Aside0 (w'.heap[gb162]? = some (.cells #[.int .i64 ((rd_T59 ((rd_T56 l0 x45_2).f1) x72_4).f0),(.slice A161_1 ((rd_T59 ((rd_T56 l0 x45_2).f1) x72_4).f1).length c161_1)] 59 (0,0))) ∧ Aside0 (IsS143 w w' g132 x133000_5) ∧ Aside0 (Below w.heap.size w w'))
                 case atStart => exact ⟨(t163),(0),(x133000_4),(by first | rfl | (simp;done) | (simp [*];done)),H',⟨Nat.le_refl _⟩,⟨by (with_reducible repeat (first | apply Kd.R_alloc | apply Kd.R_drewN | apply Kd.R_drew));exact Kd.R_mono HO165.out (fun _ hk => trivial)⟩,⟨by (with_reducible repeat (first | refine blk_drewN ?_ _ | refine blk_drew ?_ | refine blk_alloc ?_ _));exact BK133.out⟩,⟨by (with_reducible repeat (first | refine blk_drewN ?_ _ | refine blk_drew ?_ | refine blk_alloc ?_ _));exact BK153.out⟩,⟨by (with_reducible repeat (first | refine blk_drewN ?_ _ | refine blk_drew ?_ | refine blk_alloc ?_ _));exact BK162.out⟩,⟨by repeat (first | (with_reducible first | exact HI132.out | apply IsS143.alloc | apply IsS143.drewN | apply IsS143.drew | apply IsS143.set_0 | refine IsS143.farT (t:=119) (a:=gb133) ?_ (by (with_reducible repeat (first | exact Go.Proofs.YtmmfakdncjeoeaaAid.TyAt.mk BK133.out | apply Go.Proofs.YtmmfakdncjeoeaaAid.TyAt.set | apply Go.Proofs.YtmmfakdncjeoeaaAid.TyAt.alloc | apply Go.Proofs.YtmmfakdncjeoeaaAid.TyAt.drewN | apply Go.Proofs.YtmmfakdncjeoeaaAid.TyAt.drew))) (by decide) (by decide) _ | refine IsS143.farT (t:=56) (a:=gb153) ?_ (by (with_reducible repeat (first | exact Go.Proofs.YtmmfakdncjeoeaaAid.TyAt.mk BK153.out | apply Go.Proofs.YtmmfakdncjeoeaaAid.TyAt.set | apply Go.Proofs.YtmmfakdncjeoeaaAid.TyAt.alloc | apply Go.Proofs.YtmmfakdncjeoeaaAid.TyAt.drewN | apply Go.Proofs.YtmmfakdncjeoeaaAid.TyAt.drew))) (by decide) (by decide) _ | refine IsS143.farT (t:=59) (a:=gb162) ?_ (by (with_reducible repeat (first | exact Go.Proofs.YtmmfakdncjeoeaaAid.TyAt.mk BK162.out | apply Go.Proofs.YtmmfakdncjeoeaaAid.TyAt.set | apply Go.Proofs.YtmmfakdncjeoeaaAid.TyAt.alloc | apply Go.Proofs.YtmmfakdncjeoeaaAid.TyAt.drewN | apply Go.Proofs.YtmmfakdncjeoeaaAid.TyAt.drew))) (by decide) (by decide) _) | exact HI132.out)⟩,⟨by repeat (first | (with_reducible first | exact HB.out | apply below_alloc | apply pw_below_drewN | apply below_drew1 | refine below_set ?_ (IsS143.ge HI132.out) | refine below_set ?_ GE133.out | refine below_set ?_ GE153.out | refine below_set ?_ GE162.out) | exact HB.out)⟩⟩
                 case round =>
                  clear H'
                  (try clear c1);(try clear p1);(try clear q1);(try clear hx1);(try clear qi1);(try clear c2);(try clear p2);(try clear c3);(try clear c4);(try clear c4b0);(try clear c4b1);(try clear c5);(try clear c6);(try clear p6);(try clear c10);(try clear c13);(try clear p13);(try clear q13);(try clear hx13);(try clear qi13);(try clear p14);(try clear q14);(try clear hx14);(try clear c15);(try clear p15);(try clear q15);(try clear hx15);(try clear c16);(try clear p16);(try clear q16);(try clear hx16);(try clear c19);(try clear c19b0);(try clear c20);(try clear c20b0);(try clear c21);(try clear c21b0);(try clear c25);(try clear c25b0);(try clear c26);(try clear c26b0);(try clear c27);(try clear c27b0);(try clear c30);(try clear c31);(try clear c33);(try clear c33b0);(try clear c35);(try clear c35b0);(try clear c36);(try clear c36b0);(try clear c39);(try clear c43);(try clear c44);(try clear c49);(try clear c49b0);(try clear c50);(try clear c50b0);(try clear c51);(try clear c51b0);(try clear c54);(try clear c55);(try clear c56);(try clear c60);(try clear hcz11_0);(try clear hcz11_1);(try clear hcz11_2);(try clear hcz32_0);(try clear hcz32_1);(try clear hcz45_0);(try clear hcz45_1);(try clear hcz48_0);(try clear hcz48_1);(try clear hcz57_0);(try clear hcz57_1);(try clear hcz60_0);(try clear hcz60_1);(try clear hfz11_0);(try clear hfz11_1);(try clear hfz11_2);(try clear hfz32_0);(try clear hfz32_1);(try clear hfz45_0);(try clear hfz45_1);(try clear hfz48_0);(try clear hfz48_1);(try clear hfz57_0);(try clear hfz57_1);(try clear hfz60_0);(try clear hfz60_1);(try clear hx138_0);(try clear hx138_1);(try clear hx148_0);(try clear hx152_0);(try clear hx152_1);(try clear hx154_0);(try clear hx154_1);(try clear hx161_0);(try clear hx161_1);(try clear p1);(try clear p13);(try clear p138);(try clear p14);(try clear p148);(try clear p15);(try clear p152);(try clear p154);(try clear p161);(try clear p2);(try clear p6);(try clear q1);(try clear q13);(try clear q138);(try clear q14);(try clear q148);(try clear q15);(try clear q152);(try clear q154);(try clear q161)
                  obtain ⟨x6_5,x84_5,x133000_5,rfl,HA,HK5,HO_6,BK133,BK153,BK162,HI132,HB⟩:=hrel
                  cases gk with
                  | zero => exact absurd HA.out (by simp [block_payload.l3])
                  | succ k5 =>
                   have H:=HA.out
                   clear HA
                   simp only [block_payload.l3] at H
                   by_cases c61 : x84_5 < (((rd_T59 ((rd_T56 l0 x45_2).f1) x72_4).f1).length : Int)
                   ·rw [if_pos c61] at H
                    have c61b0 : decide (x84_5 < (((rd_T59 ((rd_T56 l0 x45_2).f1) x72_4).f1).length : Int)) = true:=decide_eq_true c61
                    clear c61
                    by_cases c62 : 0 ≤ x84_5
                    ·rw [if_pos c62] at H
                     have c62b0 : decide (0 ≤ x84_5) = true:=decide_eq_true c62
                     clear c62
                     by_cases c63 : x84_5 < (((rd_T59 ((rd_T56 l0 x45_2).f1) x72_4).f1).length : Int)
                     ·rw [if_pos c63] at H
                      have c63b0 : decide (x84_5 < (((rd_T59 ((rd_T56 l0 x45_2).f1) x72_4).f1).length : Int)) = true:=decide_eq_true c63
                      clear c63
                      replace H:=Option.bind_eq_some_iff.mp H
                      obtain ⟨⟨t168,t169⟩,A640,H⟩:=H
                      replace H : ((wire_Put.f x6_5 t168).bind fun t170 => (block_payload.l3 k5 l0 t170 l0 (l0.length : Int) x45_2 ((rd_T56 l0 x45_2).f1) (((rd_T56 l0 x45_2).f1).length : Int) x72_4 ((rd_T59 ((rd_T56 l0 x45_2).f1) x72_4).f1) (((rd_T59 ((rd_T56 l0 x45_2).f1) x72_4).f1).length : Int) (wrap64 (x84_5 + 1)) t169)) = some r:=H
                      have A64:=Aside0.mk A640
                      clear A640
                      replace H:=Option.bind_eq_some_iff.mp H
                      obtain ⟨t170,A650,H⟩:=H
                      replace H : (block_payload.l3 k5 l0 t170 l0 (l0.length : Int) x45_2 ((rd_T56 l0 x45_2).f1) (((rd_T56 l0 x45_2).f1).length : Int) x72_4 ((rd_T59 ((rd_T56 l0 x45_2).f1) x72_4).f1) (((rd_T59 ((rd_T56 l0 x45_2).f1) x72_4).f1).length : Int) (wrap64 (x84_5 + 1)) t169) = some r:=H
                      have A65:=Aside0.mk A650
                      clear A650
                      have H':=Aside0.mk H
                      clear H
                      have p166 : 0 ≤ (x84_5 : Int):=of_decide_eq_true (by first | (with_reducible assumption) | assumption)
                      have q166 : x84_5 < (((rd_T59 ((rd_T56 l0 x45_2).f1) x72_4).f1).length : Int):=of_decide_eq_true (by first | (with_reducible assumption) | assumption)
                      obtain ⟨ad166,e166,hx166_0,hx166_1,hx166_2⟩:=at_T61 HR161_1.out x84_5 p166 q166
                      cases e166
                      replace hx166_0:=(HB.out.cell (World.block_lt_of_cell? w _ hx166_0)).trans hx166_0
                      replace hx166_1:=(HB.out.cell (World.block_lt_of_cell? w _ hx166_1)).trans hx166_1
                      replace hx166_2:=(HB.out.cell (World.block_lt_of_cell? w _ hx166_2)).trans hx166_2
                      replace p166:=eq_true p166
                      replace q166:=eq_true q166
                      try go_wp2_with (first | ((with_reducible refine gate_dst (N:=14) rfl ?_);refine box_event ?hg (N:=14) ?hd (cs:=#[.int .i64 0,.int .i64 0,.string (⟨#[]⟩ : ByteArray)]) (t:=61) ?hr ?_;(case hd => rfl);(case hg => rfl);(case hr => first | (go_simp;done) | (go_simp;rfl));intro gb167 hg w66 hbox hb;have n0_:=Aside0.mk (Kd.R_below (by (with_reducible repeat (first | apply Kd.R_alloc | apply Kd.R_drewN | apply Kd.R_drew));exact HO_6.out) hb);have n1_:=Aside0.mk (blk_below (g:=gb133) (o:=.cells #[.nilFunc,.func (.func 75) #[] #[],.func (.func 77) #[] #[]] 119 (0,0)) (by (with_reducible repeat (first | refine blk_drewN ?_ _ | refine blk_drew ?_ | refine blk_alloc ?_ _));exact BK133.out) hb);have n2_:=Aside0.mk (blk_below (g:=gb153) (o:=.cells #[.int .u64 ((rd_T56 l0 x45_2).f0),.slice (some ad161) ((rd_T56 l0 x45_2).f1).length c152_1] 56 (0,0)) (by (with_reducible repeat (first | refine blk_drewN ?_ _ | refine blk_drew ?_ | refine blk_alloc ?_ _));exact BK153.out) hb);have n3_:=Aside0.mk (blk_below (g:=gb162) (o:=.cells #[.int .i64 ((rd_T59 ((rd_T56 l0 x45_2).f1) x72_4).f0),.slice (some ad166) ((rd_T59 ((rd_T56 l0 x45_2).f1) x72_4).f1).length c161_1] 59 (0,0)) (by (with_reducible repeat (first | refine blk_drewN ?_ _ | refine blk_drew ?_ | refine blk_alloc ?_ _));exact BK162.out) hb);have n4_:=Aside0.mk (IsS143.below (by repeat (first | (with_reducible first | exact HI132.out | apply IsS143.alloc | apply IsS143.drewN | apply IsS143.drew | apply IsS143.set_0 | refine IsS143.farT (t:=119) (a:=gb133) ?_ (by (with_reducible repeat (first | exact Go.Proofs.YtmmfakdncjeoeaaAid.TyAt.mk BK133.out | apply Go.Proofs.YtmmfakdncjeoeaaAid.TyAt.set | apply Go.Proofs.YtmmfakdncjeoeaaAid.TyAt.alloc | apply Go.Proofs.YtmmfakdncjeoeaaAid.TyAt.drewN | apply Go.Proofs.YtmmfakdncjeoeaaAid.TyAt.drew))) (by decide) (by decide) _ | refine IsS143.farT (t:=56) (a:=gb153) ?_ (by (with_reducible repeat (first | exact Go.Proofs.YtmmfakdncjeoeaaAid.TyAt.mk BK153.out | apply Go.Proofs.YtmmfakdncjeoeaaAid.TyAt.set | apply Go.Proofs.YtmmfakdncjeoeaaAid.TyAt.alloc | apply Go.Proofs.YtmmfakdncjeoeaaAid.TyAt.drewN | apply Go.Proofs.YtmmfakdncjeoeaaAid.TyAt.drew))) (by decide) (by decide) _ | refine IsS143.farT (t:=59) (a:=gb162) ?_ (by (with_reducible repeat (first | exact Go.Proofs.YtmmfakdncjeoeaaAid.TyAt.mk BK162.out | apply Go.Proofs.YtmmfakdncjeoeaaAid.TyAt.set | apply Go.Proofs.YtmmfakdncjeoeaaAid.TyAt.alloc | apply Go.Proofs.YtmmfakdncjeoeaaAid.TyAt.drewN | apply Go.Proofs.YtmmfakdncjeoeaaAid.TyAt.drew))) (by decide) (by decide) _) | exact HI132.out)) hb);have n5_:=Aside0.mk (below_step (by repeat (first | (with_reducible first | exact HB.out | apply below_alloc | apply pw_below_drewN | apply below_drew1 | refine below_set ?_ (IsS143.ge HI132.out) | refine below_set ?_ GE133.out | refine below_set ?_ GE153.out | refine below_set ?_ GE162.out) | exact HB.out)) hb);have n6_:=Aside0.mk (hbox);have n7_:=Aside0.mk ((by rw [hg];exact (below_size (by repeat (first | (with_reducible first | exact HB.out | apply below_alloc | apply pw_below_drewN | apply below_drew1 | refine below_set ?_ (IsS143.ge HI132.out) | refine below_set ?_ GE133.out | refine below_set ?_ GE153.out | refine below_set ?_ GE162.out) | exact HB.out))) : w.heap.size ≤ gb167));have n8_:=Aside0.mk ((by rw [hg];exact (below_size (by repeat (first | (with_reducible first | exact HB.out | apply below_alloc | apply pw_below_drewN | apply below_drew1 | refine below_set ?_ (IsS143.ge HI132.out) | refine below_set ?_ GE133.out | refine below_set ?_ GE153.out | refine below_set ?_ GE162.out) | exact HB.out))) : w.heap.size ≤ gb167));have n9_:=Aside0.mk ((by rw [hg];exact Nat.ne_of_lt (blk_lt (g:=gb133) (o:=.cells #[.nilFunc,.func (.func 75) #[] #[],.func (.func 77) #[] #[]] 119 (0,0)) (by (with_reducible repeat (first | refine blk_drewN ?_ _ | refine blk_drew ?_ | refine blk_alloc ?_ _));exact BK133.out)) : gb133 ≠ gb167));have n10_:=Aside0.mk ((by rw [hg];exact Nat.ne_of_gt (blk_lt (g:=gb133) (o:=.cells #[.nilFunc,.func (.func 75) #[] #[],.func (.func 77) #[] #[]] 119 (0,0)) (by (with_reducible repeat (first | refine blk_drewN ?_ _ | refine blk_drew ?_ | refine blk_alloc ?_ _));exact BK133.out)) : gb167 ≠ gb133));have n11_:=Aside0.mk ((by rw [hg];exact Nat.ne_of_lt (blk_lt (g:=gb153) (o:=.cells #[.int .u64 ((rd_T56 l0 x45_2).f0),.slice (some ad161) ((rd_T56 l0 x45_2).f1).length c152_1] 56 (0,0)) (by (with_reducible repeat (first | refine blk_drewN ?_ _ | refine blk_drew ?_ | refine blk_alloc ?_ _));exact BK153.out)) : gb153 ≠ gb167));have n12_:=Aside0.mk ((by rw [hg];exact Nat.ne_of_gt (blk_lt (g:=gb153) (o:=.cells #[.int .u64 ((rd_T56 l0 x45_2).f0),.slice (some ad161) ((rd_T56 l0 x45_2).f1).length c152_1] 56 (0,0)) (by (with_reducible repeat (first | refine blk_drewN ?_ _ | refine blk_drew ?_ | refine blk_alloc ?_ _));exact BK153.out)) : gb167 ≠ gb153));have n13_:=Aside0.mk ((by rw [hg];exact Nat.ne_of_lt (blk_lt (g:=gb162) (o:=.cells #[.int .i64 ((rd_T59 ((rd_T56 l0 x45_2).f1) x72_4).f0),.slice (some ad166) ((rd_T59 ((rd_T56 l0 x45_2).f1) x72_4).f1).length c161_1] 59 (0,0)) (by (with_reducible repeat (first | refine blk_drewN ?_ _ | refine blk_drew ?_ | refine blk_alloc ?_ _));exact BK162.out)) : gb162 ≠ gb167));have n14_:=Aside0.mk ((by rw [hg];exact Nat.ne_of_gt (blk_lt (g:=gb162) (o:=.cells #[.int .i64 ((rd_T59 ((rd_T56 l0 x45_2).f1) x72_4).f0),.slice (some ad166) ((rd_T59 ((rd_T56 l0 x45_2).f1) x72_4).f1).length c161_1] 59 (0,0)) (by (with_reducible repeat (first | refine blk_drewN ?_ _ | refine blk_drew ?_ | refine blk_alloc ?_ _));exact BK162.out)) : gb167 ≠ gb162));have n15_:=Aside0.mk ((by rw [hg];exact Nat.ne_of_lt (IsS143.lt (show IsS143 w _ g132 x133000_5 from by repeat (first | (with_reducible first | exact HI132.out | apply IsS143.alloc | apply IsS143.drewN | apply IsS143.drew | apply IsS143.set_0 | refine IsS143.farT (t:=119) (a:=gb133) ?_ (by (with_reducible repeat (first | exact Go.Proofs.YtmmfakdncjeoeaaAid.TyAt.mk BK133.out | apply Go.Proofs.YtmmfakdncjeoeaaAid.TyAt.set | apply Go.Proofs.YtmmfakdncjeoeaaAid.TyAt.alloc | apply Go.Proofs.YtmmfakdncjeoeaaAid.TyAt.drewN | apply Go.Proofs.YtmmfakdncjeoeaaAid.TyAt.drew))) (by decide) (by decide) _ | refine IsS143.farT (t:=56) (a:=gb153) ?_ (by (with_reducible repeat (first | exact Go.Proofs.YtmmfakdncjeoeaaAid.TyAt.mk BK153.out | apply Go.Proofs.YtmmfakdncjeoeaaAid.TyAt.set | apply Go.Proofs.YtmmfakdncjeoeaaAid.TyAt.alloc | apply Go.Proofs.YtmmfakdncjeoeaaAid.TyAt.drewN | apply Go.Proofs.YtmmfakdncjeoeaaAid.TyAt.drew))) (by decide) (by decide) _ | refine IsS143.farT (t:=59) (a:=gb162) ?_ (by (with_reducible repeat (first | exact Go.Proofs.YtmmfakdncjeoeaaAid.TyAt.mk BK162.out | apply Go.Proofs.YtmmfakdncjeoeaaAid.TyAt.set | apply Go.Proofs.YtmmfakdncjeoeaaAid.TyAt.alloc | apply Go.Proofs.YtmmfakdncjeoeaaAid.TyAt.drewN | apply Go.Proofs.YtmmfakdncjeoeaaAid.TyAt.drew))) (by decide) (by decide) _) | exact HI132.out))) : g132 ≠ gb167));have n16_:=Aside0.mk ((by rw [hg];exact Nat.ne_of_gt (IsS143.lt (show IsS143 w _ g132 x133000_5 from by repeat (first | (with_reducible first | exact HI132.out | apply IsS143.alloc | apply IsS143.drewN | apply IsS143.drew | apply IsS143.set_0 | refine IsS143.farT (t:=119) (a:=gb133) ?_ (by (with_reducible repeat (first | exact Go.Proofs.YtmmfakdncjeoeaaAid.TyAt.mk BK133.out | apply Go.Proofs.YtmmfakdncjeoeaaAid.TyAt.set | apply Go.Proofs.YtmmfakdncjeoeaaAid.TyAt.alloc | apply Go.Proofs.YtmmfakdncjeoeaaAid.TyAt.drewN | apply Go.Proofs.YtmmfakdncjeoeaaAid.TyAt.drew))) (by decide) (by decide) _ | refine IsS143.farT (t:=56) (a:=gb153) ?_ (by (with_reducible repeat (first | exact Go.Proofs.YtmmfakdncjeoeaaAid.TyAt.mk BK153.out | apply Go.Proofs.YtmmfakdncjeoeaaAid.TyAt.set | apply Go.Proofs.YtmmfakdncjeoeaaAid.TyAt.alloc | apply Go.Proofs.YtmmfakdncjeoeaaAid.TyAt.drewN | apply Go.Proofs.YtmmfakdncjeoeaaAid.TyAt.drew))) (by decide) (by decide) _ | refine IsS143.farT (t:=59) (a:=gb162) ?_ (by (with_reducible repeat (first | exact Go.Proofs.YtmmfakdncjeoeaaAid.TyAt.mk BK162.out | apply Go.Proofs.YtmmfakdncjeoeaaAid.TyAt.set | apply Go.Proofs.YtmmfakdncjeoeaaAid.TyAt.alloc | apply Go.Proofs.YtmmfakdncjeoeaaAid.TyAt.drewN | apply Go.Proofs.YtmmfakdncjeoeaaAid.TyAt.drew))) (by decide) (by decide) _) | exact HI132.out))) : gb167 ≠ g132));clear HO_6;clear BK133;clear BK153;clear BK162;clear HI132;clear HB;have HO_6:=n0_;have BK133:=n1_;have BK153:=n2_;have BK162:=n3_;have HI132:=n4_;have HB:=n5_;have BK167:=n6_;have GW167:=n7_;have GE167:=n8_;have NB133_167:=n9_;have NB167_133:=n10_;have NB153_167:=n11_;have NB167_153:=n12_;have NB162_167:=n13_;have NB167_162:=n14_;have NB132_167:=n15_;have NB167_132:=n16_;clear n0_ n1_ n2_ n3_ n4_ n5_ n6_ n7_ n8_ n9_ n10_ n11_ n12_ n13_ n14_ n15_ n16_;clear hb hbox hg;have hnb67:=NB167_133.out;have hnc67:=NB133_167.out;have hnb68:=NB167_153.out;have hnc68:=NB153_167.out;have hnb69:=NB167_162.out;have hnc69:=NB162_167.out;have hnb70:=NB167_132.out;have hnc70:=NB132_167.out;have hcz71_0 : w66.cell? ⟨gb167,0,none⟩ = some (.int .i64 0):=(blk_cell BK167.out 0).trans rfl;have hcz71_1 : w66.cell? ⟨gb167,1,none⟩ = some (.int .i64 0):=(blk_cell BK167.out 1).trans rfl;have hcz71_2 : w66.cell? ⟨gb167,2,none⟩ = some (.string (⟨#[]⟩ : ByteArray)):=(blk_cell BK167.out 2).trans rfl;have hfz71_0:=blk_frozen BK167.out 0;have hfz71_1:=blk_frozen BK167.out 1;have hfz71_2:=blk_frozen BK167.out 2))
                      have n0_ : Aside0 (Kd.R (Kd.int .u8) 5 (((w66.setCell ⟨gb167,0,none⟩ (.int .i64 ((rd_T61 ((rd_T59 ((rd_T56 l0 x45_2).f1) x72_4).f1) x84_5).f0))).setCell ⟨gb167,1,none⟩ (.int .i64 ((rd_T61 ((rd_T59 ((rd_T56 l0 x45_2).f1) x72_4).f1) x84_5).f1))).setCell ⟨gb167,2,none⟩ (.string ((rd_T61 ((rd_T59 ((rd_T56 l0 x45_2).f1) x72_4).f1) x84_5).f2))) w.heap.size (fun _ => True) u6 x6_5):=⟨by (with_reducible repeat (first | apply Kd.R_alloc | apply Kd.R_drewN | apply Kd.R_drew));exact Kd.R_mono (Kd.R_far (p:=⟨gb167,2,none⟩) (Kd.R_far (p:=⟨gb167,1,none⟩) (Kd.R_far (p:=⟨gb167,0,none⟩) (Kd.R_types HO_6.out BK167.out (by decide)) (fun _ hk => hk.2) (.int .i64 ((rd_T61 ((rd_T59 ((rd_T56 l0 x45_2).f1) x72_4).f1) x84_5).f0))) (fun _ hk => hk.2) (.int .i64 ((rd_T61 ((rd_T59 ((rd_T56 l0 x45_2).f1) x72_4).f1) x84_5).f1))) (fun _ hk => hk.2) (.string ((rd_T61 ((rd_T59 ((rd_T56 l0 x45_2).f1) x72_4).f1) x84_5).f2))) (fun _ hk => trivial)⟩
                      have n1_ : Aside0 ((((w66.setCell ⟨gb167,0,none⟩ (.int .i64 ((rd_T61 ((rd_T59 ((rd_T56 l0 x45_2).f1) x72_4).f1) x84_5).f0))).setCell ⟨gb167,1,none⟩ (.int .i64 ((rd_T61 ((rd_T59 ((rd_T56 l0 x45_2).f1) x72_4).f1) x84_5).f1))).setCell ⟨gb167,2,none⟩ (.string ((rd_T61 ((rd_T59 ((rd_T56 l0 x45_2).f1) x72_4).f1) x84_5).f2))).heap[gb133]? = some (.cells #[.nilFunc,.func (.func 75) #[] #[],.func (.func 77) #[] #[]] 119 (0,0))):=⟨by (with_reducible repeat (first | refine blk_drewN ?_ _ | refine blk_drew ?_ | refine blk_alloc ?_ _));refine blk_far ?_ NB133_167.out _;(with_reducible repeat (first | refine blk_drewN ?_ _ | refine blk_drew ?_ | refine blk_alloc ?_ _));refine blk_far ?_ NB133_167.out _;(with_reducible repeat (first | refine blk_drewN ?_ _ | refine blk_drew ?_ | refine blk_alloc ?_ _));refine blk_far ?_ NB133_167.out _;(with_reducible repeat (first | refine blk_drewN ?_ _ | refine blk_drew ?_ | refine blk_alloc ?_ _));exact BK133.out⟩
                      have n2_ : Aside0 ((((w66.setCell ⟨gb167,0,none⟩ (.int .i64 ((rd_T61 ((rd_T59 ((rd_T56 l0 x45_2).f1) x72_4).f1) x84_5).f0))).setCell ⟨gb167,1,none⟩ (.int .i64 ((rd_T61 ((rd_T59 ((rd_T56 l0 x45_2).f1) x72_4).f1) x84_5).f1))).setCell ⟨gb167,2,none⟩ (.string ((rd_T61 ((rd_T59 ((rd_T56 l0 x45_2).f1) x72_4).f1) x84_5).f2))).heap[gb153]? = some (.cells #[.int .u64 ((rd_T56 l0 x45_2).f0),.slice (some ad161) ((rd_T56 l0 x45_2).f1).length c152_1] 56 (0,0))):=⟨by (with_reducible repeat (first | refine blk_drewN ?_ _ | refine blk_drew ?_ | refine blk_alloc ?_ _));refine blk_far ?_ NB153_167.out _;(with_reducible repeat (first | refine blk_drewN ?_ _ | refine blk_drew ?_ | refine blk_alloc ?_ _));refine blk_far ?_ NB153_167.out _;(with_reducible repeat (first | refine blk_drewN ?_ _ | refine blk_drew ?_ | refine blk_alloc ?_ _));refine blk_far ?_ NB153_167.out _;(with_reducible repeat (first | refine blk_drewN ?_ _ | refine blk_drew ?_ | refine blk_alloc ?_ _));exact BK153.out⟩
                      have n3_ : Aside0 ((((w66.setCell ⟨gb167,0,none⟩ (.int .i64 ((rd_T61 ((rd_T59 ((rd_T56 l0 x45_2).f1) x72_4).f1) x84_5).f0))).setCell ⟨gb167,1,none⟩ (.int .i64 ((rd_T61 ((rd_T59 ((rd_T56 l0 x45_2).f1) x72_4).f1) x84_5).f1))).setCell ⟨gb167,2,none⟩ (.string ((rd_T61 ((rd_T59 ((rd_T56 l0 x45_2).f1) x72_4).f1) x84_5).f2))).heap[gb162]? = some (.cells #[.int .i64 ((rd_T59 ((rd_T56 l0 x45_2).f1) x72_4).f0),.slice (some ad166) ((rd_T59 ((rd_T56 l0 x45_2).f1) x72_4).f1).length c161_1] 59 (0,0))):=⟨by (with_reducible repeat (first | refine blk_drewN ?_ _ | refine blk_drew ?_ | refine blk_alloc ?_ _));refine blk_far ?_ NB162_167.out _;(with_reducible repeat (first | refine blk_drewN ?_ _ | refine blk_drew ?_ | refine blk_alloc ?_ _));refine blk_far ?_ NB162_167.out _;(with_reducible repeat (first | refine blk_drewN ?_ _ | refine blk_drew ?_ | refine blk_alloc ?_ _));refine blk_far ?_ NB162_167.out _;(with_reducible repeat (first | refine blk_drewN ?_ _ | refine blk_drew ?_ | refine blk_alloc ?_ _));exact BK162.out⟩
                      have n4_ : Aside0 ((((w66.setCell ⟨gb167,0,none⟩ (.int .i64 ((rd_T61 ((rd_T59 ((rd_T56 l0 x45_2).f1) x72_4).f1) x84_5).f0))).setCell ⟨gb167,1,none⟩ (.int .i64 ((rd_T61 ((rd_T59 ((rd_T56 l0 x45_2).f1) x72_4).f1) x84_5).f1))).setCell ⟨gb167,2,none⟩ (.string ((rd_T61 ((rd_T59 ((rd_T56 l0 x45_2).f1) x72_4).f1) x84_5).f2))).heap[gb167]? = some (.cells #[.int .i64 ((rd_T61 ((rd_T59 ((rd_T56 l0 x45_2).f1) x72_4).f1) x84_5).f0),.int .i64 ((rd_T61 ((rd_T59 ((rd_T56 l0 x45_2).f1) x72_4).f1) x84_5).f1),.string ((rd_T61 ((rd_T59 ((rd_T56 l0 x45_2).f1) x72_4).f1) x84_5).f2)] 61 (0,0))):=⟨by (with_reducible repeat (first | refine blk_drewN ?_ _ | refine blk_drew ?_ | refine blk_alloc ?_ _));refine blk_put (cs:=#[.int .i64 ((rd_T61 ((rd_T59 ((rd_T56 l0 x45_2).f1) x72_4).f1) x84_5).f0),.int .i64 ((rd_T61 ((rd_T59 ((rd_T56 l0 x45_2).f1) x72_4).f1) x84_5).f1),.string (⟨#[]⟩ : ByteArray)]) ?_ 2 _ rfl;(with_reducible repeat (first | refine blk_drewN ?_ _ | refine blk_drew ?_ | refine blk_alloc ?_ _));refine blk_put (cs:=#[.int .i64 ((rd_T61 ((rd_T59 ((rd_T56 l0 x45_2).f1) x72_4).f1) x84_5).f0),.int .i64 0,.string (⟨#[]⟩ : ByteArray)]) ?_ 1 _ rfl;(with_reducible repeat (first | refine blk_drewN ?_ _ | refine blk_drew ?_ | refine blk_alloc ?_ _));refine blk_put (cs:=#[.int .i64 0,.int .i64 0,.string (⟨#[]⟩ : ByteArray)]) ?_ 0 _ rfl;(with_reducible repeat (first | refine blk_drewN ?_ _ | refine blk_drew ?_ | refine blk_alloc ?_ _));exact BK167.out⟩
                      have n5_ : Aside0 (IsS143 w (((w66.setCell ⟨gb167,0,none⟩ (.int .i64 ((rd_T61 ((rd_T59 ((rd_T56 l0 x45_2).f1) x72_4).f1) x84_5).f0))).setCell ⟨gb167,1,none⟩ (.int .i64 ((rd_T61 ((rd_T59 ((rd_T56 l0 x45_2).f1) x72_4).f1) x84_5).f1))).setCell ⟨gb167,2,none⟩ (.string ((rd_T61 ((rd_T59 ((rd_T56 l0 x45_2).f1) x72_4).f1) x84_5).f2))) g132 x133000_5):=⟨by repeat (first | (with_reducible first | exact HI132.out | apply IsS143.alloc | apply IsS143.drewN | apply IsS143.drew | apply IsS143.set_0 | refine IsS143.farT (t:=119) (a:=gb133) ?_ (by (with_reducible repeat (first | exact Go.Proofs.YtmmfakdncjeoeaaAid.TyAt.mk BK133.out | apply Go.Proofs.YtmmfakdncjeoeaaAid.TyAt.set | apply Go.Proofs.YtmmfakdncjeoeaaAid.TyAt.alloc | apply Go.Proofs.YtmmfakdncjeoeaaAid.TyAt.drewN | apply Go.Proofs.YtmmfakdncjeoeaaAid.TyAt.drew))) (by decide) (by decide) _ | refine IsS143.farT (t:=56) (a:=gb153) ?_ (by (with_reducible repeat (first | exact Go.Proofs.YtmmfakdncjeoeaaAid.TyAt.mk BK153.out | apply Go.Proofs.YtmmfakdncjeoeaaAid.TyAt.set | apply Go.Proofs.YtmmfakdncjeoeaaAid.TyAt.alloc | apply Go.Proofs.YtmmfakdncjeoeaaAid.TyAt.drewN | apply Go.Proofs.YtmmfakdncjeoeaaAid.TyAt.drew))) (by decide) (by decide) _ | refine IsS143.farT (t:=59) (a:=gb162) ?_ (by (with_reducible repeat (first | exact Go.Proofs.YtmmfakdncjeoeaaAid.TyAt.mk BK162.out | apply Go.Proofs.YtmmfakdncjeoeaaAid.TyAt.set | apply Go.Proofs.YtmmfakdncjeoeaaAid.TyAt.alloc | apply Go.Proofs.YtmmfakdncjeoeaaAid.TyAt.drewN | apply Go.Proofs.YtmmfakdncjeoeaaAid.TyAt.drew))) (by decide) (by decide) _ | refine IsS143.farT (t:=61) (a:=gb167) ?_ (by (with_reducible repeat (first | exact Go.Proofs.YtmmfakdncjeoeaaAid.TyAt.mk BK167.out | apply Go.Proofs.YtmmfakdncjeoeaaAid.TyAt.set | apply Go.Proofs.YtmmfakdncjeoeaaAid.TyAt.alloc | apply Go.Proofs.YtmmfakdncjeoeaaAid.TyAt.drewN | apply Go.Proofs.YtmmfakdncjeoeaaAid.TyAt.drew))) (by decide) (by decide) _) | exact HI132.out)⟩
                      have n6_ : Aside0 (Below w.heap.size w (((w66.setCell ⟨gb167,0,none⟩ (.int .i64 ((rd_T61 ((rd_T59 ((rd_T56 l0 x45_2).f1) x72_4).f1) x84_5).f0))).setCell ⟨gb167,1,none⟩ (.int .i64 ((rd_T61 ((rd_T59 ((rd_T56 l0 x45_2).f1) x72_4).f1) x84_5).f1))).setCell ⟨gb167,2,none⟩ (.string ((rd_T61 ((rd_T59 ((rd_T56 l0 x45_2).f1) x72_4).f1) x84_5).f2)))):=⟨by repeat (first | (with_reducible first | exact HB.out | apply below_alloc | apply pw_below_drewN | apply below_drew1 | refine below_set ?_ (IsS143.ge HI132.out) | refine below_set ?_ GE133.out | refine below_set ?_ GE153.out | refine below_set ?_ GE162.out | refine below_set ?_ GE167.out) | exact HB.out)⟩
                      (try clear HO_6)
                      (try clear BK133)
                      (try clear BK153)
                      (try clear BK162)
                      (try clear BK167)
                      (try clear HI132)
                      (try clear HB)
                      generalize (((w66.setCell ⟨gb167,0,none⟩ (.int .i64 ((rd_T61 ((rd_T59 ((rd_T56 l0 x45_2).f1) x72_4).f1) x84_5).f0))).setCell ⟨gb167,1,none⟩ (.int .i64 ((rd_T61 ((rd_T59 ((rd_T56 l0 x45_2).f1) x72_4).f1) x84_5).f1))).setCell ⟨gb167,2,none⟩ (.string ((rd_T61 ((rd_T59 ((rd_T56 l0 x45_2).f1) x72_4).f1) x84_5).f2))) = w72 at n0_ n1_ n2_ n3_ n4_ n5_ n6_ ⊢
                      have HO_6:=n0_
                      have BK133:=n1_
                      have BK153:=n2_
                      have BK162:=n3_
                      have BK167:=n4_
                      have HI132:=n5_
                      have HB:=n6_
                      clear n0_ n1_ n2_ n3_ n4_ n5_ n6_
                      have n0_:=Aside0.mk (Kd.R_drew HO_6.out)
                      have n1_:=Aside0.mk (blk_drew BK133.out)
                      have n2_:=Aside0.mk (blk_drew BK153.out)
                      have n3_:=Aside0.mk (blk_drew BK162.out)
                      have n4_:=Aside0.mk (blk_drew BK167.out)
                      have n5_:=Aside0.mk (IsS143.drew HI132.out)
                      have n6_:=Aside0.mk (below_drew1 HB.out)
                      clear HO_6
                      clear BK133
                      clear BK153
                      clear BK162
                      clear BK167
                      clear HI132
                      clear HB
                      have HO_6:=n0_
                      have BK133:=n1_
                      have BK153:=n2_
                      have BK162:=n3_
                      have BK167:=n4_
                      have HI132:=n5_
                      have HB:=n6_
                      clear n0_ n1_ n2_ n3_ n4_ n5_ n6_
                      obtain ⟨nf_,fn_,hw_,hn_,hf_,hnm_,hbd_,h0_,h3_⟩:=Go.Proofs.YtmmfakdncjeoeaaAid.writer_fn (block_writers_1.ty A64.out)
                      replace hw_:=Aside0.mk hw_
                      replace hn_:=Aside0.mk hn_
                      replace hf_:=Aside0.mk hf_
                      replace hnm_:=Aside0.mk hnm_
                      replace hbd_:=Aside0.mk hbd_
                      replace h0_:=eq_true h0_
                      replace h3_:=eq_true h3_
                      refine start_ (n:=11) (S:=fun w' => w'.cell? ⟨gb167,0,none⟩ = some (.int .i64 ((rd_T61 ((rd_T59 ((rd_T56 l0 x45_2).f1) x72_4).f1) x84_5).f0)) ∧ w'.cell? ⟨gb167,1,none⟩ = some (.int .i64 ((rd_T61 ((rd_T59 ((rd_T56 l0 x45_2).f1) x72_4).f1) x84_5).f1)) ∧ w'.cell? ⟨gb167,2,none⟩ = some (.string ((rd_T61 ((rd_T59 ((rd_T56 l0 x45_2).f1) x72_4).f1) x84_5).f2)) ∧ w'.cell? ⟨gb133,((rd_T61 ((rd_T59 ((rd_T56 l0 x45_2).f1) x72_4).f1) x84_5).f0).toNat,none⟩ = some (.func (.func nf_) #[] #[])) (ds:=[]) #[n_,n_,n_,n_,n_,n_,n_,n_,n_,n_,n_] (by kernel_rfl) rfl rfl ⟨(blk_cell BK167.out 0).trans rfl,(blk_cell BK167.out 1).trans rfl,(blk_cell BK167.out 2).trans rfl,(blk_cell BK133.out _).trans hw_.out⟩ (fun hHeld => ?_);refine with_tabW block_payload.tab22 block_payload.bits22 (fun HT_ HW_ => ?_)
                      generalize w72.drew = w73 at HO_6 BK133 BK153 BK162 BK167 HI132 HB hHeld ⊢
                      refine pure_ (i:=0) (N:=some 88) (v:=?_) (a':=?_) #[y_,n_,n_,n_,n_,n_,n_,n_,n_,n_,n_] rfl rfl (any_of HT_.out (by kernel_rfl)) (fun _ _ _ h => h) (Or.inl ⟨by rfl,?_⟩) ?_ ?_
                      rotate_left
                      ·intro w'
                       go_simp
                       with_reducible rfl
                      rotate_left
                      ·simp only [Act.put,sA_,sB_,sC_,i64_w,i32_w]
                       rfl
                      refine pure_ (i:=1) (N:=some 89) (v:=?_) (a':=?_) #[y_,y_,n_,n_,n_,n_,n_,n_,n_,n_,n_] rfl rfl (any_of HT_.out (by kernel_rfl)) (fun _ _ _ h => h) (Or.inl ⟨by rfl,?_⟩) ?_ ?_
                      rotate_left
                      ·intro w'
                       go_simp
                       with_reducible rfl
                      rotate_left
                      ·simp only [Act.put,sA_,sB_,sC_,i64_w,i32_w]
                       rfl
                      refine pure_ (i:=6) (N:=some 94) (v:=?_) (a':=?_) #[y_,y_,n_,n_,n_,n_,y_,n_,n_,n_,n_] rfl rfl (any_of HT_.out (by kernel_rfl)) (fun _ _ _ h => h) (Or.inl ⟨by rfl,?_⟩) ?_ ?_
                      rotate_left
                      ·intro w'
                       go_simp
                       with_reducible rfl
                      rotate_left
                      ·simp only [Act.put,sA_,sB_,sC_,i64_w,i32_w]
                       rfl
                      refine take_ (i:=2) (N:=some 90) (v:=?_) (a':=?_) #[y_,y_,y_,n_,n_,n_,y_,n_,n_,n_,n_] rfl rfl (take_ofW HT_.out HW_.out (by kernel_rfl)) (fun _ _ _ h => h) (Or.inl ⟨by rfl,?_⟩) hHeld ?_ ?_
                      rotate_left
                      ·rintro w' ⟨s0,s1,s2,s3⟩
                       go_simp
                       with_reducible rfl
                      rotate_left
                      ·simp only [Act.put,sA_,sB_,sC_,i64_w,i32_w]
                       rfl
                      refine pure_ (i:=3) (N:=some 91) (v:=?_) (a':=?_) #[y_,y_,y_,y_,n_,n_,y_,n_,n_,n_,n_] rfl rfl (any_of HT_.out (by kernel_rfl)) (fun _ _ _ h => h) (Or.inl ⟨by rfl,?_⟩) ?_ ?_
                      rotate_left
                      ·intro w'
                       go_simp
                       with_reducible rfl
                      rotate_left
                      ·simp only [Act.put,sA_,sB_,sC_,i64_w,i32_w]
                       rfl
                      refine pure_ (i:=4) (N:=some 92) (v:=?_) (a':=?_) #[y_,y_,y_,y_,y_,n_,y_,n_,n_,n_,n_] rfl rfl (any_of HT_.out (by kernel_rfl)) (fun _ _ _ h => h) (Or.inl ⟨by rfl,?_⟩) ?_ ?_
                      rotate_left
                      ·intro w'
                       go_simp
                       with_reducible rfl
                      rotate_left
                      ·simp only [Act.put,sA_,sB_,sC_,i64_w,i32_w]
                       rfl
                      refine take_ (i:=5) (N:=some 93) (v:=?_) (a':=?_) #[y_,y_,y_,y_,y_,y_,y_,n_,n_,n_,n_] rfl rfl (take_ofW HT_.out HW_.out (by kernel_rfl)) (fun _ _ _ h => h) (Or.inl ⟨by rfl,?_⟩) hHeld ?_ ?_
                      rotate_left
                      ·rintro w' ⟨s0,s1,s2,s3⟩
                       go_simp
                       with_reducible rfl
                      rotate_left
                      ·simp only [Act.put,sA_,sB_,sC_,i64_w,i32_w]
                       rfl
                      refine take_ (i:=7) (N:=some 95) (v:=?_) (a':=?_) #[y_,y_,y_,y_,y_,y_,y_,y_,n_,n_,n_] rfl rfl (take_ofW HT_.out HW_.out (by kernel_rfl)) (fun _ _ _ h => h) (Or.inl ⟨by rfl,?_⟩) hHeld ?_ ?_
                      rotate_left
                      ·rintro w' ⟨s0,s1,s2,s3⟩
                       go_simp
                       with_reducible rfl
                      rotate_left
                      ·simp only [Act.put,sA_,sB_,sC_,i64_w,i32_w]
                       rfl
                      refine one_ (i:=8) (N:=some 96) #[y_,y_,y_,y_,y_,y_,y_,y_,y_,n_,n_] rfl rfl (one_of HT_.out (by kernel_rfl)) (by decide) (fun K hK => ?_)
                      refine Go.Proofs.YtmmfakdncjeoeaaAid.goesVs_ hf_.out hnm_.out hbd_.out #[.pointer (some ⟨g132,0,none⟩),.agg #[.int .i64 ((rd_T61 ((rd_T59 ((rd_T56 l0 x45_2).f1) x72_4).f1) x84_5).f0),.int .i64 ((rd_T61 ((rd_T59 ((rd_T56 l0 x45_2).f1) x72_4).f1) x84_5).f1),.string ((rd_T61 ((rd_T59 ((rd_T56 l0 x45_2).f1) x72_4).f1) x84_5).f2)]] #[] (.tmp 93) (by rfl) rfl rfl rfl (by (try simp only [List.map_toArray,List.map_cons,List.map_nil]);first | done | rfl | (simp only [List.length_drop,List.length_take];rfl)) ?_
                      refine (show Calls Try.prog nf_ (#[.pointer (some ⟨g132,0,none⟩),.agg #[.int .i64 ((rd_T61 ((rd_T59 ((rd_T56 l0 x45_2).f1) x72_4).f1) x84_5).f0),.int .i64 ((rd_T61 ((rd_T59 ((rd_T56 l0 x45_2).f1) x72_4).f1) x84_5).f1),.string ((rd_T61 ((rd_T59 ((rd_T56 l0 x45_2).f1) x72_4).f1) x84_5).f2)]] ++ #[]) _ _ from block_writers_1.callsN nf_ g132 x133000_5 ((rd_T61 ((rd_T59 ((rd_T56 l0 x45_2).f1) x72_4).f1) x84_5).f0) ((rd_T61 ((rd_T59 ((rd_T56 l0 x45_2).f1) x72_4).f1) x84_5).f1) ((rd_T61 ((rd_T59 ((rd_T56 l0 x45_2).f1) x72_4).f1) x84_5).f2) t168 t169 w _ hn_.out ?side1 ?side2 A64.out).mono ?_
                      (case side1 => repeat (first | (with_reducible first | exact HI132.out | apply IsS143.alloc | apply IsS143.drewN | apply IsS143.drew | apply IsS143.set_0 | refine IsS143.farT (t:=119) (a:=gb133) ?_ (by (with_reducible repeat (first | exact Go.Proofs.YtmmfakdncjeoeaaAid.TyAt.mk BK133.out | apply Go.Proofs.YtmmfakdncjeoeaaAid.TyAt.set | apply Go.Proofs.YtmmfakdncjeoeaaAid.TyAt.alloc | apply Go.Proofs.YtmmfakdncjeoeaaAid.TyAt.drewN | apply Go.Proofs.YtmmfakdncjeoeaaAid.TyAt.drew))) (by decide) (by decide) _ | refine IsS143.farT (t:=56) (a:=gb153) ?_ (by (with_reducible repeat (first | exact Go.Proofs.YtmmfakdncjeoeaaAid.TyAt.mk BK153.out | apply Go.Proofs.YtmmfakdncjeoeaaAid.TyAt.set | apply Go.Proofs.YtmmfakdncjeoeaaAid.TyAt.alloc | apply Go.Proofs.YtmmfakdncjeoeaaAid.TyAt.drewN | apply Go.Proofs.YtmmfakdncjeoeaaAid.TyAt.drew))) (by decide) (by decide) _ | refine IsS143.farT (t:=59) (a:=gb162) ?_ (by (with_reducible repeat (first | exact Go.Proofs.YtmmfakdncjeoeaaAid.TyAt.mk BK162.out | apply Go.Proofs.YtmmfakdncjeoeaaAid.TyAt.set | apply Go.Proofs.YtmmfakdncjeoeaaAid.TyAt.alloc | apply Go.Proofs.YtmmfakdncjeoeaaAid.TyAt.drewN | apply Go.Proofs.YtmmfakdncjeoeaaAid.TyAt.drew))) (by decide) (by decide) _ | refine IsS143.farT (t:=61) (a:=gb167) ?_ (by (with_reducible repeat (first | exact Go.Proofs.YtmmfakdncjeoeaaAid.TyAt.mk BK167.out | apply Go.Proofs.YtmmfakdncjeoeaaAid.TyAt.set | apply Go.Proofs.YtmmfakdncjeoeaaAid.TyAt.alloc | apply Go.Proofs.YtmmfakdncjeoeaaAid.TyAt.drewN | apply Go.Proofs.YtmmfakdncjeoeaaAid.TyAt.drew))) (by decide) (by decide) _) | exact HI132.out))
                      (case side2 => repeat (first | (with_reducible first | exact HB.out | apply below_alloc | apply pw_below_drewN | apply below_drew1 | refine below_set ?_ (IsS143.ge HI132.out) | refine below_set ?_ GE133.out | refine below_set ?_ GE153.out | refine below_set ?_ GE162.out | refine below_set ?_ GE167.out) | exact HB.out))
                      rintro e w74 ⟨rfl,hi,hb,hk⟩
                      refine ⟨_,rfl,?_⟩
                      have n0_:=Aside0.mk (Kd.R_mono (Kd.R_keep (IsS143.apart (show IsS143 w _ g132 x133000_5 from by repeat (first | (with_reducible first | exact HI132.out | apply IsS143.alloc | apply IsS143.drewN | apply IsS143.drew | apply IsS143.set_0 | refine IsS143.farT (t:=119) (a:=gb133) ?_ (by (with_reducible repeat (first | exact Go.Proofs.YtmmfakdncjeoeaaAid.TyAt.mk BK133.out | apply Go.Proofs.YtmmfakdncjeoeaaAid.TyAt.set | apply Go.Proofs.YtmmfakdncjeoeaaAid.TyAt.alloc | apply Go.Proofs.YtmmfakdncjeoeaaAid.TyAt.drewN | apply Go.Proofs.YtmmfakdncjeoeaaAid.TyAt.drew))) (by decide) (by decide) _ | refine IsS143.farT (t:=56) (a:=gb153) ?_ (by (with_reducible repeat (first | exact Go.Proofs.YtmmfakdncjeoeaaAid.TyAt.mk BK153.out | apply Go.Proofs.YtmmfakdncjeoeaaAid.TyAt.set | apply Go.Proofs.YtmmfakdncjeoeaaAid.TyAt.alloc | apply Go.Proofs.YtmmfakdncjeoeaaAid.TyAt.drewN | apply Go.Proofs.YtmmfakdncjeoeaaAid.TyAt.drew))) (by decide) (by decide) _ | refine IsS143.farT (t:=59) (a:=gb162) ?_ (by (with_reducible repeat (first | exact Go.Proofs.YtmmfakdncjeoeaaAid.TyAt.mk BK162.out | apply Go.Proofs.YtmmfakdncjeoeaaAid.TyAt.set | apply Go.Proofs.YtmmfakdncjeoeaaAid.TyAt.alloc | apply Go.Proofs.YtmmfakdncjeoeaaAid.TyAt.drewN | apply Go.Proofs.YtmmfakdncjeoeaaAid.TyAt.drew))) (by decide) (by decide) _ | refine IsS143.farT (t:=61) (a:=gb167) ?_ (by (with_reducible repeat (first | exact Go.Proofs.YtmmfakdncjeoeaaAid.TyAt.mk BK167.out | apply Go.Proofs.YtmmfakdncjeoeaaAid.TyAt.set | apply Go.Proofs.YtmmfakdncjeoeaaAid.TyAt.alloc | apply Go.Proofs.YtmmfakdncjeoeaaAid.TyAt.drewN | apply Go.Proofs.YtmmfakdncjeoeaaAid.TyAt.drew))) (by decide) (by decide) _) | exact HI132.out)) (by (with_reducible repeat (first | apply Kd.R_alloc | apply Kd.R_drewN | apply Kd.R_drew));exact HO_6.out) (by decide)) hk (fun _ h => h.2)) (fun _ h => h.1))
                      have n1_:=Aside0.mk (KeepBut.blk hk (g':=gb133) (o:=.cells #[.nilFunc,.func (.func 75) #[] #[],.func (.func 77) #[] #[]] 119 (0,0)) (by (with_reducible repeat (first | refine blk_drewN ?_ _ | refine blk_drew ?_ | refine blk_alloc ?_ _));exact BK133.out) NB133_132.out (by simp))
                      have n2_:=Aside0.mk (KeepBut.blk hk (g':=gb153) (o:=.cells #[.int .u64 ((rd_T56 l0 x45_2).f0),.slice (some ad161) ((rd_T56 l0 x45_2).f1).length c152_1] 56 (0,0)) (by (with_reducible repeat (first | refine blk_drewN ?_ _ | refine blk_drew ?_ | refine blk_alloc ?_ _));exact BK153.out) NB153_132.out (by simp))
                      have n3_:=Aside0.mk (KeepBut.blk hk (g':=gb162) (o:=.cells #[.int .i64 ((rd_T59 ((rd_T56 l0 x45_2).f1) x72_4).f0),.slice (some ad166) ((rd_T59 ((rd_T56 l0 x45_2).f1) x72_4).f1).length c161_1] 59 (0,0)) (by (with_reducible repeat (first | refine blk_drewN ?_ _ | refine blk_drew ?_ | refine blk_alloc ?_ _));exact BK162.out) NB162_132.out (by simp))
                      have n4_:=Aside0.mk (KeepBut.blk hk (g':=gb167) (o:=.cells #[.int .i64 ((rd_T61 ((rd_T59 ((rd_T56 l0 x45_2).f1) x72_4).f1) x84_5).f0),.int .i64 ((rd_T61 ((rd_T59 ((rd_T56 l0 x45_2).f1) x72_4).f1) x84_5).f1),.string ((rd_T61 ((rd_T59 ((rd_T56 l0 x45_2).f1) x72_4).f1) x84_5).f2)] 61 (0,0)) (by (with_reducible repeat (first | refine blk_drewN ?_ _ | refine blk_drew ?_ | refine blk_alloc ?_ _));exact BK167.out) NB167_132.out (by simp))
                      have n5_:=Aside0.mk (hb)
                      have n6_:=Aside0.mk (hi)
                      clear HO_6
                      clear BK133
                      clear BK153
                      clear BK162
                      clear BK167
                      clear HB
                      clear HI132
                      have HO_6:=n0_
                      have BK133:=n1_
                      have BK153:=n2_
                      have BK162:=n3_
                      have BK167:=n4_
                      have HB:=n5_
                      have HI132:=n6_
                      clear n0_ n1_ n2_ n3_ n4_ n5_ n6_
                      (try clear hb)
                      (try clear hb2)
                      (try clear hk)
                      (try clear hi)
                      obtain ⟨Ao75,co75,eo75⟩:=Kd.R_slice HO_6.out
                      (first | subst eo75 | (injection eo75 with f1_ f2_ f3_;have f4_:=f1_.symm;have f5_:=f3_.symm;clear f1_ f2_ f3_;subst f4_;subst f5_))
                      refine hK.out _ _ ⟨(blk_cell BK167.out 0).trans rfl,(blk_cell BK167.out 1).trans rfl,(blk_cell BK167.out 2).trans rfl,(blk_cell BK133.out _).trans hw_.out⟩ (fun hHeld => ?_)
                      clear hK K
                      refine norm_ (a':=?_) ?_ ?_
                      rotate_left
                      ·show Act.put _ (some 96) _ = _
                       simp only [Act.put,sA_,sB_,sC_,i64_w,i32_w]
                       rfl
                      refine one_ (i:=9) (N:=some 97) #[y_,y_,y_,y_,y_,y_,y_,y_,y_,y_,n_] rfl rfl (one_of HT_.out (by kernel_rfl)) (by decide) (fun K hK => ?_)
                      refine goes_ Try.func60 (by kernel_rfl) rfl #[.slice Ao75 x6_5.length co75,.int .u64 t168] (by rfl) rfl rfl (by (try simp only [List.map_toArray,List.map_cons,List.map_nil]);first | done | rfl | (simp only [List.length_drop,List.length_take];rfl)) ?_
                      with_reducible refine (wire_Put.calls _ _ x6_5 t168 t170 _ ?side1 ?side2 A65.out).mono ?_
                      (case side1 => repeat (first | exact (Kd.R_reads' HO_6.out).2.2 | (with_reducible refine Kd.C_alloc ?_ _) | (with_reducible refine Kd.C_drewN ?_ _) | (with_reducible refine Kd.C_drew ?_)))
                      (case side2 => exact (Kd.R_reads' HO_6.out).2.1)
                      rintro e w76 ⟨v171,rfl,ho0,hb⟩
                      refine ⟨_,rfl,?_⟩
                      have n0_:=Aside0.mk (Kd.R_elder' (by (with_reducible repeat (first | apply Kd.R_alloc | apply Kd.R_drewN | apply Kd.R_drew));exact HO_6.out) (Kd.R_base ho0) hb)
                      have n1_:=Aside0.mk (Kd.R_lower (Kd.R_new' ho0 (Kd.R_lt (by (with_reducible repeat (first | apply Kd.R_alloc | apply Kd.R_drewN | apply Kd.R_drew));exact HO_6.out))) (below_size (by repeat (first | (with_reducible first | exact HB.out | apply below_alloc | apply pw_below_drewN | apply below_drew1 | refine below_set ?_ (IsS143.ge HI132.out) | refine below_set ?_ GE133.out | refine below_set ?_ GE153.out | refine below_set ?_ GE162.out | refine below_set ?_ GE167.out) | exact HB.out))))
                      have n2_:=Aside0.mk (blk_below (g:=gb133) (o:=.cells #[.nilFunc,.func (.func 75) #[] #[],.func (.func 77) #[] #[]] 119 (0,0)) (by (with_reducible repeat (first | refine blk_drewN ?_ _ | refine blk_drew ?_ | refine blk_alloc ?_ _));exact BK133.out) hb)
                      have n3_:=Aside0.mk (blk_below (g:=gb153) (o:=.cells #[.int .u64 ((rd_T56 l0 x45_2).f0),.slice (some ad161) ((rd_T56 l0 x45_2).f1).length c152_1] 56 (0,0)) (by (with_reducible repeat (first | refine blk_drewN ?_ _ | refine blk_drew ?_ | refine blk_alloc ?_ _));exact BK153.out) hb)
                      have n4_:=Aside0.mk (blk_below (g:=gb162) (o:=.cells #[.int .i64 ((rd_T59 ((rd_T56 l0 x45_2).f1) x72_4).f0),.slice (some ad166) ((rd_T59 ((rd_T56 l0 x45_2).f1) x72_4).f1).length c161_1] 59 (0,0)) (by (with_reducible repeat (first | refine blk_drewN ?_ _ | refine blk_drew ?_ | refine blk_alloc ?_ _));exact BK162.out) hb)
                      have n5_:=Aside0.mk (IsS143.below (by repeat (first | (with_reducible first | exact HI132.out | apply IsS143.alloc | apply IsS143.drewN | apply IsS143.drew | apply IsS143.set_0 | refine IsS143.farT (t:=119) (a:=gb133) ?_ (by (with_reducible repeat (first | exact Go.Proofs.YtmmfakdncjeoeaaAid.TyAt.mk BK133.out | apply Go.Proofs.YtmmfakdncjeoeaaAid.TyAt.set | apply Go.Proofs.YtmmfakdncjeoeaaAid.TyAt.alloc | apply Go.Proofs.YtmmfakdncjeoeaaAid.TyAt.drewN | apply Go.Proofs.YtmmfakdncjeoeaaAid.TyAt.drew))) (by decide) (by decide) _ | refine IsS143.farT (t:=56) (a:=gb153) ?_ (by (with_reducible repeat (first | exact Go.Proofs.YtmmfakdncjeoeaaAid.TyAt.mk BK153.out | apply Go.Proofs.YtmmfakdncjeoeaaAid.TyAt.set | apply Go.Proofs.YtmmfakdncjeoeaaAid.TyAt.alloc | apply Go.Proofs.YtmmfakdncjeoeaaAid.TyAt.drewN | apply Go.Proofs.YtmmfakdncjeoeaaAid.TyAt.drew))) (by decide) (by decide) _ | refine IsS143.farT (t:=59) (a:=gb162) ?_ (by (with_reducible repeat (first | exact Go.Proofs.YtmmfakdncjeoeaaAid.TyAt.mk BK162.out | apply Go.Proofs.YtmmfakdncjeoeaaAid.TyAt.set | apply Go.Proofs.YtmmfakdncjeoeaaAid.TyAt.alloc | apply Go.Proofs.YtmmfakdncjeoeaaAid.TyAt.drewN | apply Go.Proofs.YtmmfakdncjeoeaaAid.TyAt.drew))) (by decide) (by decide) _ | refine IsS143.farT (t:=61) (a:=gb167) ?_ (by (with_reducible repeat (first | exact Go.Proofs.YtmmfakdncjeoeaaAid.TyAt.mk BK167.out | apply Go.Proofs.YtmmfakdncjeoeaaAid.TyAt.set | apply Go.Proofs.YtmmfakdncjeoeaaAid.TyAt.alloc | apply Go.Proofs.YtmmfakdncjeoeaaAid.TyAt.drewN | apply Go.Proofs.YtmmfakdncjeoeaaAid.TyAt.drew))) (by decide) (by decide) _) | exact HI132.out)) hb)
                      have n6_:=Aside0.mk (blk_below (g:=gb167) (o:=.cells #[.int .i64 ((rd_T61 ((rd_T59 ((rd_T56 l0 x45_2).f1) x72_4).f1) x84_5).f0),.int .i64 ((rd_T61 ((rd_T59 ((rd_T56 l0 x45_2).f1) x72_4).f1) x84_5).f1),.string ((rd_T61 ((rd_T59 ((rd_T56 l0 x45_2).f1) x72_4).f1) x84_5).f2)] 61 (0,0)) (by (with_reducible repeat (first | refine blk_drewN ?_ _ | refine blk_drew ?_ | refine blk_alloc ?_ _));exact BK167.out) hb)
                      have n7_:=Aside0.mk (below_step (by repeat (first | (with_reducible first | exact HB.out | apply below_alloc | apply pw_below_drewN | apply below_drew1 | refine below_set ?_ (IsS143.ge HI132.out) | refine below_set ?_ GE133.out | refine below_set ?_ GE153.out | refine below_set ?_ GE162.out | refine below_set ?_ GE167.out) | exact HB.out)) hb)
                      clear HO_6
                      clear BK133
                      clear BK153
                      clear BK162
                      clear HI132
                      clear BK167
                      clear HB
                      have HO_6:=n0_
                      have HO172:=n1_
                      have BK133:=n2_
                      have BK153:=n3_
                      have BK162:=n4_
                      have HI132:=n5_
                      have BK167:=n6_
                      have HB:=n7_
                      clear n0_ n1_ n2_ n3_ n4_ n5_ n6_ n7_
                      (try clear hb)
                      (try clear hb2)
                      (try clear hk)
                      (try clear hi)
                      (try clear ho0)
                      refine hK.out _ _ ⟨(blk_cell BK167.out 0).trans rfl,(blk_cell BK167.out 1).trans rfl,(blk_cell BK167.out 2).trans rfl,(blk_cell BK133.out _).trans hw_.out⟩ (fun hHeld => ?_)
                      clear hK K
                      refine norm_ (a':=?_) ?_ ?_
                      rotate_left
                      ·show Act.put _ (some 97) _ = _
                       simp only [Act.put,sA_,sB_,sC_,i64_w,i32_w]
                       rfl
                      refine pure_ (i:=10) (N:=some 6) (v:=?_) (a':=?_) #[y_,y_,y_,y_,y_,y_,y_,y_,y_,y_,y_] rfl rfl (any_of HT_.out (by kernel_rfl)) (fun _ _ _ h => h) (Or.inl ⟨by rfl,?_⟩) ?_ ?_
                      rotate_left
                      ·intro w'
                       go_simp
                       with_reducible rfl
                      rotate_left
                      ·simp only [Act.put,sA_,sB_,sC_,i64_w,i32_w]
                       rfl
                      refine done_ (done_of HT_.out (by kernel_rfl)) ?_
                      try go_wp2
                      go_roundg k5
                      case measure => have:=HK1.out;have:=HK2.out;have:=HJ27.out;have:=HK4.out;have:=HK5.out;omega
                      case rel => exact ⟨(t170),(wrap64 (x84_5 + 1)),(t169),(by first | rfl | (simp;done) | (simp [*];done)),H',⟨by have:=HK1.out;have:=HK2.out;have:=HJ27.out;have:=HK4.out;have:=HK5.out;omega⟩,⟨by (with_reducible repeat (first | apply Kd.R_alloc | apply Kd.R_drewN | apply Kd.R_drew));exact Kd.R_mono HO172.out (fun _ hk => trivial)⟩,⟨by (with_reducible repeat (first | refine blk_drewN ?_ _ | refine blk_drew ?_ | refine blk_alloc ?_ _));exact BK133.out⟩,⟨by (with_reducible repeat (first | refine blk_drewN ?_ _ | refine blk_drew ?_ | refine blk_alloc ?_ _));exact BK153.out⟩,⟨by (with_reducible repeat (first | refine blk_drewN ?_ _ | refine blk_drew ?_ | refine blk_alloc ?_ _));exact BK162.out⟩,⟨by repeat (first | (with_reducible first | exact HI132.out | apply IsS143.alloc | apply IsS143.drewN | apply IsS143.drew | apply IsS143.set_0 | refine IsS143.farT (t:=119) (a:=gb133) ?_ (by (with_reducible repeat (first | exact Go.Proofs.YtmmfakdncjeoeaaAid.TyAt.mk BK133.out | apply Go.Proofs.YtmmfakdncjeoeaaAid.TyAt.set | apply Go.Proofs.YtmmfakdncjeoeaaAid.TyAt.alloc | apply Go.Proofs.YtmmfakdncjeoeaaAid.TyAt.drewN | apply Go.Proofs.YtmmfakdncjeoeaaAid.TyAt.drew))) (by decide) (by decide) _ | refine IsS143.farT (t:=56) (a:=gb153) ?_ (by (with_reducible repeat (first | exact Go.Proofs.YtmmfakdncjeoeaaAid.TyAt.mk BK153.out | apply Go.Proofs.YtmmfakdncjeoeaaAid.TyAt.set | apply Go.Proofs.YtmmfakdncjeoeaaAid.TyAt.alloc | apply Go.Proofs.YtmmfakdncjeoeaaAid.TyAt.drewN | apply Go.Proofs.YtmmfakdncjeoeaaAid.TyAt.drew))) (by decide) (by decide) _ | refine IsS143.farT (t:=59) (a:=gb162) ?_ (by (with_reducible repeat (first | exact Go.Proofs.YtmmfakdncjeoeaaAid.TyAt.mk BK162.out | apply Go.Proofs.YtmmfakdncjeoeaaAid.TyAt.set | apply Go.Proofs.YtmmfakdncjeoeaaAid.TyAt.alloc | apply Go.Proofs.YtmmfakdncjeoeaaAid.TyAt.drewN | apply Go.Proofs.YtmmfakdncjeoeaaAid.TyAt.drew))) (by decide) (by decide) _ | refine IsS143.farT (t:=61) (a:=gb167) ?_ (by (with_reducible repeat (first | exact Go.Proofs.YtmmfakdncjeoeaaAid.TyAt.mk BK167.out | apply Go.Proofs.YtmmfakdncjeoeaaAid.TyAt.set | apply Go.Proofs.YtmmfakdncjeoeaaAid.TyAt.alloc | apply Go.Proofs.YtmmfakdncjeoeaaAid.TyAt.drewN | apply Go.Proofs.YtmmfakdncjeoeaaAid.TyAt.drew))) (by decide) (by decide) _) | exact HI132.out)⟩,⟨by repeat (first | (with_reducible first | exact HB.out | apply below_alloc | apply pw_below_drewN | apply below_drew1 | refine below_set ?_ (IsS143.ge HI132.out) | refine below_set ?_ GE133.out | refine below_set ?_ GE153.out | refine below_set ?_ GE162.out | refine below_set ?_ GE167.out) | exact HB.out)⟩⟩
                     ·rw [if_neg c63] at H
                      exact absurd H (by simp)
                    ·rw [if_neg c62] at H
                     exact absurd H (by simp)
                   ·rw [if_neg c61] at H
                    have c61b0 : decide (x84_5 < (((rd_T59 ((rd_T56 l0 x45_2).f1) x72_4).f1).length : Int)) = false:=decide_eq_false c61
                    clear c61
                    have H':=Aside0.mk H
                    clear H
                    go_wp2
                    go_roundg k5
                    case measure => have:=HK1.out;have:=HK2.out;have:=HJ27.out;have:=HK4.out;have:=HK5.out;omega
                    case rel => exact ⟨(x6_5),(wrap64 (x72_4 + 1)),(x133000_5),(by first | rfl | (simp;done) | (simp [*];done)),H',⟨by have:=HK1.out;have:=HK2.out;have:=HJ27.out;have:=HK4.out;have:=HK5.out;omega⟩,⟨by (with_reducible repeat (first | apply Kd.R_alloc | apply Kd.R_drewN | apply Kd.R_drew));exact HO_6.out⟩,⟨by (with_reducible repeat (first | refine blk_drewN ?_ _ | refine blk_drew ?_ | refine blk_alloc ?_ _));exact BK133.out⟩,⟨by (with_reducible repeat (first | refine blk_drewN ?_ _ | refine blk_drew ?_ | refine blk_alloc ?_ _));exact BK153.out⟩,⟨by repeat (first | (with_reducible first | exact HI132.out | apply IsS143.alloc | apply IsS143.drewN | apply IsS143.drew | apply IsS143.set_0 | refine IsS143.farT (t:=119) (a:=gb133) ?_ (by (with_reducible repeat (first | exact Go.Proofs.YtmmfakdncjeoeaaAid.TyAt.mk BK133.out | apply Go.Proofs.YtmmfakdncjeoeaaAid.TyAt.set | apply Go.Proofs.YtmmfakdncjeoeaaAid.TyAt.alloc | apply Go.Proofs.YtmmfakdncjeoeaaAid.TyAt.drewN | apply Go.Proofs.YtmmfakdncjeoeaaAid.TyAt.drew))) (by decide) (by decide) _ | refine IsS143.farT (t:=56) (a:=gb153) ?_ (by (with_reducible repeat (first | exact Go.Proofs.YtmmfakdncjeoeaaAid.TyAt.mk BK153.out | apply Go.Proofs.YtmmfakdncjeoeaaAid.TyAt.set | apply Go.Proofs.YtmmfakdncjeoeaaAid.TyAt.alloc | apply Go.Proofs.YtmmfakdncjeoeaaAid.TyAt.drewN | apply Go.Proofs.YtmmfakdncjeoeaaAid.TyAt.drew))) (by decide) (by decide) _ | refine IsS143.farT (t:=59) (a:=gb162) ?_ (by (with_reducible repeat (first | exact Go.Proofs.YtmmfakdncjeoeaaAid.TyAt.mk BK162.out | apply Go.Proofs.YtmmfakdncjeoeaaAid.TyAt.set | apply Go.Proofs.YtmmfakdncjeoeaaAid.TyAt.alloc | apply Go.Proofs.YtmmfakdncjeoeaaAid.TyAt.drewN | apply Go.Proofs.YtmmfakdncjeoeaaAid.TyAt.drew))) (by decide) (by decide) _) | exact HI132.out)⟩,⟨by repeat (first | (with_reducible first | exact HB.out | apply below_alloc | apply pw_below_drewN | apply below_drew1 | refine below_set ?_ (IsS143.ge HI132.out) | refine below_set ?_ GE133.out | refine below_set ?_ GE153.out | refine below_set ?_ GE162.out) | exact HB.out)⟩⟩
                ·rw [if_neg c51] at H
                 exact absurd H (by simp)
               ·rw [if_neg c50] at H
                exact absurd H (by simp)
              ·rw [if_neg c49] at H
               have c49b0 : decide (x72_4 < (((rd_T56 l0 x45_2).f1).length : Int)) = false:=decide_eq_false c49
               clear c49
               have H':=Aside0.mk H
               clear H
               go_wp2
               go_roundg k4
               case measure => have:=HK1.out;have:=HK2.out;have:=HJ27.out;have:=HK4.out;omega
               case rel => exact ⟨(x6_4),(wrap64 (x45_2 + 1)),(x133000_4),(by first | rfl | (simp;done) | (simp [*];done)),H',⟨by have:=HK1.out;have:=HK2.out;have:=HJ27.out;have:=HK4.out;omega⟩,⟨by (with_reducible repeat (first | apply Kd.R_alloc | apply Kd.R_drewN | apply Kd.R_drew));exact HO_6.out⟩,⟨by (with_reducible repeat (first | refine blk_drewN ?_ _ | refine blk_drew ?_ | refine blk_alloc ?_ _));exact BK133.out⟩,⟨by repeat (first | (with_reducible first | exact HI132.out | apply IsS143.alloc | apply IsS143.drewN | apply IsS143.drew | apply IsS143.set_0 | refine IsS143.farT (t:=119) (a:=gb133) ?_ (by (with_reducible repeat (first | exact Go.Proofs.YtmmfakdncjeoeaaAid.TyAt.mk BK133.out | apply Go.Proofs.YtmmfakdncjeoeaaAid.TyAt.set | apply Go.Proofs.YtmmfakdncjeoeaaAid.TyAt.alloc | apply Go.Proofs.YtmmfakdncjeoeaaAid.TyAt.drewN | apply Go.Proofs.YtmmfakdncjeoeaaAid.TyAt.drew))) (by decide) (by decide) _ | refine IsS143.farT (t:=56) (a:=gb153) ?_ (by (with_reducible repeat (first | exact Go.Proofs.YtmmfakdncjeoeaaAid.TyAt.mk BK153.out | apply Go.Proofs.YtmmfakdncjeoeaaAid.TyAt.set | apply Go.Proofs.YtmmfakdncjeoeaaAid.TyAt.alloc | apply Go.Proofs.YtmmfakdncjeoeaaAid.TyAt.drewN | apply Go.Proofs.YtmmfakdncjeoeaaAid.TyAt.drew))) (by decide) (by decide) _) | exact HI132.out)⟩,⟨by repeat (first | (with_reducible first | exact HB.out | apply below_alloc | apply pw_below_drewN | apply below_drew1 | refine below_set ?_ (IsS143.ge HI132.out) | refine below_set ?_ GE133.out | refine below_set ?_ GE153.out) | exact HB.out)⟩⟩
         ·rw [if_neg c27] at H
          exact absurd H (by simp)
        ·rw [if_neg c26] at H
         exact absurd H (by simp)
       ·rw [if_neg c25] at H
        have c25b0 : decide (x45_2 < (l0.length : Int)) = false:=decide_eq_false c25
        clear c25
        obtain rfl:=Option.some.inj H
        go_wp2
        go_ret
        exact ⟨_,by first | rfl | (simp [errW_none,errW_some] <;> rfl) | (simp [*,errW_none,errW_some] <;> rfl),by (with_reducible repeat (first | apply Kd.R_alloc | apply Kd.R_drewN | apply Kd.R_drew));exact HO_6.out,by repeat (first | (with_reducible first | exact HB.out | apply below_alloc | apply pw_below_drewN | apply below_drew1 | refine below_set ?_ (IsS143.ge HI132.out) | refine below_set ?_ GE133.out) | exact HB.out)⟩
 ·rw [if_neg c4] at H
  exact absurd H (by simp)

end Go.Proofs.Ytmmfakdncjeoeaa.PC
