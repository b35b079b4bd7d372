-- Contracts of Go functions, each with its plain Lean function: written by wip/tools/myprint.py of this work (the kit's print, with contracts proved by hand spliced in).
import Derived.Test.YtmmfakdncjeoeacDoorPEx0
import Derived.Test.YtmmfakdncjeoeacDoorPEx2
import Derived.Test.YtmmfakdncjeoeacDoorPEx3
namespace Go.Proofs.YtmmfakdncjeoeacDoor.PE
open Go.RowKit Go.Proofs.YtmmfakdncjeoeacDoorW.PrintWords Go.Proofs.YtmmfakdncjeoeacDoorW.PrintLast Go.Proofs.YtmmfakdncjeoeacDoorW.PrintMore
attribute [local go_sem] max2_int min2_int max_two min_two max_three min_three max_four min_four   -- for this text's walks alone
set_option linter.unusedVariables false
set_option linter.unusedSimpArgs false

attribute [local go_sem high] eqA69
/-! ### sig_Find: function 18 -/
def sig_Find.l0 : Nat → ByteArray → List (S41) → Int → Int → Option (Int × Bool)
 | 0, _, _, _, _ => none
 | k + 1, x1, x8, x9, x10 => if x10 < x9 then (if 0 ≤ x10 then (if x10 < (x8.length : Int) then (if ((((rd_T41 x8 x10).f0).toList) == x1.toList) = true then (some (x10, true)) else (sig_Find.l0 k x1 x8 x9 (wrap64 (x10 + 1)))) else (none)) else (none)) else (some (0, false))
def sig_Find.f (k : Nat) (l0 : List (S41)) (a1 : ByteArray) : Option (Int × Bool) := sig_Find.l0 k a1 l0 (l0.length : Int) 0
theorem sig_Find.mono_l : ∀ k, (∀ y0 y1 y2 y3, LeO (sig_Find.l0 k y0 y1 y2 y3) (sig_Find.l0 (k + 1) y0 y1 y2 y3))
 | 0 => fun _ _ _ _ r h => by simp [sig_Find.l0] at h
 | k + 1 => by
  have ih0 := sig_Find.mono_l k
  ·intro y0 y1 y2 y3
   unfold sig_Find.l0
   repeat' first
   | (with_reducible exact ih0 _ _ _ _)
   | (with_reducible exact LeO.refl _)
   | (with_reducible exact LeO.none _)
   | (with_reducible refine LeO.ite ?_ ?_)
   | (with_reducible refine LeO.bind ?_ (fun _ => ?_))
   | exact ih0 _ _ _ _
   | exact LeO.none _
   | refine LeO.ite ?_ ?_
   | refine LeO.bind ?_ (fun _ => ?_)
theorem sig_Find.mono : ∀ a0 a1 k, LeO (sig_Find.f k a0 a1) (sig_Find.f (k + 1) a0 a1) := by
 intro a0 a1 k
 have ih0 := sig_Find.mono_l k
 unfold sig_Find.f
 repeat' first
   | (with_reducible exact ih0 _ _ _ _)
   | (with_reducible exact LeO.refl _)
   | (with_reducible exact LeO.none _)
   | (with_reducible refine LeO.ite ?_ ?_)
   | (with_reducible refine LeO.bind ?_ (fun _ => ?_))
   | exact ih0 _ _ _ _
   | exact LeO.none _
   | refine LeO.ite ?_ ?_
   | refine LeO.bind ?_ (fun _ => ?_)
set_option maxHeartbeats 8000000 in
set_option maxRecDepth 100000 in
theorem sig_Find.calls (k : Nat) (A0 : Option Addr) (c0 : Nat) (l0 : List (S41)) (a1 : ByteArray) (r1 : Int) (r2 : Bool) (w : World) (hr0 : Kd.C k41 w A0 l0.length l0) (hc0 : l0.length ≤ c0) (h : sig_Find.f k l0 a1 = some (r1,r2)) :
  Calls Tryd.prog 18 #[.slice A0 l0.length c0,.string a1] w fun e w' => e = .returned (.tuple #[.int .i64 r1,.bool r2]) ∧ Below w.heap.size w w':=by
 have hu41:=Tryd.underlying41
 have hu69:=Tryd.underlying69
 have HR0:=Aside0.mk hr0
 have HC0:=Aside0.mk hc0
 clear hr0 hc0
 have HB:=Aside0.mk (Below.refl w.heap.size w)
 have H : (sig_Find.l0 k a1 l0 (l0.length : Int) 0) = some (r1,r2):=h
 clear h
 have H':=Aside0.mk H
 clear H
 go_enter Tryd.func18,Tryd.ntmps18
 go_wp2
 go_loopg [10] k (fun kq v10 w' => ∃ (x10_1 : Int),v10 = .int .i64 x10_1 ∧ Aside0 (sig_Find.l0 kq a1 l0 (l0.length : Int) x10_1 = some (r1,r2)) ∧ Aside0 (kq ≤ k) ∧ Aside0 (Below w.heap.size w w'))
 case atStart => exact ⟨(0),(by first | rfl | (simp;done) | (simp [*];done)),H',⟨Nat.le_refl _⟩,⟨by repeat (first | (with_reducible first | exact HB.out | apply below_alloc | apply pw_below_drewN | apply below_drew1) | exact HB.out)⟩⟩
 case round =>
  clear H'
  try clear c1
  try clear p2
  obtain ⟨x10_1,rfl,HA,HK1,HB⟩:=hrel
  cases gk with
  | zero => exact absurd HA.out (by simp [sig_Find.l0])
  | succ k1 =>
   have H:=HA.out
   clear HA
   simp only [sig_Find.l0] at H
   by_cases c3 : x10_1 < (l0.length : Int)
   ·rw [if_pos c3] at H
    have c3b0 : decide (x10_1 < (l0.length : Int)) = true:=decide_eq_true c3
    clear c3
    by_cases c4 : 0 ≤ x10_1
    ·rw [if_pos c4] at H
     have c4b0 : decide (0 ≤ x10_1) = true:=decide_eq_true c4
     clear c4
     by_cases c5 : x10_1 < (l0.length : Int)
     ·rw [if_pos c5] at H
      have c5b0 : decide (x10_1 < (l0.length : Int)) = true:=decide_eq_true c5
      clear c5
      by_cases c6 : ((((rd_T41 l0 x10_1).f0).toList) == a1.toList) = true
      ·rw [if_pos c6] at H
       have c6b0 : ((((rd_T41 l0 x10_1).f0).toList) == a1.toList) = true:=c6
       (try (have c6b1 : decide ((((rd_T41 l0 x10_1).f0).toList) = a1.toList) = true:=by simpa using c6))
       (try (have c6b2 : ((((rd_T41 l0 x10_1).f0).toList) == a1.toList) = true:=by simpa using c6))
       clear c6
       simp only [Option.some.injEq,Prod.mk.injEq] at H
       obtain ⟨rfl,rfl⟩:=H
       have p122 : 0 ≤ (x10_1 : Int):=of_decide_eq_true (by first | (with_reducible assumption) | assumption)
       have q122 : x10_1 < (l0.length : Int):=of_decide_eq_true (by first | (with_reducible assumption) | assumption)
       obtain ⟨ad122,A122_1,c122_1,e122,hx122_0,hx122_1,hl122_1,hi122_1⟩:=at_T41 HR0.out x10_1 p122 q122
       cases e122
       replace hx122_0:=(HB.out.cell (World.block_lt_of_cell? w _ hx122_0)).trans hx122_0
       replace hx122_1:=(HB.out.cell (World.block_lt_of_cell? w _ hx122_1)).trans hx122_1
       have HR122_1:=Aside0.mk hi122_1
       have HC122_1:=Aside0.mk hl122_1
       clear hi122_1 hl122_1
       replace p122:=eq_true p122
       replace q122:=eq_true q122
       go_wp2_with (first | ((with_reducible refine gate_dst (N:=7) rfl ?_);refine box_event ?hg (N:=7) ?hd (cs:=#[.string (⟨#[]⟩ : ByteArray),.slice none 0 0]) (t:=41) ?hr ?_;(case hd => rfl);(case hg => rfl);(case hr => first | (go_simp;done) | (go_simp;rfl));intro gb123 hg w7 hbox hb;have n0_:=Aside0.mk (below_step (by repeat (first | (with_reducible first | exact HB.out | apply below_alloc | apply pw_below_drewN | apply below_drew1) | exact HB.out)) hb);have n1_:=Aside0.mk (hbox);have n2_:=Aside0.mk ((by rw [hg];exact (below_size (by repeat (first | (with_reducible first | exact HB.out | apply below_alloc | apply pw_below_drewN | apply below_drew1) | exact HB.out))) : w.heap.size ≤ gb123));have n3_:=Aside0.mk ((by rw [hg];exact (below_size (by repeat (first | (with_reducible first | exact HB.out | apply below_alloc | apply pw_below_drewN | apply below_drew1) | exact HB.out))) : w.heap.size ≤ gb123));clear HB;have HB:=n0_;have BK123:=n1_;have GW123:=n2_;have GE123:=n3_;clear n0_ n1_ n2_ n3_;clear hb hbox hg;have hcz8_0 : w7.cell? ⟨gb123,0,none⟩ = some (.string (⟨#[]⟩ : ByteArray)):=(blk_cell BK123.out 0).trans rfl;have hcz8_1 : w7.cell? ⟨gb123,1,none⟩ = some (.slice none 0 0):=(blk_cell BK123.out 1).trans rfl;have hfz8_0:=blk_frozen BK123.out 0;have hfz8_1:=blk_frozen BK123.out 1))
       go_ret2
       exact ⟨by first | rfl | (simp [errW_none,errW_some] <;> rfl) | (simp [*,errW_none,errW_some] <;> rfl),by repeat (first | (with_reducible first | exact HB.out | apply below_alloc | apply pw_below_drewN | apply below_drew1 | refine below_set ?_ GE123.out) | exact HB.out)⟩
      ·rw [if_neg c6] at H
       have c6b0 : ((((rd_T41 l0 x10_1).f0).toList) == a1.toList) = false:=by simpa using c6
       (try (have c6b1 : decide ((((rd_T41 l0 x10_1).f0).toList) = a1.toList) = false:=by simpa using c6))
       (try (have c6b2 : ((((rd_T41 l0 x10_1).f0).toList) == a1.toList) = false:=by simpa using c6))
       (try (have c6b3 : ¬ ((((rd_T41 l0 x10_1).f0).toList) = a1.toList):=by simpa using c6))
       clear c6
       have H':=Aside0.mk H
       clear H
       have p122 : 0 ≤ (x10_1 : Int):=of_decide_eq_true (by first | (with_reducible assumption) | assumption)
       have q122 : x10_1 < (l0.length : Int):=of_decide_eq_true (by first | (with_reducible assumption) | assumption)
       obtain ⟨ad122,A122_1,c122_1,e122,hx122_0,hx122_1,hl122_1,hi122_1⟩:=at_T41 HR0.out x10_1 p122 q122
       cases e122
       replace hx122_0:=(HB.out.cell (World.block_lt_of_cell? w _ hx122_0)).trans hx122_0
       replace hx122_1:=(HB.out.cell (World.block_lt_of_cell? w _ hx122_1)).trans hx122_1
       have HR122_1:=Aside0.mk hi122_1
       have HC122_1:=Aside0.mk hl122_1
       clear hi122_1 hl122_1
       replace p122:=eq_true p122
       replace q122:=eq_true q122
       go_wp2_with (first | ((with_reducible refine gate_dst (N:=7) rfl ?_);refine box_event ?hg (N:=7) ?hd (cs:=#[.string (⟨#[]⟩ : ByteArray),.slice none 0 0]) (t:=41) ?hr ?_;(case hd => rfl);(case hg => rfl);(case hr => first | (go_simp;done) | (go_simp;rfl));intro gb123 hg w9 hbox hb;have n0_:=Aside0.mk (below_step (by repeat (first | (with_reducible first | exact HB.out | apply below_alloc | apply pw_below_drewN | apply below_drew1) | exact HB.out)) hb);have n1_:=Aside0.mk (hbox);have n2_:=Aside0.mk ((by rw [hg];exact (below_size (by repeat (first | (with_reducible first | exact HB.out | apply below_alloc | apply pw_below_drewN | apply below_drew1) | exact HB.out))) : w.heap.size ≤ gb123));have n3_:=Aside0.mk ((by rw [hg];exact (below_size (by repeat (first | (with_reducible first | exact HB.out | apply below_alloc | apply pw_below_drewN | apply below_drew1) | exact HB.out))) : w.heap.size ≤ gb123));clear HB;have HB:=n0_;have BK123:=n1_;have GW123:=n2_;have GE123:=n3_;clear n0_ n1_ n2_ n3_;clear hb hbox hg;have hcz10_0 : w9.cell? ⟨gb123,0,none⟩ = some (.string (⟨#[]⟩ : ByteArray)):=(blk_cell BK123.out 0).trans rfl;have hcz10_1 : w9.cell? ⟨gb123,1,none⟩ = some (.slice none 0 0):=(blk_cell BK123.out 1).trans rfl;have hfz10_0:=blk_frozen BK123.out 0;have hfz10_1:=blk_frozen BK123.out 1))
       go_roundg k1
       case measure => have:=HK1.out;omega
       case rel => exact ⟨(wrap64 (x10_1 + 1)),(by first | rfl | (simp;done) | (simp [*];done)),H',⟨by have:=HK1.out;omega⟩,⟨by repeat (first | (with_reducible first | exact HB.out | apply below_alloc | apply pw_below_drewN | apply below_drew1 | refine below_set ?_ GE123.out) | exact HB.out)⟩⟩
     ·rw [if_neg c5] at H
      exact absurd H (by simp)
    ·rw [if_neg c4] at H
     exact absurd H (by simp)
   ·rw [if_neg c3] at H
    have c3b0 : decide (x10_1 < (l0.length : Int)) = false:=decide_eq_false c3
    clear c3
    simp only [Option.some.injEq,Prod.mk.injEq] at H
    obtain ⟨rfl,rfl⟩:=H
    go_wp2
    go_ret2
    exact ⟨by first | rfl | (simp [errW_none,errW_some] <;> rfl) | (simp [*,errW_none,errW_some] <;> rfl),by repeat (first | (with_reducible first | exact HB.out | apply below_alloc | apply pw_below_drewN | apply below_drew1) | exact HB.out)⟩

/-! ### sigtext_Parse: function 7 -/
mutual
def sigtext_Parse.l0 : Nat → ByteArray → List (S41) → Int → Option ((List (S41)) × Int × Int × Int)
 | 0, _, _, _ => none
 | k + 1, x0, x5, x6 => if x0.toList = ([] : List UInt8) then (some (x5, 0, 0, 0)) else ((strings_Cut.f x0 (⟨#[10]⟩ : ByteArray)).bind fun bt125 => ((sigtext_pred.f k bt125.1).bind fun bt128 => ((sig_Find.f k x5 bt128.1).bind fun bt134 => (if bt128.2.2 = true then (if bt134.2 = true then (some (([] : List (S41)), 9, x6, 1)) else (if (bt128.2.1.length : Int) > 8 then (sigtext_Parse.j1 k x5 x6 bt125.1 bt125.2.1 bt125.2.2 true bt128.1 bt128.2.1) else (sigtext_Parse.j1 k x5 x6 bt125.1 bt125.2.1 bt125.2.2 (decide (x6 > 64)) bt128.1 bt128.2.1))) else (some (([] : List (S41)), 4, x6, 1))))))
def sigtext_Parse.j1 : Nat → List (S41) → Int → ByteArray → ByteArray → Bool → Bool → ByteArray → List Int → Option ((List (S41)) × Int × Int × Int)
 | 0, _, _, _, _, _, _, _, _ => none
 | k + 1, x5, x6, x7, x8, x9, x45, x134000, x134001 => if x45 = true then (some (([] : List (S41)), 6, x6, 1)) else (if x9 = true then (if x5.length < 3518437208883 then (sigtext_Parse.l0 k x8 (x5 ++ [(⟨x134000, x134001⟩ : S41)]) (wrap64 (x6 + 1))) else (none)) else (some (([] : List (S41)), 4, x6, wrap64 ((x7.size : Int) + 1))))
end
def sigtext_Parse.f (k : Nat) (a0 : ByteArray) : Option ((List (S41)) × Int × Int × Int) := sigtext_Parse.l0 k a0 ([] : List (S41)) 1
theorem sigtext_Parse.mono_l : ∀ k, (∀ y0 y1 y2, LeO (sigtext_Parse.l0 k y0 y1 y2) (sigtext_Parse.l0 (k + 1) y0 y1 y2)) ∧ (∀ y0 y1 y2 y3 y4 y5 y6 y7, LeO (sigtext_Parse.j1 k y0 y1 y2 y3 y4 y5 y6 y7) (sigtext_Parse.j1 (k + 1) y0 y1 y2 y3 y4 y5 y6 y7))
 | 0 => ⟨fun _ _ _ r h => by simp [sigtext_Parse.l0] at h, fun _ _ _ _ _ _ _ _ r h => by simp [sigtext_Parse.j1] at h⟩
 | k + 1 => by
  obtain ⟨ih0, ih1⟩ := sigtext_Parse.mono_l k
  refine ⟨?_, ?_⟩
  ·intro y0 y1 y2
   unfold sigtext_Parse.l0
   repeat' first
   | (with_reducible exact ih0 _ _ _)
   | (with_reducible exact ih1 _ _ _ _ _ _ _ _)
   | (with_reducible exact sig_Find.mono _ _ _)
   | (with_reducible exact sigtext_pred.mono _ _)
   | (with_reducible exact LeO.refl _)
   | (with_reducible exact LeO.none _)
   | (with_reducible refine LeO.ite ?_ ?_)
   | (with_reducible refine LeO.bind ?_ (fun _ => ?_))
   | exact ih0 _ _ _
   | exact ih1 _ _ _ _ _ _ _ _
   | exact sig_Find.mono _ _ _
   | exact sigtext_pred.mono _ _
   | exact LeO.none _
   | refine LeO.ite ?_ ?_
   | refine LeO.bind ?_ (fun _ => ?_)
  ·intro y0 y1 y2 y3 y4 y5 y6 y7
   unfold sigtext_Parse.j1
   repeat' first
   | (with_reducible exact ih0 _ _ _)
   | (with_reducible exact ih1 _ _ _ _ _ _ _ _)
   | (with_reducible exact sig_Find.mono _ _ _)
   | (with_reducible exact sigtext_pred.mono _ _)
   | (with_reducible exact LeO.refl _)
   | (with_reducible exact LeO.none _)
   | (with_reducible refine LeO.ite ?_ ?_)
   | (with_reducible refine LeO.bind ?_ (fun _ => ?_))
   | exact ih0 _ _ _
   | exact ih1 _ _ _ _ _ _ _ _
   | exact sig_Find.mono _ _ _
   | exact sigtext_pred.mono _ _
   | exact LeO.none _
   | refine LeO.ite ?_ ?_
   | refine LeO.bind ?_ (fun _ => ?_)
theorem sigtext_Parse.mono : ∀ a0 k, LeO (sigtext_Parse.f k a0) (sigtext_Parse.f (k + 1) a0) := by
 intro a0 k
 obtain ⟨ih0, ih1⟩ := sigtext_Parse.mono_l k
 unfold sigtext_Parse.f
 repeat' first
   | (with_reducible exact ih0 _ _ _)
   | (with_reducible exact ih1 _ _ _ _ _ _ _ _)
   | (with_reducible exact sig_Find.mono _ _ _)
   | (with_reducible exact sigtext_pred.mono _ _)
   | (with_reducible exact LeO.refl _)
   | (with_reducible exact LeO.none _)
   | (with_reducible refine LeO.ite ?_ ?_)
   | (with_reducible refine LeO.bind ?_ (fun _ => ?_))
   | exact ih0 _ _ _
   | exact ih1 _ _ _ _ _ _ _ _
   | exact sig_Find.mono _ _ _
   | exact sigtext_pred.mono _ _
   | exact LeO.none _
   | refine LeO.ite ?_ ?_
   | refine LeO.bind ?_ (fun _ => ?_)
set_option maxHeartbeats 8000000 in
set_option maxRecDepth 100000 in
theorem sigtext_Parse.calls (k : Nat) (a0 : ByteArray) (r1 : List (S41)) (r2 : Int) (r3 : Int) (r4 : Int) (w : World) (h : sigtext_Parse.f k a0 = some (r1,r2,r3,r4)) (hg : Go.Proofs.YtmmfakdncjeoeacDoorAid.Glob w) :
  Calls Tryd.prog 7 #[.string a0] w fun e w' => ∃ v0_ : Value,e = .returned (.tuple #[v0_,.int .i64 r2,.agg #[.int .i64 r3,.int .i64 r4]]) ∧ Kd.S k41 41 w' w.heap.size (fun _ => True) v0_ r1 ∧ Below w.heap.size w w':=by
 have hu26:=Tryd.underlying26
 have hu41:=Tryd.underlying41
 have HB:=Aside0.mk (Below.refl w.heap.size w)
 have HG:=Aside0.mk hg
 clear hg
 have H : (sigtext_Parse.l0 k a0 ([] : List (S41)) 1) = some (r1,r2,r3,r4):=h
 clear h
 have H':=Aside0.mk H
 clear H
 go_enter Tryd.func7,Tryd.ntmps7
 go_wp2_with (first | ((with_reducible refine gate_dst (N:=4) rfl ?_);refine box_event ?hg (N:=4) ?hd (cs:=#[.int .i64 0,.int .i64 0]) (t:=26) ?hr ?_;(case hd => rfl);(case hg => rfl);(case hr => first | (go_simp;done) | (go_simp;rfl));intro gb124 hg w2 hbox hb;have n0_:=Aside0.mk (below_step (by repeat (first | (with_reducible first | exact HB.out | apply below_alloc | apply pw_below_drewN | apply below_drew1) | exact HB.out)) hb);have n1_:=Aside0.mk (hbox);have n2_:=Aside0.mk ((by rw [hg];exact (below_size (by repeat (first | (with_reducible first | exact HB.out | apply below_alloc | apply pw_below_drewN | apply below_drew1) | exact HB.out))) : w.heap.size ≤ gb124));have n3_:=Aside0.mk ((by rw [hg];exact (below_size (by repeat (first | (with_reducible first | exact HB.out | apply below_alloc | apply pw_below_drewN | apply below_drew1) | exact HB.out))) : w.heap.size ≤ gb124));clear HB;have HB:=n0_;have BK124:=n1_;have GW124:=n2_;have GE124:=n3_;clear n0_ n1_ n2_ n3_;clear hb hbox hg))
 go_loopg [0,5,6] k (fun kq v0 v5 v6 w' => ∃ (x0_1 : ByteArray) (x5_1 : List (S41)) (x6_1 : Int) (x125000_1 : Int) (x125001_1 : Int),v0 = .string x0_1 ∧ v6 = .int .i64 x6_1 ∧ Aside0 (sigtext_Parse.l0 kq x0_1 x5_1 x6_1 = some (r1,r2,r3,r4)) ∧ Aside0 (kq ≤ k) ∧ Aside0 (Kd.S k41 41 w' w.heap.size (fun _ => True) v5 x5_1) ∧ Aside0 (w'.heap[gb124]? = some (.cells #[.int .i64 x125000_1,.int .i64 x125001_1] 26 (0,0))) ∧ Aside0 (Below w.heap.size w w'))
 case atStart => exact ⟨(a0),(([] : List (S41))),(1),(0),(0),(by first | rfl | (simp;done) | (simp [*];done)),(by first | rfl | (simp;done) | (simp [*];done)),H',⟨Nat.le_refl _⟩,⟨by first | exact Kd.S_nil _ _ _ _ _ | exact Kd.N_nil _ _ _ _ _ | exact Kd.V_nil _ _ _ _ _ | exact Kd.Q_nil _ _ _ _ _ | exact Kd.R_nil _ _ _ _ _⟩,⟨by (with_reducible repeat (first | refine blk_drewN ?_ _ | refine blk_drew ?_ | refine blk_alloc ?_ _));exact BK124.out⟩,⟨by repeat (first | (with_reducible first | exact HB.out | apply below_alloc | apply pw_below_drewN | apply below_drew1 | refine below_set ?_ GE124.out) | exact HB.out)⟩⟩
 case round =>
  clear H'
  try clear p2
  obtain ⟨x0_1,x5_1,x6_1,x125000_1,x125001_1,rfl,rfl,HA,HK1,HO_5,BK124,HB⟩:=hrel
  cases gk with
  | zero => exact absurd HA.out (by simp [sigtext_Parse.l0])
  | succ k1 =>
   have H:=HA.out
   clear HA
   simp only [sigtext_Parse.l0] at H
   by_cases c3 : x0_1.toList = ([] : List UInt8)
   ·rw [if_pos c3] at H
    have c3b0 : (x0_1.toList == ([] : List UInt8)) = true:=beq_iff_eq.mpr c3
    have c3b1 : (x0_1.toList != ([] : List UInt8)) = false:=bne_eq_false_iff_eq.mpr c3
    clear c3
    simp only [Option.some.injEq,Prod.mk.injEq] at H
    obtain ⟨rfl,rfl,rfl,rfl⟩:=H
    have hcz4_0 : wr.cell? ⟨gb124,0,none⟩ = some (.int .i64 x125000_1):=(blk_cell BK124.out 0).trans rfl
    have hcz4_1 : wr.cell? ⟨gb124,1,none⟩ = some (.int .i64 x125001_1):=(blk_cell BK124.out 1).trans rfl
    have hfz4_0:=blk_frozen BK124.out 0
    have hfz4_1:=blk_frozen BK124.out 1
    go_wp2
    refine bodyPost_ret (results_list (rs:=[.tmp 2,.tmp 3,.cell 4 26]) rfl (by simp) (.tmp (.tmp (.cell gb124 26 #[.int .i64 0,.int .i64 0] (0,0) _ rfl (by (with_reducible repeat (first | refine blk_drewN ?_ _ | refine blk_drew ?_ | refine blk_alloc ?_ _));refine blk_put (cs:=#[.int .i64 0,.int .i64 x125001_1]) ?_ 1 _ rfl;(with_reducible repeat (first | refine blk_drewN ?_ _ | refine blk_drew ?_ | refine blk_alloc ?_ _));refine blk_put (cs:=#[.int .i64 x125000_1,.int .i64 x125001_1]) ?_ 0 _ rfl;(with_reducible repeat (first | refine blk_drewN ?_ _ | refine blk_drew ?_ | refine blk_alloc ?_ _));exact BK124.out) Tryd.underlying26 rfl (by kernel_rfl) .nil)))) rfl ?_
    exact ⟨_,by first | rfl | (simp [errW_none,errW_some] <;> rfl) | (simp [*,errW_none,errW_some] <;> rfl),by (with_reducible repeat (first | apply Kd.S_alloc | apply Kd.S_drewN | apply Kd.S_drew));exact Kd.S_mono (Kd.S_far (p:=⟨gb124,1,none⟩) (Kd.S_far (p:=⟨gb124,0,none⟩) (Kd.S_types HO_5.out BK124.out (by decide)) (fun _ hk => hk.2) (.int .i64 0)) (fun _ hk => hk.2) (.int .i64 0)) (fun _ hk => trivial),by repeat (first | (with_reducible first | exact HB.out | apply below_alloc | apply pw_below_drewN | apply below_drew1 | refine below_set ?_ GE124.out) | exact HB.out)⟩
   ·rw [if_neg c3] at H
    have c3b0 : (x0_1.toList == ([] : List UInt8)) = false:=beq_eq_false_iff_ne.mpr c3
    have c3b1 : (x0_1.toList != ([] : List UInt8)) = true:=bne_iff_ne.mpr c3
    replace H:=Option.bind_eq_some_iff.mp H
    obtain ⟨⟨t125,t126,t127⟩,A50,H⟩:=H
    replace H : ((sigtext_pred.f k1 t125).bind fun bt128 => ((sig_Find.f k1 x5_1 bt128.1).bind fun bt134 => (if bt128.2.2 = true then (if bt134.2 = true then (some (([] : List (S41)),9,x6_1,1)) else (if (bt128.2.1.length : Int) > 8 then (sigtext_Parse.j1 k1 x5_1 x6_1 t125 t126 t127 true bt128.1 bt128.2.1) else (sigtext_Parse.j1 k1 x5_1 x6_1 t125 t126 t127 (decide (x6_1 > 64)) bt128.1 bt128.2.1))) else (some (([] : List (S41)),4,x6_1,1))))) = some (r1,r2,r3,r4):=H
    have A5:=Aside0.mk A50
    clear A50
    replace H:=Option.bind_eq_some_iff.mp H
    obtain ⟨⟨t128,t129,t132⟩,A60,H⟩:=H
    replace H : ((sig_Find.f k1 x5_1 t128).bind fun bt134 => (if t132 = true then (if bt134.2 = true then (some (([] : List (S41)),9,x6_1,1)) else (if (t129.length : Int) > 8 then (sigtext_Parse.j1 k1 x5_1 x6_1 t125 t126 t127 true t128 t129) else (sigtext_Parse.j1 k1 x5_1 x6_1 t125 t126 t127 (decide (x6_1 > 64)) t128 t129))) else (some (([] : List (S41)),4,x6_1,1)))) = some (r1,r2,r3,r4):=H
    have A6:=Aside0.mk A60
    clear A60
    replace H:=Option.bind_eq_some_iff.mp H
    obtain ⟨⟨t134,t135⟩,A70,H⟩:=H
    replace H : (if t132 = true then (if t135 = true then (some (([] : List (S41)),9,x6_1,1)) else (if (t129.length : Int) > 8 then (sigtext_Parse.j1 k1 x5_1 x6_1 t125 t126 t127 true t128 t129) else (sigtext_Parse.j1 k1 x5_1 x6_1 t125 t126 t127 (decide (x6_1 > 64)) t128 t129))) else (some (([] : List (S41)),4,x6_1,1))) = some (r1,r2,r3,r4):=H
    have A7:=Aside0.mk A70
    clear A70
    by_cases c8 : t132 = true
    ·subst c8
     have H1 : (if t135 = true then (some (([] : List (S41)),9,x6_1,1)) else (if (t129.length : Int) > 8 then (sigtext_Parse.j1 k1 x5_1 x6_1 t125 t126 t127 true t128 t129) else (sigtext_Parse.j1 k1 x5_1 x6_1 t125 t126 t127 (decide (x6_1 > 64)) t128 t129))) = some (r1,r2,r3,r4):=by rw [if_pos rfl] at H;exact H
     clear H
     have H:=H1
     clear H1
     by_cases c9 : t135 = true
     ·subst c9
      have H1 : (some (([] : List (S41)),9,x6_1,1)) = some (r1,r2,r3,r4):=by rw [if_pos rfl] at H;exact H
      clear H
      have H:=H1
      clear H1
      simp only [Option.some.injEq,Prod.mk.injEq] at H
      obtain ⟨rfl,rfl,rfl,rfl⟩:=H
      go_wp2_with (first | ((with_reducible refine gate_callee (f:=16) rfl ?_);refine goesL_ (some 20) rfl rfl Tryd.func16 (by kernel_rfl) rfl #[.string x0_1,.string (⟨#[10]⟩ : ByteArray)] rfl (by (try simp only [List.map_toArray,List.map_cons,List.map_nil]);first | done | rfl | (simp only [List.length_drop,List.length_take];rfl)) ?_;(with_reducible refine (strings_Cut.callsG x0_1 (⟨#[10]⟩ : ByteArray) t125 t126 t127 _ A5.out (HG.out.below (by repeat (first | (with_reducible first | exact HB.out | apply below_alloc | apply pw_below_drewN | apply below_drew1 | refine below_set ?_ GE124.out | refine below_set ?_ GE133.out) | exact HB.out)))).mono ?_);rintro e w' ⟨rfl,⟨nd,rfl⟩⟩;refine ⟨_,rfl,?_⟩;(try (rw [drewN_self wr];generalize hq_ : World.drewN wr _ = wr;have n0_ : Aside0 (Kd.S k41 41 wr w.heap.size (fun _ => True) u5 x5_1):=⟨by rw [← hq_];exact (by (with_reducible repeat (first | apply Kd.S_alloc | apply Kd.S_drewN | apply Kd.S_drew));exact HO_5.out)⟩;have n1_ : Aside0 (wr.heap[gb124]? = some (.cells #[.int .i64 x125000_1,.int .i64 x125001_1] 26 (0,0))):=⟨by rw [← hq_];exact (by (with_reducible repeat (first | refine blk_drewN ?_ _ | refine blk_drew ?_ | refine blk_alloc ?_ _));exact BK124.out)⟩;have n2_ : Aside0 (Below w.heap.size w wr):=⟨by rw [← hq_];exact (by repeat (first | (with_reducible first | exact HB.out | apply below_alloc | apply pw_below_drewN | apply below_drew1 | refine below_set ?_ GE124.out) | exact HB.out))⟩;clear HO_5 BK124 HB hq_;have HO_5:=n0_;have BK124:=n1_;have HB:=n2_;clear n0_ n1_ n2_));(try (have hczU124_0 : wr.cell? ⟨gb124,0,none⟩ = some (.int .i64 x125000_1):=(blk_cell BK124.out 0).trans rfl));(try (have hczU124_1 : wr.cell? ⟨gb124,1,none⟩ = some (.int .i64 x125001_1):=(blk_cell BK124.out 1).trans rfl))) | ((with_reducible refine gate_callee (f:=17) rfl ?_);refine goesL_ (some 26) rfl rfl Tryd.func17 (by kernel_rfl) rfl #[.string t125] rfl (by (try simp only [List.map_toArray,List.map_cons,List.map_nil]);first | done | rfl | (simp only [List.length_drop,List.length_take];rfl)) ?_;(with_reducible refine (sigtext_pred.calls k1 t125 t128 t129 true _ A6.out (HG.out.below (by repeat (first | (with_reducible first | exact HB.out | apply below_alloc | apply pw_below_drewN | apply below_drew1 | refine below_set ?_ GE124.out | refine below_set ?_ GE133.out) | exact HB.out)))).mono ?_);rintro e w10 ⟨v130,rfl,ho0,hb⟩;refine ⟨_,rfl,?_⟩;have n0_:=Aside0.mk (Kd.S_elder' (by (with_reducible repeat (first | apply Kd.S_alloc | apply Kd.S_drewN | apply Kd.S_drew));exact HO_5.out) (Kd.R_base ho0) hb);have n1_:=Aside0.mk (Kd.R_lower ho0 (below_size (by repeat (first | (with_reducible first | exact HB.out | apply below_alloc | apply pw_below_drewN | apply below_drew1 | refine below_set ?_ GE124.out) | exact HB.out))));have n2_:=Aside0.mk (blk_below (g:=gb124) (o:=.cells #[.int .i64 x125000_1,.int .i64 x125001_1] 26 (0,0)) (by (with_reducible repeat (first | refine blk_drewN ?_ _ | refine blk_drew ?_ | refine blk_alloc ?_ _));exact BK124.out) hb);have n3_:=Aside0.mk (below_step (by repeat (first | (with_reducible first | exact HB.out | apply below_alloc | apply pw_below_drewN | apply below_drew1 | refine below_set ?_ GE124.out) | exact HB.out)) hb);clear HO_5;clear BK124;clear HB;have HO_5:=n0_;have HO131:=n1_;have BK124:=n2_;have HB:=n3_;clear n0_ n1_ n2_ n3_;(try clear hb);(try clear hb2);(try clear hk);(try clear hi);(try clear ho0)) | ((with_reducible refine gate_dst (N:=10) rfl ?_);refine box_event ?hg (N:=10) ?hd (cs:=#[.string (⟨#[]⟩ : ByteArray),.slice none 0 0]) (t:=41) ?hr ?_;(case hd => rfl);(case hg => rfl);(case hr => first | (go_simp;done) | (go_simp;rfl));intro gb133 hg w11 hbox hb;have n0_:=Aside0.mk (Kd.S_below (Kd.S_elderB (by (with_reducible repeat (first | apply Kd.S_alloc | apply Kd.S_drewN | apply Kd.S_drew));exact HO_5.out) gb133 (Nat.le_of_eq hg.symm)) hb);have n1_:=Aside0.mk (Kd.R_below (by (with_reducible repeat (first | apply Kd.R_alloc | apply Kd.R_drewN | apply Kd.R_drew));exact HO131.out) hb);have n2_:=Aside0.mk (blk_below (g:=gb124) (o:=.cells #[.int .i64 x125000_1,.int .i64 x125001_1] 26 (0,0)) (by (with_reducible repeat (first | refine blk_drewN ?_ _ | refine blk_drew ?_ | refine blk_alloc ?_ _));exact BK124.out) hb);have n3_:=Aside0.mk (below_step (by repeat (first | (with_reducible first | exact HB.out | apply below_alloc | apply pw_below_drewN | apply below_drew1 | refine below_set ?_ GE124.out) | exact HB.out)) hb);have n4_:=Aside0.mk (hbox);have n5_:=Aside0.mk ((by rw [hg];exact (below_size (by repeat (first | (with_reducible first | exact HB.out | apply below_alloc | apply pw_below_drewN | apply below_drew1 | refine below_set ?_ GE124.out) | exact HB.out))) : w.heap.size ≤ gb133));have n6_:=Aside0.mk ((by rw [hg];exact (below_size (by repeat (first | (with_reducible first | exact HB.out | apply below_alloc | apply pw_below_drewN | apply below_drew1 | refine below_set ?_ GE124.out) | exact HB.out))) : w.heap.size ≤ gb133));have n7_:=Aside0.mk ((by rw [hg];exact Nat.ne_of_lt (blk_lt (g:=gb124) (o:=.cells #[.int .i64 x125000_1,.int .i64 x125001_1] 26 (0,0)) (by (with_reducible repeat (first | refine blk_drewN ?_ _ | refine blk_drew ?_ | refine blk_alloc ?_ _));exact BK124.out)) : gb124 ≠ gb133));have n8_:=Aside0.mk ((by rw [hg];exact Nat.ne_of_gt (blk_lt (g:=gb124) (o:=.cells #[.int .i64 x125000_1,.int .i64 x125001_1] 26 (0,0)) (by (with_reducible repeat (first | refine blk_drewN ?_ _ | refine blk_drew ?_ | refine blk_alloc ?_ _));exact BK124.out)) : gb133 ≠ gb124));clear HO_5;clear HO131;clear BK124;clear HB;have HO_5:=n0_;have HO131:=n1_;have BK124:=n2_;have HB:=n3_;have BK133:=n4_;have GW133:=n5_;have GE133:=n6_;have NB124_133:=n7_;have NB133_124:=n8_;clear n0_ n1_ n2_ n3_ n4_ n5_ n6_ n7_ n8_;clear hb hbox hg;have hnb12:=NB133_124.out;have hnc12:=NB124_133.out;have hcz13_0 : w11.cell? ⟨gb133,0,none⟩ = some (.string (⟨#[]⟩ : ByteArray)):=(blk_cell BK133.out 0).trans rfl;have hcz13_1 : w11.cell? ⟨gb133,1,none⟩ = some (.slice none 0 0):=(blk_cell BK133.out 1).trans rfl;have hfz13_0:=blk_frozen BK133.out 0;have hfz13_1:=blk_frozen BK133.out 1;obtain ⟨Ao14,co14,eo14⟩:=Kd.R_slice HO131.out;subst eo14;obtain ⟨Ao15,co15,eo15⟩:=Kd.S_slice HO_5.out;subst eo15) | ((with_reducible refine gate_callee (f:=18) rfl ?_);refine goesL_ (some 33) rfl rfl Tryd.func18 (by kernel_rfl) rfl #[.slice Ao15 x5_1.length co15,.string t128] rfl (by (try simp only [List.map_toArray,List.map_cons,List.map_nil]);first | done | rfl | (simp only [List.length_drop,List.length_take];rfl)) ?_;(with_reducible refine (sig_Find.calls k1 _ _ x5_1 t128 t134 true _ ?side1 ?side2 A7.out).mono ?_);(case side1 => refine (Kd.S_reads' (e:=41) (base:=w.heap.size) (ok:=fun k_ => ((True ∧ some k_ ≠ (.slice Ao14 t129.length co14 : Value).ownBlock) ∧ k_ ≠ gb133)) (n:=x5_1.length) (c:=co15) ?_).2.2;exact (by (with_reducible repeat (first | apply Kd.S_alloc | apply Kd.S_drewN | apply Kd.S_drew));exact (Kd.S_mono (Kd.S_far (p:=⟨gb133,1,none⟩) (Kd.S_far (p:=⟨gb133,0,none⟩) (Kd.S_mono HO_5.out (fun k_ hk => (⟨hk,hk.2⟩ : _ ∧ k_ ≠ gb133))) (fun _ hk => hk.2) (.string t128)) (fun _ hk => hk.2) (.slice Ao14 t129.length co14)) (fun _ h_ => h_.1))));(case side2 => exact (Kd.S_reads' HO_5.out).2.1);rintro e w16 ⟨rfl,hb⟩;refine ⟨_,rfl,?_⟩;have n0_:=Aside0.mk (Kd.S_below (by (with_reducible repeat (first | apply Kd.S_alloc | apply Kd.S_drewN | apply Kd.S_drew));exact (Kd.S_mono (Kd.S_far (p:=⟨gb133,1,none⟩) (Kd.S_far (p:=⟨gb133,0,none⟩) (Kd.S_mono HO_5.out (fun k_ hk => (⟨hk,hk.2⟩ : _ ∧ k_ ≠ gb133))) (fun _ hk => hk.2) (.string t128)) (fun _ hk => hk.2) (.slice Ao14 t129.length co14)) (fun _ h_ => h_.1))) hb);have n1_:=Aside0.mk (Kd.R_below (by (with_reducible repeat (first | apply Kd.R_alloc | apply Kd.R_drewN | apply Kd.R_drew));exact (Kd.R_mono (Kd.R_far (p:=⟨gb133,1,none⟩) (Kd.R_far (p:=⟨gb133,0,none⟩) (Kd.R_types HO131.out BK133.out (by decide)) (fun _ hk => hk.2) (.string t128)) (fun _ hk => hk.2) (.slice Ao14 t129.length co14)) (fun _ h_ => h_.1))) hb);have n2_:=Aside0.mk (blk_below (g:=gb124) (o:=.cells #[.int .i64 x125000_1,.int .i64 x125001_1] 26 (0,0)) (by (with_reducible repeat (first | refine blk_drewN ?_ _ | refine blk_drew ?_ | refine blk_alloc ?_ _));refine blk_far ?_ NB124_133.out _;(with_reducible repeat (first | refine blk_drewN ?_ _ | refine blk_drew ?_ | refine blk_alloc ?_ _));refine blk_far ?_ NB124_133.out _;(with_reducible repeat (first | refine blk_drewN ?_ _ | refine blk_drew ?_ | refine blk_alloc ?_ _));exact BK124.out) hb);have n3_:=Aside0.mk (blk_below (g:=gb133) (o:=.cells #[.string t128,.slice Ao14 t129.length co14] 41 (0,0)) (by (with_reducible repeat (first | refine blk_drewN ?_ _ | refine blk_drew ?_ | refine blk_alloc ?_ _));refine blk_put (cs:=#[.string t128,.slice none 0 0]) ?_ 1 _ rfl;(with_reducible repeat (first | refine blk_drewN ?_ _ | refine blk_drew ?_ | refine blk_alloc ?_ _));refine blk_put (cs:=#[.string (⟨#[]⟩ : ByteArray),.slice none 0 0]) ?_ 0 _ rfl;(with_reducible repeat (first | refine blk_drewN ?_ _ | refine blk_drew ?_ | refine blk_alloc ?_ _));exact BK133.out) hb);have n4_:=Aside0.mk (below_step (by repeat (first | (with_reducible first | exact HB.out | apply below_alloc | apply pw_below_drewN | apply below_drew1 | refine below_set ?_ GE124.out | refine below_set ?_ GE133.out) | exact HB.out)) hb);clear HO_5;clear HO131;clear BK124;clear BK133;clear HB;have HO_5:=n0_;have HO131:=n1_;have BK124:=n2_;have BK133:=n3_;have HB:=n4_;clear n0_ n1_ n2_ n3_ n4_;(try clear hb);(try clear hb2);(try clear hk);(try clear hi);have hcz17_0 : w16.cell? ⟨gb124,0,none⟩ = some (.int .i64 x125000_1):=(blk_cell BK124.out 0).trans rfl;have hcz17_1 : w16.cell? ⟨gb124,1,none⟩ = some (.int .i64 x125001_1):=(blk_cell BK124.out 1).trans rfl;have hfz17_0:=blk_frozen BK124.out 0;have hfz17_1:=blk_frozen BK124.out 1))
      refine bodyPost_ret (results_list (rs:=[.tmp 2,.tmp 3,.cell 4 26]) rfl (by simp) (.tmp (.tmp (.cell gb124 26 #[.int .i64 x6_1,.int .i64 1] (0,0) _ rfl (by (with_reducible repeat (first | refine blk_drewN ?_ _ | refine blk_drew ?_ | refine blk_alloc ?_ _));refine blk_put (cs:=#[.int .i64 x6_1,.int .i64 x125001_1]) ?_ 1 _ rfl;(with_reducible repeat (first | refine blk_drewN ?_ _ | refine blk_drew ?_ | refine blk_alloc ?_ _));refine blk_put (cs:=#[.int .i64 x125000_1,.int .i64 x125001_1]) ?_ 0 _ rfl;(with_reducible repeat (first | refine blk_drewN ?_ _ | refine blk_drew ?_ | refine blk_alloc ?_ _));exact BK124.out) Tryd.underlying26 rfl (by kernel_rfl) .nil)))) rfl ?_
      exact ⟨_,by first | rfl | (simp [errW_none,errW_some] <;> rfl) | (simp [*,errW_none,errW_some] <;> rfl),by first | exact Kd.S_nil _ _ _ _ _ | exact Kd.N_nil _ _ _ _ _ | exact Kd.V_nil _ _ _ _ _ | exact Kd.Q_nil _ _ _ _ _ | exact Kd.R_nil _ _ _ _ _,by repeat (first | (with_reducible first | exact HB.out | apply below_alloc | apply pw_below_drewN | apply below_drew1 | refine below_set ?_ GE124.out | refine below_set ?_ GE133.out) | exact HB.out)⟩
     ·replace c9:=Bool.eq_false_iff.mpr c9
      subst c9
      have H1 : (if (t129.length : Int) > 8 then (sigtext_Parse.j1 k1 x5_1 x6_1 t125 t126 t127 true t128 t129) else (sigtext_Parse.j1 k1 x5_1 x6_1 t125 t126 t127 (decide (x6_1 > 64)) t128 t129)) = some (r1,r2,r3,r4):=by rw [if_neg (show ¬ (false = true) by decide)] at H;exact H
      clear H
      have H:=H1
      clear H1
      have HC18:=Aside0.mk H
      clear H
      go_upto_region 12 with (first | ((with_reducible refine gate_callee (f:=16) rfl ?_);refine goesL_ (some 20) rfl rfl Tryd.func16 (by kernel_rfl) rfl #[.string x0_1,.string (⟨#[10]⟩ : ByteArray)] rfl (by (try simp only [List.map_toArray,List.map_cons,List.map_nil]);first | done | rfl | (simp only [List.length_drop,List.length_take];rfl)) ?_;(with_reducible refine (strings_Cut.callsG x0_1 (⟨#[10]⟩ : ByteArray) t125 t126 t127 _ A5.out (HG.out.below (by repeat (first | (with_reducible first | exact HB.out | apply below_alloc | apply pw_below_drewN | apply below_drew1 | refine below_set ?_ GE124.out | refine below_set ?_ GE133.out) | exact HB.out)))).mono ?_);rintro e w' ⟨rfl,⟨nd,rfl⟩⟩;refine ⟨_,rfl,?_⟩;(try (rw [drewN_self wr];generalize hq_ : World.drewN wr _ = wr;have n0_ : Aside0 (Kd.S k41 41 wr w.heap.size (fun _ => True) u5 x5_1):=⟨by rw [← hq_];exact (by (with_reducible repeat (first | apply Kd.S_alloc | apply Kd.S_drewN | apply Kd.S_drew));exact HO_5.out)⟩;have n1_ : Aside0 (wr.heap[gb124]? = some (.cells #[.int .i64 x125000_1,.int .i64 x125001_1] 26 (0,0))):=⟨by rw [← hq_];exact (by (with_reducible repeat (first | refine blk_drewN ?_ _ | refine blk_drew ?_ | refine blk_alloc ?_ _));exact BK124.out)⟩;have n2_ : Aside0 (Below w.heap.size w wr):=⟨by rw [← hq_];exact (by repeat (first | (with_reducible first | exact HB.out | apply below_alloc | apply pw_below_drewN | apply below_drew1 | refine below_set ?_ GE124.out) | exact HB.out))⟩;clear HO_5 BK124 HB hq_;have HO_5:=n0_;have BK124:=n1_;have HB:=n2_;clear n0_ n1_ n2_));(try (have hczU124_0 : wr.cell? ⟨gb124,0,none⟩ = some (.int .i64 x125000_1):=(blk_cell BK124.out 0).trans rfl));(try (have hczU124_1 : wr.cell? ⟨gb124,1,none⟩ = some (.int .i64 x125001_1):=(blk_cell BK124.out 1).trans rfl))) | ((with_reducible refine gate_callee (f:=17) rfl ?_);refine goesL_ (some 26) rfl rfl Tryd.func17 (by kernel_rfl) rfl #[.string t125] rfl (by (try simp only [List.map_toArray,List.map_cons,List.map_nil]);first | done | rfl | (simp only [List.length_drop,List.length_take];rfl)) ?_;(with_reducible refine (sigtext_pred.calls k1 t125 t128 t129 true _ A6.out (HG.out.below (by repeat (first | (with_reducible first | exact HB.out | apply below_alloc | apply pw_below_drewN | apply below_drew1 | refine below_set ?_ GE124.out | refine below_set ?_ GE133.out) | exact HB.out)))).mono ?_);rintro e w19 ⟨v130,rfl,ho0,hb⟩;refine ⟨_,rfl,?_⟩;have n0_:=Aside0.mk (Kd.S_elder' (by (with_reducible repeat (first | apply Kd.S_alloc | apply Kd.S_drewN | apply Kd.S_drew));exact HO_5.out) (Kd.R_base ho0) hb);have n1_:=Aside0.mk (Kd.R_lower ho0 (below_size (by repeat (first | (with_reducible first | exact HB.out | apply below_alloc | apply pw_below_drewN | apply below_drew1 | refine below_set ?_ GE124.out) | exact HB.out))));have n2_:=Aside0.mk (blk_below (g:=gb124) (o:=.cells #[.int .i64 x125000_1,.int .i64 x125001_1] 26 (0,0)) (by (with_reducible repeat (first | refine blk_drewN ?_ _ | refine blk_drew ?_ | refine blk_alloc ?_ _));exact BK124.out) hb);have n3_:=Aside0.mk (below_step (by repeat (first | (with_reducible first | exact HB.out | apply below_alloc | apply pw_below_drewN | apply below_drew1 | refine below_set ?_ GE124.out) | exact HB.out)) hb);clear HO_5;clear BK124;clear HB;have HO_5:=n0_;have HO131:=n1_;have BK124:=n2_;have HB:=n3_;clear n0_ n1_ n2_ n3_;(try clear hb);(try clear hb2);(try clear hk);(try clear hi);(try clear ho0)) | ((with_reducible refine gate_dst (N:=10) rfl ?_);refine box_event ?hg (N:=10) ?hd (cs:=#[.string (⟨#[]⟩ : ByteArray),.slice none 0 0]) (t:=41) ?hr ?_;(case hd => rfl);(case hg => rfl);(case hr => first | (go_simp;done) | (go_simp;rfl));intro gb133 hg w20 hbox hb;have n0_:=Aside0.mk (Kd.S_below (Kd.S_elderB (by (with_reducible repeat (first | apply Kd.S_alloc | apply Kd.S_drewN | apply Kd.S_drew));exact HO_5.out) gb133 (Nat.le_of_eq hg.symm)) hb);have n1_:=Aside0.mk (Kd.R_below (by (with_reducible repeat (first | apply Kd.R_alloc | apply Kd.R_drewN | apply Kd.R_drew));exact HO131.out) hb);have n2_:=Aside0.mk (blk_below (g:=gb124) (o:=.cells #[.int .i64 x125000_1,.int .i64 x125001_1] 26 (0,0)) (by (with_reducible repeat (first | refine blk_drewN ?_ _ | refine blk_drew ?_ | refine blk_alloc ?_ _));exact BK124.out) hb);have n3_:=Aside0.mk (below_step (by repeat (first | (with_reducible first | exact HB.out | apply below_alloc | apply pw_below_drewN | apply below_drew1 | refine below_set ?_ GE124.out) | exact HB.out)) hb);have n4_:=Aside0.mk (hbox);have n5_:=Aside0.mk ((by rw [hg];exact (below_size (by repeat (first | (with_reducible first | exact HB.out | apply below_alloc | apply pw_below_drewN | apply below_drew1 | refine below_set ?_ GE124.out) | exact HB.out))) : w.heap.size ≤ gb133));have n6_:=Aside0.mk ((by rw [hg];exact (below_size (by repeat (first | (with_reducible first | exact HB.out | apply below_alloc | apply pw_below_drewN | apply below_drew1 | refine below_set ?_ GE124.out) | exact HB.out))) : w.heap.size ≤ gb133));have n7_:=Aside0.mk ((by rw [hg];exact Nat.ne_of_lt (blk_lt (g:=gb124) (o:=.cells #[.int .i64 x125000_1,.int .i64 x125001_1] 26 (0,0)) (by (with_reducible repeat (first | refine blk_drewN ?_ _ | refine blk_drew ?_ | refine blk_alloc ?_ _));exact BK124.out)) : gb124 ≠ gb133));have n8_:=Aside0.mk ((by rw [hg];exact Nat.ne_of_gt (blk_lt (g:=gb124) (o:=.cells #[.int .i64 x125000_1,.int .i64 x125001_1] 26 (0,0)) (by (with_reducible repeat (first | refine blk_drewN ?_ _ | refine blk_drew ?_ | refine blk_alloc ?_ _));exact BK124.out)) : gb133 ≠ gb124));clear HO_5;clear HO131;clear BK124;clear HB;have HO_5:=n0_;have HO131:=n1_;have BK124:=n2_;have HB:=n3_;have BK133:=n4_;have GW133:=n5_;have GE133:=n6_;have NB124_133:=n7_;have NB133_124:=n8_;clear n0_ n1_ n2_ n3_ n4_ n5_ n6_ n7_ n8_;clear hb hbox hg;have hnb21:=NB133_124.out;have hnc21:=NB124_133.out;have hcz22_0 : w20.cell? ⟨gb133,0,none⟩ = some (.string (⟨#[]⟩ : ByteArray)):=(blk_cell BK133.out 0).trans rfl;have hcz22_1 : w20.cell? ⟨gb133,1,none⟩ = some (.slice none 0 0):=(blk_cell BK133.out 1).trans rfl;have hfz22_0:=blk_frozen BK133.out 0;have hfz22_1:=blk_frozen BK133.out 1;obtain ⟨Ao23,co23,eo23⟩:=Kd.R_slice HO131.out;subst eo23;obtain ⟨Ao24,co24,eo24⟩:=Kd.S_slice HO_5.out;subst eo24) | ((with_reducible refine gate_callee (f:=18) rfl ?_);refine goesL_ (some 33) rfl rfl Tryd.func18 (by kernel_rfl) rfl #[.slice Ao24 x5_1.length co24,.string t128] rfl (by (try simp only [List.map_toArray,List.map_cons,List.map_nil]);first | done | rfl | (simp only [List.length_drop,List.length_take];rfl)) ?_;(with_reducible refine (sig_Find.calls k1 _ _ x5_1 t128 t134 false _ ?side1 ?side2 A7.out).mono ?_);(case side1 => refine (Kd.S_reads' (e:=41) (base:=w.heap.size) (ok:=fun k_ => ((True ∧ some k_ ≠ (.slice Ao23 t129.length co23 : Value).ownBlock) ∧ k_ ≠ gb133)) (n:=x5_1.length) (c:=co24) ?_).2.2;exact (by (with_reducible repeat (first | apply Kd.S_alloc | apply Kd.S_drewN | apply Kd.S_drew));exact (Kd.S_mono (Kd.S_far (p:=⟨gb133,1,none⟩) (Kd.S_far (p:=⟨gb133,0,none⟩) (Kd.S_mono HO_5.out (fun k_ hk => (⟨hk,hk.2⟩ : _ ∧ k_ ≠ gb133))) (fun _ hk => hk.2) (.string t128)) (fun _ hk => hk.2) (.slice Ao23 t129.length co23)) (fun _ h_ => h_.1))));(case side2 => exact (Kd.S_reads' HO_5.out).2.1);rintro e w25 ⟨rfl,hb⟩;refine ⟨_,rfl,?_⟩;have n0_:=Aside0.mk (Kd.S_below (by (with_reducible repeat (first | apply Kd.S_alloc | apply Kd.S_drewN | apply Kd.S_drew));exact (Kd.S_mono (Kd.S_far (p:=⟨gb133,1,none⟩) (Kd.S_far (p:=⟨gb133,0,none⟩) (Kd.S_mono HO_5.out (fun k_ hk => (⟨hk,hk.2⟩ : _ ∧ k_ ≠ gb133))) (fun _ hk => hk.2) (.string t128)) (fun _ hk => hk.2) (.slice Ao23 t129.length co23)) (fun _ h_ => h_.1))) hb);have n1_:=Aside0.mk (Kd.R_below (by (with_reducible repeat (first | apply Kd.R_alloc | apply Kd.R_drewN | apply Kd.R_drew));exact (Kd.R_mono (Kd.R_far (p:=⟨gb133,1,none⟩) (Kd.R_far (p:=⟨gb133,0,none⟩) (Kd.R_types HO131.out BK133.out (by decide)) (fun _ hk => hk.2) (.string t128)) (fun _ hk => hk.2) (.slice Ao23 t129.length co23)) (fun _ h_ => h_.1))) hb);have n2_:=Aside0.mk (blk_below (g:=gb124) (o:=.cells #[.int .i64 x125000_1,.int .i64 x125001_1] 26 (0,0)) (by (with_reducible repeat (first | refine blk_drewN ?_ _ | refine blk_drew ?_ | refine blk_alloc ?_ _));refine blk_far ?_ NB124_133.out _;(with_reducible repeat (first | refine blk_drewN ?_ _ | refine blk_drew ?_ | refine blk_alloc ?_ _));refine blk_far ?_ NB124_133.out _;(with_reducible repeat (first | refine blk_drewN ?_ _ | refine blk_drew ?_ | refine blk_alloc ?_ _));exact BK124.out) hb);have n3_:=Aside0.mk (blk_below (g:=gb133) (o:=.cells #[.string t128,.slice Ao23 t129.length co23] 41 (0,0)) (by (with_reducible repeat (first | refine blk_drewN ?_ _ | refine blk_drew ?_ | refine blk_alloc ?_ _));refine blk_put (cs:=#[.string t128,.slice none 0 0]) ?_ 1 _ rfl;(with_reducible repeat (first | refine blk_drewN ?_ _ | refine blk_drew ?_ | refine blk_alloc ?_ _));refine blk_put (cs:=#[.string (⟨#[]⟩ : ByteArray),.slice none 0 0]) ?_ 0 _ rfl;(with_reducible repeat (first | refine blk_drewN ?_ _ | refine blk_drew ?_ | refine blk_alloc ?_ _));exact BK133.out) hb);have n4_:=Aside0.mk (below_step (by repeat (first | (with_reducible first | exact HB.out | apply below_alloc | apply pw_below_drewN | apply below_drew1 | refine below_set ?_ GE124.out | refine below_set ?_ GE133.out) | exact HB.out)) hb);clear HO_5;clear HO131;clear BK124;clear BK133;clear HB;have HO_5:=n0_;have HO131:=n1_;have BK124:=n2_;have BK133:=n3_;have HB:=n4_;clear n0_ n1_ n2_ n3_ n4_;(try clear hb);(try clear hb2);(try clear hk);(try clear hi)))
      (try simp only [Act.put,List.setIfInBounds_toArray,List.set_cons_zero,List.set_cons_succ])
      go_cut [45] (fun v45 wc => ∃ (kq : Nat) (x45_17 : Bool),v45 = .bool x45_17 ∧ Aside0 (sigtext_Parse.j1 kq x5_1 x6_1 t125 t126 t127 x45_17 t128 t129 = some (r1,r2,r3,r4)) ∧ Aside0 (kq ≤ k1) ∧ Aside0 (Kd.S k41 41 wc w.heap.size (fun k_ => some k_ ≠ ((.slice Ao23 t129.length co23) : Value).ownBlock ∧ k_ ≠ gb133) (.slice Ao24 x5_1.length co24) x5_1) ∧ Aside0 (Kd.R (Kd.int .i64) 3 wc w.heap.size (fun _ => True) (.slice Ao23 t129.length co23) t129) ∧ Aside0 (wc.heap[gb124]? = some (.cells #[.int .i64 x125000_1,.int .i64 x125001_1] 26 (0,0))) ∧ Aside0 (wc.heap[gb133]? = some (.cells #[.string t128,(.slice Ao23 t129.length co23)] 41 (0,0))) ∧ Aside0 (Below w.heap.size w wc))
      case first =>
       have H:=HC18.out
       clear HC18
       by_cases c26 : (t129.length : Int) > 8
       ·rw [if_pos c26] at H
        have c26b0 : decide (8 < (t129.length : Int)) = true:=decide_eq_true c26
        have c26b1 : decide (8 < t129.length) = true:=decide_eq_true (by omega)
        clear c26
        (first | rw [c26b0] | (simp only [i64_w,i32_w];rw [c26b0]) | skip)
        have H':=Aside0.mk H
        clear H
        have hnb27:=NB133_124.out
        have hnc27:=NB124_133.out
        have hcz28_0 : w25.cell? ⟨gb133,0,none⟩ = some (.string t128):=(blk_cell BK133.out 0).trans rfl
        have hcz28_1 : w25.cell? ⟨gb133,1,none⟩ = some (.slice Ao23 t129.length co23):=(blk_cell BK133.out 1).trans rfl
        have hfz28_0:=blk_frozen BK133.out 0
        have hfz28_1:=blk_frozen BK133.out 1
        go_wp2
        go_meet
        case rel => exact ⟨_,(true),(by first | rfl | (simp;done) | (simp [*];done)),H',⟨by have:=HK1.out;first | omega | exact Nat.le_refl _⟩,⟨by (with_reducible repeat (first | apply Kd.S_alloc | apply Kd.S_drewN | apply Kd.S_drew));exact Kd.S_mono HO_5.out (fun _ hk => ⟨hk.1.2,hk.2⟩)⟩,⟨by (with_reducible repeat (first | apply Kd.R_alloc | apply Kd.R_drewN | apply Kd.R_drew));exact HO131.out⟩,⟨by (with_reducible repeat (first | refine blk_drewN ?_ _ | refine blk_drew ?_ | refine blk_alloc ?_ _));exact BK124.out⟩,⟨by (with_reducible repeat (first | refine blk_drewN ?_ _ | refine blk_drew ?_ | refine blk_alloc ?_ _));exact BK133.out⟩,⟨by repeat (first | (with_reducible first | exact HB.out | apply below_alloc | apply pw_below_drewN | apply below_drew1 | refine below_set ?_ GE124.out | refine below_set ?_ GE133.out) | exact HB.out)⟩⟩
       ·rw [if_neg c26] at H
        have c26b0 : decide (8 < (t129.length : Int)) = false:=decide_eq_false c26
        have c26b1 : decide (8 < t129.length) = false:=decide_eq_false (by omega)
        clear c26
        (first | rw [c26b0] | (simp only [i64_w,i32_w];rw [c26b0]) | skip)
        have H':=Aside0.mk H
        clear H
        have hnb29:=NB133_124.out
        have hnc29:=NB124_133.out
        have hcz30_0 : w25.cell? ⟨gb133,0,none⟩ = some (.string t128):=(blk_cell BK133.out 0).trans rfl
        have hcz30_1 : w25.cell? ⟨gb133,1,none⟩ = some (.slice Ao23 t129.length co23):=(blk_cell BK133.out 1).trans rfl
        have hfz30_0:=blk_frozen BK133.out 0
        have hfz30_1:=blk_frozen BK133.out 1
        go_wp2
        go_meet
        case rel => exact ⟨_,(decide (x6_1 > 64)),(by first | rfl | (simp;done) | (simp [*];done)),H',⟨by have:=HK1.out;first | omega | exact Nat.le_refl _⟩,⟨by (with_reducible repeat (first | apply Kd.S_alloc | apply Kd.S_drewN | apply Kd.S_drew));exact Kd.S_mono HO_5.out (fun _ hk => ⟨hk.1.2,hk.2⟩)⟩,⟨by (with_reducible repeat (first | apply Kd.R_alloc | apply Kd.R_drewN | apply Kd.R_drew));exact HO131.out⟩,⟨by (with_reducible repeat (first | refine blk_drewN ?_ _ | refine blk_drew ?_ | refine blk_alloc ?_ _));exact BK124.out⟩,⟨by (with_reducible repeat (first | refine blk_drewN ?_ _ | refine blk_drew ?_ | refine blk_alloc ?_ _));exact BK133.out⟩,⟨by repeat (first | (with_reducible first | exact HB.out | apply below_alloc | apply pw_below_drewN | apply below_drew1 | refine below_set ?_ GE124.out | refine below_set ?_ GE133.out) | exact HB.out)⟩⟩
      case rest =>
       clear HC18
       try clear c1
       try clear c2
       try clear p2
       try clear c3
       try clear c3b0
       try clear c3b1
       try clear c7
       try clear c8
       try clear c9
       try clear c12
       try clear c16
       try clear c17
       try clear c18
       try clear c21
       try clear c26
       try clear c26b0
       try clear c26b1
       try clear c27
       try clear c29
       try clear hcz13_0
       try clear hcz13_1
       try clear hcz17_0
       try clear hcz17_1
       try clear hcz22_0
       try clear hcz22_1
       try clear hcz28_0
       try clear hcz28_1
       try clear hcz30_0
       try clear hcz30_1
       try clear hcz4_0
       try clear hcz4_1
       try clear hfz13_0
       try clear hfz13_1
       try clear hfz17_0
       try clear hfz17_1
       try clear hfz22_0
       try clear hfz22_1
       try clear hfz28_0
       try clear hfz28_1
       try clear hfz30_0
       try clear hfz30_1
       try clear hfz4_0
       try clear hfz4_1
       try clear p2
       obtain ⟨kq,x45_17,rfl,HA,HJ17,HO_5,HO_134001,BK124,BK133,HB⟩:=hcut
       cases kq with
       | zero => exact absurd HA.out (by simp [sigtext_Parse.j1])
       | succ kj17 =>
        have H:=HA.out
        clear HA
        simp only [sigtext_Parse.j1] at H
        by_cases c31 : x45_17 = true
        ·subst c31
         have H1 : (some (([] : List (S41)),6,x6_1,1)) = some (r1,r2,r3,r4):=by rw [if_pos rfl] at H;exact H
         clear H
         have H:=H1
         clear H1
         simp only [Option.some.injEq,Prod.mk.injEq] at H
         obtain ⟨rfl,rfl,rfl,rfl⟩:=H
         have hnb32:=NB124_133.out
         have hnc32:=NB133_124.out
         have hcz33_0 : wc.cell? ⟨gb124,0,none⟩ = some (.int .i64 x125000_1):=(blk_cell BK124.out 0).trans rfl
         have hcz33_1 : wc.cell? ⟨gb124,1,none⟩ = some (.int .i64 x125001_1):=(blk_cell BK124.out 1).trans rfl
         have hfz33_0:=blk_frozen BK124.out 0
         have hfz33_1:=blk_frozen BK124.out 1
         go_wp2
         refine bodyPost_ret (results_list (rs:=[.tmp 2,.tmp 3,.cell 4 26]) rfl (by simp) (.tmp (.tmp (.cell gb124 26 #[.int .i64 x6_1,.int .i64 1] (0,0) _ rfl (by (with_reducible repeat (first | refine blk_drewN ?_ _ | refine blk_drew ?_ | refine blk_alloc ?_ _));refine blk_put (cs:=#[.int .i64 x6_1,.int .i64 x125001_1]) ?_ 1 _ rfl;(with_reducible repeat (first | refine blk_drewN ?_ _ | refine blk_drew ?_ | refine blk_alloc ?_ _));refine blk_put (cs:=#[.int .i64 x125000_1,.int .i64 x125001_1]) ?_ 0 _ rfl;(with_reducible repeat (first | refine blk_drewN ?_ _ | refine blk_drew ?_ | refine blk_alloc ?_ _));exact BK124.out) Tryd.underlying26 rfl (by kernel_rfl) .nil)))) rfl ?_
         exact ⟨_,by first | rfl | (simp [errW_none,errW_some] <;> rfl) | (simp [*,errW_none,errW_some] <;> rfl),by first | exact Kd.S_nil _ _ _ _ _ | exact Kd.N_nil _ _ _ _ _ | exact Kd.V_nil _ _ _ _ _ | exact Kd.Q_nil _ _ _ _ _ | exact Kd.R_nil _ _ _ _ _,by repeat (first | (with_reducible first | exact HB.out | apply below_alloc | apply pw_below_drewN | apply below_drew1 | refine below_set ?_ GE124.out | refine below_set ?_ GE133.out) | exact HB.out)⟩
        ·replace c31:=Bool.eq_false_iff.mpr c31
         subst c31
         have H1 : (if t127 = true then (if x5_1.length < 3518437208883 then (sigtext_Parse.l0 kj17 t126 (x5_1 ++ [(⟨t128,t129⟩ : S41)]) (wrap64 (x6_1 + 1))) else (none)) else (some (([] : List (S41)),4,x6_1,wrap64 ((t125.size : Int) + 1)))) = some (r1,r2,r3,r4):=by rw [if_neg (show ¬ (false = true) by decide)] at H;exact H
         clear H
         have H:=H1
         clear H1
         by_cases c34 : t127 = true
         ·subst c34
          have H1 : (if x5_1.length < 3518437208883 then (sigtext_Parse.l0 kj17 t126 (x5_1 ++ [(⟨t128,t129⟩ : S41)]) (wrap64 (x6_1 + 1))) else (none)) = some (r1,r2,r3,r4):=by rw [if_pos rfl] at H;exact H
          clear H
          have H:=H1
          clear H1
          by_cases c35 : x5_1.length < 3518437208883
          ·rw [if_pos c35] at H
           have LMc35:=Aside0.mk c35
           clear c35
           obtain ⟨y136,hy136⟩ : ∃ y_ : List (S41),y_ = (x5_1 ++ [(⟨t128,t129⟩ : S41)]):=⟨_,rfl⟩
           replace H : (sigtext_Parse.l0 kj17 t126 y136 (wrap64 (x6_1 + 1))) = some (r1,r2,r3,r4):=by first | (rw [hy136];with_reducible exact H) | (have H2_:=(Option.bind_some _ _).symm.trans H;rw [hy136];with_reducible exact H2_) | (have H2_:=(Option.bind_some _ _).symm.trans H;with_reducible exact H2_) | with_reducible exact H | (rw [hy136];exact H) | exact H
           have Ny136:=Aside0.mk hy136
           clear hy136
           have H':=Aside0.mk H
           clear H
           have hnb36:=NB133_124.out
           have hnc36:=NB124_133.out
           have hcz37_0 : wc.cell? ⟨gb133,0,none⟩ = some (.string t128):=(blk_cell BK133.out 0).trans rfl
           have hcz37_1 : wc.cell? ⟨gb133,1,none⟩ = some (.slice Ao23 t129.length co23):=(blk_cell BK133.out 1).trans rfl
           have hfz37_0:=blk_frozen BK133.out 0
           have hfz37_1:=blk_frozen BK133.out 1
           go_wp2_with (first | ((with_reducible refine gate_builtin (b:=.append) (xs:=#[.tmp 64,.tmp 66]) rfl ?_);at_builtin;refine Kd.S_append k41 (w0:=w) w.heap.size rfl (.tmp 64) (.tmp 66) 23 41 (.agg #[(.string ⟨#[]⟩),(.slice none 0 0)]) 40 rfl Tryd.underlying23 info41 rfl (by decide) (by omega) (.slice Ao24 x5_1.length co24) x5_1 (⟨t128,t129⟩ : S41) [.string t128,.slice Ao23 t129.length co23] (fun k_ => k_ ≠ gb133) (fun k_ => some k_ = (.slice Ao23 t129.length co23 : Value).ownBlock) rfl rfl ?aP (fun k_ hk_ => ((Kd.R_mono (ok':=fun k_ => ((fun k_ => k_ ≠ gb133)) k_ ∧ some k_ ≠ (.slice Ao24 x5_1.length co24 : Value).ownBlock) (Kd.R_types (Kd.R_apart' (HO_134001.out) (Kd.S_typed HO_5.out) (by decide)) BK133.out (by decide)) (fun k_ hk => ⟨hk.2,hk.1.2⟩))).1 k_ hk_.symm) ?aF ?aO ?aB ?aS ?aL ?_;(case aP => exact k41_mkM _ _ _ (⟨t128,t129⟩ : S41) (Kd.R_mono (Kd.R_tight rfl (Kd.R_mono (ok':=fun k_ => ((fun k_ => k_ ≠ gb133)) k_ ∧ some k_ ≠ (.slice Ao24 x5_1.length co24 : Value).ownBlock) (Kd.R_types (Kd.R_apart' (HO_134001.out) (Kd.S_typed HO_5.out) (by decide)) BK133.out (by decide)) (fun k_ hk => ⟨hk.2,hk.1.2⟩))) (fun _ h_ => h_)));(case aB => exact (by repeat (first | (with_reducible first | exact HB.out | apply below_alloc | apply pw_below_drewN | apply below_drew1 | refine below_set ?_ GE124.out | refine below_set ?_ GE133.out) | exact HB.out)));(case aF => exact (fun k_ hk => Kd.freshB (g:=gb133) (o:=.cells #[.string t128,.slice Ao23 t129.length co23] 41 (0,0)) (by (with_reducible repeat (first | refine blk_drewN ?_ _ | refine blk_drew ?_ | refine blk_alloc ?_ _));exact BK133.out) k_ hk));(case aO => exact (by (with_reducible repeat (first | apply Kd.S_alloc | apply Kd.S_drewN | apply Kd.S_drew));exact Kd.S_mono HO_5.out (fun k_ hk => ⟨hk.2,fun e_ => hk.1 e_⟩)));(case aS => exact (below_size (by repeat (first | (with_reducible first | exact HB.out | apply below_alloc | apply pw_below_drewN | apply below_drew1 | refine below_set ?_ GE124.out | refine below_set ?_ GE133.out) | exact HB.out))));(case aL => have:=LMc35.out;omega);intro v137 w38 ho hb hg hat;rw [← Ny136.out] at ho;have n0_:=Aside0.mk (blk_grown (g:=gb124) (o:=.cells #[.int .i64 x125000_1,.int .i64 x125001_1] 26 (0,0)) (by (with_reducible repeat (first | refine blk_drewN ?_ _ | refine blk_drew ?_ | refine blk_alloc ?_ _));exact BK124.out) hg (Kd.S_ne HO_5.out BK124.out (by decide)));have n1_:=Aside0.mk (blk_grown (g:=gb133) (o:=.cells #[.string t128,.slice Ao23 t129.length co23] 41 (0,0)) (by (with_reducible repeat (first | refine blk_drewN ?_ _ | refine blk_drew ?_ | refine blk_alloc ?_ _));exact BK133.out) hg (Kd.S_away HO_5.out (fun _ hk => hk.2)));have n2_:=Aside0.mk (hb);have n3_:=Aside0.mk (ho);clear BK124;clear BK133;clear HB;clear HO_5;clear HO_134001;have BK124:=n0_;have BK133:=n1_;have HB:=n2_;have HO138:=n3_;clear n0_ n1_ n2_ n3_;clear ho hb hg hat))
           go_roundg kj17
           case measure => have:=HK1.out;have:=HJ17.out;omega
           case rel => exact ⟨(t126),(y136),(wrap64 (x6_1 + 1)),(x125000_1),(x125001_1),(by first | rfl | (simp;done) | (simp [*];done)),(by first | rfl | (simp;done) | (simp [*];done)),H',⟨by have:=HK1.out;have:=HJ17.out;omega⟩,⟨by (with_reducible repeat (first | apply Kd.S_alloc | apply Kd.S_drewN | apply Kd.S_drew));exact Kd.S_mono HO138.out (fun _ hk => trivial)⟩,⟨by (with_reducible repeat (first | refine blk_drewN ?_ _ | refine blk_drew ?_ | refine blk_alloc ?_ _));exact BK124.out⟩,⟨by repeat (first | (with_reducible first | exact HB.out | apply below_alloc | apply pw_below_drewN | apply below_drew1 | refine below_set ?_ GE124.out | refine below_set ?_ GE133.out) | exact HB.out)⟩⟩
          ·rw [if_neg c35] at H
           exact absurd H (by simp)
         ·replace c34:=Bool.eq_false_iff.mpr c34
          subst c34
          have H1 : (some (([] : List (S41)),4,x6_1,wrap64 ((t125.size : Int) + 1))) = some (r1,r2,r3,r4):=by rw [if_neg (show ¬ (false = true) by decide)] at H;exact H
          clear H
          have H:=H1
          clear H1
          simp only [Option.some.injEq,Prod.mk.injEq] at H
          obtain ⟨rfl,rfl,rfl,rfl⟩:=H
          have hnb39:=NB124_133.out
          have hnc39:=NB133_124.out
          have hcz40_0 : wc.cell? ⟨gb124,0,none⟩ = some (.int .i64 x125000_1):=(blk_cell BK124.out 0).trans rfl
          have hcz40_1 : wc.cell? ⟨gb124,1,none⟩ = some (.int .i64 x125001_1):=(blk_cell BK124.out 1).trans rfl
          have hfz40_0:=blk_frozen BK124.out 0
          have hfz40_1:=blk_frozen BK124.out 1
          go_wp2
          refine bodyPost_ret (results_list (rs:=[.tmp 2,.tmp 3,.cell 4 26]) rfl (by simp) (.tmp (.tmp (.cell gb124 26 #[.int .i64 x6_1,.int .i64 (wrap64 ((t125.size : Int) + 1))] (0,0) _ rfl (by (with_reducible repeat (first | refine blk_drewN ?_ _ | refine blk_drew ?_ | refine blk_alloc ?_ _));refine blk_put (cs:=#[.int .i64 x6_1,.int .i64 x125001_1]) ?_ 1 _ rfl;(with_reducible repeat (first | refine blk_drewN ?_ _ | refine blk_drew ?_ | refine blk_alloc ?_ _));refine blk_put (cs:=#[.int .i64 x125000_1,.int .i64 x125001_1]) ?_ 0 _ rfl;(with_reducible repeat (first | refine blk_drewN ?_ _ | refine blk_drew ?_ | refine blk_alloc ?_ _));exact BK124.out) Tryd.underlying26 rfl (by kernel_rfl) .nil)))) rfl ?_
          exact ⟨_,by first | rfl | (simp [errW_none,errW_some] <;> rfl) | (simp [*,errW_none,errW_some] <;> rfl),by first | exact Kd.S_nil _ _ _ _ _ | exact Kd.N_nil _ _ _ _ _ | exact Kd.V_nil _ _ _ _ _ | exact Kd.Q_nil _ _ _ _ _ | exact Kd.R_nil _ _ _ _ _,by repeat (first | (with_reducible first | exact HB.out | apply below_alloc | apply pw_below_drewN | apply below_drew1 | refine below_set ?_ GE124.out | refine below_set ?_ GE133.out) | exact HB.out)⟩
    ·replace c8:=Bool.eq_false_iff.mpr c8
     subst c8
     have H1 : (some (([] : List (S41)),4,x6_1,1)) = some (r1,r2,r3,r4):=by rw [if_neg (show ¬ (false = true) by decide)] at H;exact H
     clear H
     have H:=H1
     clear H1
     simp only [Option.some.injEq,Prod.mk.injEq] at H
     obtain ⟨rfl,rfl,rfl,rfl⟩:=H
     go_wp2_with (first | ((with_reducible refine gate_callee (f:=16) rfl ?_);refine goesL_ (some 20) rfl rfl Tryd.func16 (by kernel_rfl) rfl #[.string x0_1,.string (⟨#[10]⟩ : ByteArray)] rfl (by (try simp only [List.map_toArray,List.map_cons,List.map_nil]);first | done | rfl | (simp only [List.length_drop,List.length_take];rfl)) ?_;(with_reducible refine (strings_Cut.callsG x0_1 (⟨#[10]⟩ : ByteArray) t125 t126 t127 _ A5.out (HG.out.below (by repeat (first | (with_reducible first | exact HB.out | apply below_alloc | apply pw_below_drewN | apply below_drew1 | refine below_set ?_ GE124.out | refine below_set ?_ GE133.out) | exact HB.out)))).mono ?_);rintro e w' ⟨rfl,⟨nd,rfl⟩⟩;refine ⟨_,rfl,?_⟩;(try (rw [drewN_self wr];generalize hq_ : World.drewN wr _ = wr;have n0_ : Aside0 (Kd.S k41 41 wr w.heap.size (fun _ => True) u5 x5_1):=⟨by rw [← hq_];exact (by (with_reducible repeat (first | apply Kd.S_alloc | apply Kd.S_drewN | apply Kd.S_drew));exact HO_5.out)⟩;have n1_ : Aside0 (wr.heap[gb124]? = some (.cells #[.int .i64 x125000_1,.int .i64 x125001_1] 26 (0,0))):=⟨by rw [← hq_];exact (by (with_reducible repeat (first | refine blk_drewN ?_ _ | refine blk_drew ?_ | refine blk_alloc ?_ _));exact BK124.out)⟩;have n2_ : Aside0 (Below w.heap.size w wr):=⟨by rw [← hq_];exact (by repeat (first | (with_reducible first | exact HB.out | apply below_alloc | apply pw_below_drewN | apply below_drew1 | refine below_set ?_ GE124.out) | exact HB.out))⟩;clear HO_5 BK124 HB hq_;have HO_5:=n0_;have BK124:=n1_;have HB:=n2_;clear n0_ n1_ n2_));(try (have hczU124_0 : wr.cell? ⟨gb124,0,none⟩ = some (.int .i64 x125000_1):=(blk_cell BK124.out 0).trans rfl));(try (have hczU124_1 : wr.cell? ⟨gb124,1,none⟩ = some (.int .i64 x125001_1):=(blk_cell BK124.out 1).trans rfl))) | ((with_reducible refine gate_callee (f:=17) rfl ?_);refine goesL_ (some 26) rfl rfl Tryd.func17 (by kernel_rfl) rfl #[.string t125] rfl (by (try simp only [List.map_toArray,List.map_cons,List.map_nil]);first | done | rfl | (simp only [List.length_drop,List.length_take];rfl)) ?_;(with_reducible refine (sigtext_pred.calls k1 t125 t128 t129 false _ A6.out (HG.out.below (by repeat (first | (with_reducible first | exact HB.out | apply below_alloc | apply pw_below_drewN | apply below_drew1 | refine below_set ?_ GE124.out | refine below_set ?_ GE133.out) | exact HB.out)))).mono ?_);rintro e w41 ⟨v130,rfl,ho0,hb⟩;refine ⟨_,rfl,?_⟩;have n0_:=Aside0.mk (Kd.S_elder' (by (with_reducible repeat (first | apply Kd.S_alloc | apply Kd.S_drewN | apply Kd.S_drew));exact HO_5.out) (Kd.R_base ho0) hb);have n1_:=Aside0.mk (Kd.R_lower ho0 (below_size (by repeat (first | (with_reducible first | exact HB.out | apply below_alloc | apply pw_below_drewN | apply below_drew1 | refine below_set ?_ GE124.out) | exact HB.out))));have n2_:=Aside0.mk (blk_below (g:=gb124) (o:=.cells #[.int .i64 x125000_1,.int .i64 x125001_1] 26 (0,0)) (by (with_reducible repeat (first | refine blk_drewN ?_ _ | refine blk_drew ?_ | refine blk_alloc ?_ _));exact BK124.out) hb);have n3_:=Aside0.mk (below_step (by repeat (first | (with_reducible first | exact HB.out | apply below_alloc | apply pw_below_drewN | apply below_drew1 | refine below_set ?_ GE124.out) | exact HB.out)) hb);clear HO_5;clear BK124;clear HB;have HO_5:=n0_;have HO131:=n1_;have BK124:=n2_;have HB:=n3_;clear n0_ n1_ n2_ n3_;(try clear hb);(try clear hb2);(try clear hk);(try clear hi);(try clear ho0)) | ((with_reducible refine gate_dst (N:=10) rfl ?_);refine box_event ?hg (N:=10) ?hd (cs:=#[.string (⟨#[]⟩ : ByteArray),.slice none 0 0]) (t:=41) ?hr ?_;(case hd => rfl);(case hg => rfl);(case hr => first | (go_simp;done) | (go_simp;rfl));intro gb133 hg w42 hbox hb;have n0_:=Aside0.mk (Kd.S_below (Kd.S_elderB (by (with_reducible repeat (first | apply Kd.S_alloc | apply Kd.S_drewN | apply Kd.S_drew));exact HO_5.out) gb133 (Nat.le_of_eq hg.symm)) hb);have n1_:=Aside0.mk (Kd.R_below (by (with_reducible repeat (first | apply Kd.R_alloc | apply Kd.R_drewN | apply Kd.R_drew));exact HO131.out) hb);have n2_:=Aside0.mk (blk_below (g:=gb124) (o:=.cells #[.int .i64 x125000_1,.int .i64 x125001_1] 26 (0,0)) (by (with_reducible repeat (first | refine blk_drewN ?_ _ | refine blk_drew ?_ | refine blk_alloc ?_ _));exact BK124.out) hb);have n3_:=Aside0.mk (below_step (by repeat (first | (with_reducible first | exact HB.out | apply below_alloc | apply pw_below_drewN | apply below_drew1 | refine below_set ?_ GE124.out) | exact HB.out)) hb);have n4_:=Aside0.mk (hbox);have n5_:=Aside0.mk ((by rw [hg];exact (below_size (by repeat (first | (with_reducible first | exact HB.out | apply below_alloc | apply pw_below_drewN | apply below_drew1 | refine below_set ?_ GE124.out) | exact HB.out))) : w.heap.size ≤ gb133));have n6_:=Aside0.mk ((by rw [hg];exact (below_size (by repeat (first | (with_reducible first | exact HB.out | apply below_alloc | apply pw_below_drewN | apply below_drew1 | refine below_set ?_ GE124.out) | exact HB.out))) : w.heap.size ≤ gb133));have n7_:=Aside0.mk ((by rw [hg];exact Nat.ne_of_lt (blk_lt (g:=gb124) (o:=.cells #[.int .i64 x125000_1,.int .i64 x125001_1] 26 (0,0)) (by (with_reducible repeat (first | refine blk_drewN ?_ _ | refine blk_drew ?_ | refine blk_alloc ?_ _));exact BK124.out)) : gb124 ≠ gb133));have n8_:=Aside0.mk ((by rw [hg];exact Nat.ne_of_gt (blk_lt (g:=gb124) (o:=.cells #[.int .i64 x125000_1,.int .i64 x125001_1] 26 (0,0)) (by (with_reducible repeat (first | refine blk_drewN ?_ _ | refine blk_drew ?_ | refine blk_alloc ?_ _));exact BK124.out)) : gb133 ≠ gb124));clear HO_5;clear HO131;clear BK124;clear HB;have HO_5:=n0_;have HO131:=n1_;have BK124:=n2_;have HB:=n3_;have BK133:=n4_;have GW133:=n5_;have GE133:=n6_;have NB124_133:=n7_;have NB133_124:=n8_;clear n0_ n1_ n2_ n3_ n4_ n5_ n6_ n7_ n8_;clear hb hbox hg;have hnb43:=NB133_124.out;have hnc43:=NB124_133.out;have hcz44_0 : w42.cell? ⟨gb133,0,none⟩ = some (.string (⟨#[]⟩ : ByteArray)):=(blk_cell BK133.out 0).trans rfl;have hcz44_1 : w42.cell? ⟨gb133,1,none⟩ = some (.slice none 0 0):=(blk_cell BK133.out 1).trans rfl;have hfz44_0:=blk_frozen BK133.out 0;have hfz44_1:=blk_frozen BK133.out 1;obtain ⟨Ao45,co45,eo45⟩:=Kd.R_slice HO131.out;subst eo45;obtain ⟨Ao46,co46,eo46⟩:=Kd.S_slice HO_5.out;subst eo46) | ((with_reducible refine gate_callee (f:=18) rfl ?_);refine goesL_ (some 33) rfl rfl Tryd.func18 (by kernel_rfl) rfl #[.slice Ao46 x5_1.length co46,.string t128] rfl (by (try simp only [List.map_toArray,List.map_cons,List.map_nil]);first | done | rfl | (simp only [List.length_drop,List.length_take];rfl)) ?_;(with_reducible refine (sig_Find.calls k1 _ _ x5_1 t128 t134 t135 _ ?side1 ?side2 A7.out).mono ?_);(case side1 => refine (Kd.S_reads' (e:=41) (base:=w.heap.size) (ok:=fun k_ => ((True ∧ some k_ ≠ (.slice Ao45 t129.length co45 : Value).ownBlock) ∧ k_ ≠ gb133)) (n:=x5_1.length) (c:=co46) ?_).2.2;exact (by (with_reducible repeat (first | apply Kd.S_alloc | apply Kd.S_drewN | apply Kd.S_drew));exact (Kd.S_mono (Kd.S_far (p:=⟨gb133,1,none⟩) (Kd.S_far (p:=⟨gb133,0,none⟩) (Kd.S_mono HO_5.out (fun k_ hk => (⟨hk,hk.2⟩ : _ ∧ k_ ≠ gb133))) (fun _ hk => hk.2) (.string t128)) (fun _ hk => hk.2) (.slice Ao45 t129.length co45)) (fun _ h_ => h_.1))));(case side2 => exact (Kd.S_reads' HO_5.out).2.1);rintro e w47 ⟨rfl,hb⟩;refine ⟨_,rfl,?_⟩;have n0_:=Aside0.mk (Kd.S_below (by (with_reducible repeat (first | apply Kd.S_alloc | apply Kd.S_drewN | apply Kd.S_drew));exact (Kd.S_mono (Kd.S_far (p:=⟨gb133,1,none⟩) (Kd.S_far (p:=⟨gb133,0,none⟩) (Kd.S_mono HO_5.out (fun k_ hk => (⟨hk,hk.2⟩ : _ ∧ k_ ≠ gb133))) (fun _ hk => hk.2) (.string t128)) (fun _ hk => hk.2) (.slice Ao45 t129.length co45)) (fun _ h_ => h_.1))) hb);have n1_:=Aside0.mk (Kd.R_below (by (with_reducible repeat (first | apply Kd.R_alloc | apply Kd.R_drewN | apply Kd.R_drew));exact (Kd.R_mono (Kd.R_far (p:=⟨gb133,1,none⟩) (Kd.R_far (p:=⟨gb133,0,none⟩) (Kd.R_types HO131.out BK133.out (by decide)) (fun _ hk => hk.2) (.string t128)) (fun _ hk => hk.2) (.slice Ao45 t129.length co45)) (fun _ h_ => h_.1))) hb);have n2_:=Aside0.mk (blk_below (g:=gb124) (o:=.cells #[.int .i64 x125000_1,.int .i64 x125001_1] 26 (0,0)) (by (with_reducible repeat (first | refine blk_drewN ?_ _ | refine blk_drew ?_ | refine blk_alloc ?_ _));refine blk_far ?_ NB124_133.out _;(with_reducible repeat (first | refine blk_drewN ?_ _ | refine blk_drew ?_ | refine blk_alloc ?_ _));refine blk_far ?_ NB124_133.out _;(with_reducible repeat (first | refine blk_drewN ?_ _ | refine blk_drew ?_ | refine blk_alloc ?_ _));exact BK124.out) hb);have n3_:=Aside0.mk (blk_below (g:=gb133) (o:=.cells #[.string t128,.slice Ao45 t129.length co45] 41 (0,0)) (by (with_reducible repeat (first | refine blk_drewN ?_ _ | refine blk_drew ?_ | refine blk_alloc ?_ _));refine blk_put (cs:=#[.string t128,.slice none 0 0]) ?_ 1 _ rfl;(with_reducible repeat (first | refine blk_drewN ?_ _ | refine blk_drew ?_ | refine blk_alloc ?_ _));refine blk_put (cs:=#[.string (⟨#[]⟩ : ByteArray),.slice none 0 0]) ?_ 0 _ rfl;(with_reducible repeat (first | refine blk_drewN ?_ _ | refine blk_drew ?_ | refine blk_alloc ?_ _));exact BK133.out) hb);have n4_:=Aside0.mk (below_step (by repeat (first | (with_reducible first | exact HB.out | apply below_alloc | apply pw_below_drewN | apply below_drew1 | refine below_set ?_ GE124.out | refine below_set ?_ GE133.out) | exact HB.out)) hb);clear HO_5;clear HO131;clear BK124;clear BK133;clear HB;have HO_5:=n0_;have HO131:=n1_;have BK124:=n2_;have BK133:=n3_;have HB:=n4_;clear n0_ n1_ n2_ n3_ n4_;(try clear hb);(try clear hb2);(try clear hk);(try clear hi);have hcz48_0 : w47.cell? ⟨gb124,0,none⟩ = some (.int .i64 x125000_1):=(blk_cell BK124.out 0).trans rfl;have hcz48_1 : w47.cell? ⟨gb124,1,none⟩ = some (.int .i64 x125001_1):=(blk_cell BK124.out 1).trans rfl;have hfz48_0:=blk_frozen BK124.out 0;have hfz48_1:=blk_frozen BK124.out 1))
     refine bodyPost_ret (results_list (rs:=[.tmp 2,.tmp 3,.cell 4 26]) rfl (by simp) (.tmp (.tmp (.cell gb124 26 #[.int .i64 x6_1,.int .i64 1] (0,0) _ rfl (by (with_reducible repeat (first | refine blk_drewN ?_ _ | refine blk_drew ?_ | refine blk_alloc ?_ _));refine blk_put (cs:=#[.int .i64 x6_1,.int .i64 x125001_1]) ?_ 1 _ rfl;(with_reducible repeat (first | refine blk_drewN ?_ _ | refine blk_drew ?_ | refine blk_alloc ?_ _));refine blk_put (cs:=#[.int .i64 x125000_1,.int .i64 x125001_1]) ?_ 0 _ rfl;(with_reducible repeat (first | refine blk_drewN ?_ _ | refine blk_drew ?_ | refine blk_alloc ?_ _));exact BK124.out) Tryd.underlying26 rfl (by kernel_rfl) .nil)))) rfl ?_
     exact ⟨_,by first | rfl | (simp [errW_none,errW_some] <;> rfl) | (simp [*,errW_none,errW_some] <;> rfl),by first | exact Kd.S_nil _ _ _ _ _ | exact Kd.N_nil _ _ _ _ _ | exact Kd.V_nil _ _ _ _ _ | exact Kd.Q_nil _ _ _ _ _ | exact Kd.R_nil _ _ _ _ _,by repeat (first | (with_reducible first | exact HB.out | apply below_alloc | apply pw_below_drewN | apply below_drew1 | refine below_set ?_ GE124.out | refine below_set ?_ GE133.out) | exact HB.out)⟩

end Go.Proofs.YtmmfakdncjeoeacDoor.PE
