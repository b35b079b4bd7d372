-- Contracts of Go functions, each with its plain Lean function: written by wip/tools/myprint.py of this work (the kit's print, with contracts proved by hand spliced in).
import Derived.Test.YtmmfakdncjeoeaaPCx0
namespace Go.Proofs.Ytmmfakdncjeoeaa.PC
open Go.RowKit Go.Proofs.YtmmfakdncjeoeaaW.PrintWords Go.Proofs.YtmmfakdncjeoeaaW.PrintLast Go.Proofs.YtmmfakdncjeoeaaW.PrintMore
attribute [local go_sem] max2_int min2_int max_two min_two max_three min_three max_four min_four   -- for this text's walks alone
set_option linter.unusedVariables false
set_option linter.unusedSimpArgs false

/-! ### tachographlaw09_Great: function 7 -/
def tachographlaw09_Great.l0 : Nat → List (S53) → List (S53) → Int → Int → Option (Bool)
 | 0, _, _, _, _ => none
 | k + 1, x0, x5, x6, x7 => if x7 < x6 then (if 0 ≤ x7 then (if x7 < (x5.length : Int) then (if (((rd_T53 x5 x7).f1).length : Int) > 30 then (some true) else (if (((rd_T53 x5 x7).f0).size : Int) > 100 then (some true) else (tachographlaw09_Great.l0 k x0 x5 x6 (wrap64 (x7 + 1))))) else (none)) else (none)) else (some (decide ((x0.length : Int) > 100)))
def tachographlaw09_Great.f (k : Nat) (l0 : List (S53)) : Option (Bool) := tachographlaw09_Great.l0 k l0 l0 (l0.length : Int) 0
set_option maxHeartbeats 8000000 in
set_option maxRecDepth 100000 in
theorem tachographlaw09_Great.calls (k : Nat) (A0 : Option Addr) (c0 : Nat) (l0 : List (S53)) (r : Bool) (w : World) (hr0 : Kd.C k53 w A0 l0.length l0) (hc0 : l0.length ≤ c0) (h : tachographlaw09_Great.f k l0 = some r) :
  Calls Try.prog 7 #[.slice A0 l0.length c0] w fun e w' => e = .returned (.bool r) ∧ Below w.heap.size w w':=by
 have hu53:=Try.underlying53
 have HR0:=Aside0.mk hr0
 have HC0:=Aside0.mk hc0
 clear hr0 hc0
 have HB:=Aside0.mk (Below.refl w.heap.size w)
 have H : (tachographlaw09_Great.l0 k l0 l0 (l0.length : Int) 0) = some r:=h
 clear h
 have H':=Aside0.mk H
 clear H
 go_enter Try.func7,Try.ntmps7
 go_wp2
 go_loopg [7] k (fun kq v7 w' => ∃ (x7_1 : Int),v7 = .int .i64 x7_1 ∧ Aside0 (tachographlaw09_Great.l0 kq l0 l0 (l0.length : Int) x7_1 = some r) ∧ Aside0 (kq ≤ k) ∧ Aside0 (Below w.heap.size w w'))
 case atStart => exact ⟨(0),(by first | rfl | (simp;done) | (simp [*];done)),H',⟨Nat.le_refl _⟩,⟨by repeat (first | (with_reducible first | exact HB.out | apply below_alloc | apply pw_below_drewN | apply below_drew1) | exact HB.out)⟩⟩
 case round =>
  clear H'
  obtain ⟨x7_1,rfl,HA,HK1,HB⟩:=hrel
  cases gk with
  | zero => exact absurd HA.out (by simp [tachographlaw09_Great.l0])
  | succ k1 =>
   have H:=HA.out
   clear HA
   simp only [tachographlaw09_Great.l0] at H
   by_cases c2 : x7_1 < (l0.length : Int)
   ·rw [if_pos c2] at H
    have c2b0 : decide (x7_1 < (l0.length : Int)) = true:=decide_eq_true c2
    clear c2
    by_cases c3 : 0 ≤ x7_1
    ·rw [if_pos c3] at H
     have c3b0 : decide (0 ≤ x7_1) = true:=decide_eq_true c3
     clear c3
     by_cases c4 : x7_1 < (l0.length : Int)
     ·rw [if_pos c4] at H
      have c4b0 : decide (x7_1 < (l0.length : Int)) = true:=decide_eq_true c4
      clear c4
      by_cases c5 : (((rd_T53 l0 x7_1).f1).length : Int) > 30
      ·rw [if_pos c5] at H
       have c5b0 : decide (30 < (((rd_T53 l0 x7_1).f1).length : Int)) = true:=decide_eq_true c5
       have c5b1 : decide (30 < ((rd_T53 l0 x7_1).f1).length) = true:=decide_eq_true (by omega)
       clear c5
       obtain rfl:=Option.some.inj H
       have p101 : 0 ≤ (x7_1 : Int):=of_decide_eq_true (by first | (with_reducible assumption) | assumption)
       have q101 : x7_1 < (l0.length : Int):=of_decide_eq_true (by first | (with_reducible assumption) | assumption)
       obtain ⟨ad101,A101_1,c101_1,e101,hx101_0,hx101_1,hl101_1,hi101_1⟩:=at_T53 HR0.out x7_1 p101 q101
       cases e101
       replace hx101_0:=(HB.out.cell (World.block_lt_of_cell? w _ hx101_0)).trans hx101_0
       replace hx101_1:=(HB.out.cell (World.block_lt_of_cell? w _ hx101_1)).trans hx101_1
       have HR101_1:=Aside0.mk hi101_1
       have HC101_1:=Aside0.mk hl101_1
       clear hi101_1 hl101_1
       replace p101:=eq_true p101
       replace q101:=eq_true q101
       go_wp2_with (first | ((with_reducible refine gate_dst (N:=4) rfl ?_);(try (refine gate_guard (by rfl) ?_;dsimp only));refine box_event ?hg (N:=4) ?hd (cs:=#[.string (⟨#[]⟩ : ByteArray),.slice none 0 0]) (t:=53) ?hr ?_;(case hd => rfl);(case hg => rfl);(case hr => first | (go_simp;done) | (go_simp;rfl));intro gb102 hg w6 hbox hb;have n0_:=Aside0.mk (below_step (by repeat (first | (with_reducible first | exact HB.out | apply below_alloc | apply pw_below_drewN | apply below_drew1) | exact HB.out)) hb);have n1_:=Aside0.mk (hbox);have n2_:=Aside0.mk ((by rw [hg];exact (below_size (by repeat (first | (with_reducible first | exact HB.out | apply below_alloc | apply pw_below_drewN | apply below_drew1) | exact HB.out))) : w.heap.size ≤ gb102));have n3_:=Aside0.mk ((by rw [hg];exact (below_size (by repeat (first | (with_reducible first | exact HB.out | apply below_alloc | apply pw_below_drewN | apply below_drew1) | exact HB.out))) : w.heap.size ≤ gb102));clear HB;have HB:=n0_;have BK102:=n1_;have GW102:=n2_;have GE102:=n3_;clear n0_ n1_ n2_ n3_;clear hb hbox hg;have hcz7_0 : w6.cell? ⟨gb102,0,none⟩ = some (.string (⟨#[]⟩ : ByteArray)):=(blk_cell BK102.out 0).trans rfl;have hcz7_1 : w6.cell? ⟨gb102,1,none⟩ = some (.slice none 0 0):=(blk_cell BK102.out 1).trans rfl;have hfz7_0:=blk_frozen BK102.out 0;have hfz7_1:=blk_frozen BK102.out 1))
       go_ret
       exact ⟨by first | rfl | (simp [errW_none,errW_some] <;> rfl) | (simp [*,errW_none,errW_some] <;> rfl),by repeat (first | (with_reducible first | exact HB.out | apply below_alloc | apply pw_below_drewN | apply below_drew1 | refine below_set ?_ GE102.out) | exact HB.out)⟩
      ·rw [if_neg c5] at H
       have c5b0 : decide (30 < (((rd_T53 l0 x7_1).f1).length : Int)) = false:=decide_eq_false c5
       have c5b1 : decide (30 < ((rd_T53 l0 x7_1).f1).length) = false:=decide_eq_false (by omega)
       clear c5
       by_cases c8 : (((rd_T53 l0 x7_1).f0).size : Int) > 100
       ·rw [if_pos c8] at H
        have c8b0 : decide (100 < (((rd_T53 l0 x7_1).f0).size : Int)) = true:=decide_eq_true c8
        have c8b1 : decide (100 < ((rd_T53 l0 x7_1).f0).size) = true:=decide_eq_true (by omega)
        clear c8
        obtain rfl:=Option.some.inj H
        have p101 : 0 ≤ (x7_1 : Int):=of_decide_eq_true (by first | (with_reducible assumption) | assumption)
        have q101 : x7_1 < (l0.length : Int):=of_decide_eq_true (by first | (with_reducible assumption) | assumption)
        obtain ⟨ad101,A101_1,c101_1,e101,hx101_0,hx101_1,hl101_1,hi101_1⟩:=at_T53 HR0.out x7_1 p101 q101
        cases e101
        replace hx101_0:=(HB.out.cell (World.block_lt_of_cell? w _ hx101_0)).trans hx101_0
        replace hx101_1:=(HB.out.cell (World.block_lt_of_cell? w _ hx101_1)).trans hx101_1
        have HR101_1:=Aside0.mk hi101_1
        have HC101_1:=Aside0.mk hl101_1
        clear hi101_1 hl101_1
        replace p101:=eq_true p101
        replace q101:=eq_true q101
        go_wp2_with (first | ((with_reducible refine gate_dst (N:=4) rfl ?_);(try (refine gate_guard (by rfl) ?_;dsimp only));refine box_event ?hg (N:=4) ?hd (cs:=#[.string (⟨#[]⟩ : ByteArray),.slice none 0 0]) (t:=53) ?hr ?_;(case hd => rfl);(case hg => rfl);(case hr => first | (go_simp;done) | (go_simp;rfl));intro gb102 hg w9 hbox hb;have n0_:=Aside0.mk (below_step (by repeat (first | (with_reducible first | exact HB.out | apply below_alloc | apply pw_below_drewN | apply below_drew1) | exact HB.out)) hb);have n1_:=Aside0.mk (hbox);have n2_:=Aside0.mk ((by rw [hg];exact (below_size (by repeat (first | (with_reducible first | exact HB.out | apply below_alloc | apply pw_below_drewN | apply below_drew1) | exact HB.out))) : w.heap.size ≤ gb102));have n3_:=Aside0.mk ((by rw [hg];exact (below_size (by repeat (first | (with_reducible first | exact HB.out | apply below_alloc | apply pw_below_drewN | apply below_drew1) | exact HB.out))) : w.heap.size ≤ gb102));clear HB;have HB:=n0_;have BK102:=n1_;have GW102:=n2_;have GE102:=n3_;clear n0_ n1_ n2_ n3_;clear hb hbox hg;have hcz10_0 : w9.cell? ⟨gb102,0,none⟩ = some (.string (⟨#[]⟩ : ByteArray)):=(blk_cell BK102.out 0).trans rfl;have hcz10_1 : w9.cell? ⟨gb102,1,none⟩ = some (.slice none 0 0):=(blk_cell BK102.out 1).trans rfl;have hfz10_0:=blk_frozen BK102.out 0;have hfz10_1:=blk_frozen BK102.out 1))
        go_ret
        exact ⟨by first | rfl | (simp [errW_none,errW_some] <;> rfl) | (simp [*,errW_none,errW_some] <;> rfl),by repeat (first | (with_reducible first | exact HB.out | apply below_alloc | apply pw_below_drewN | apply below_drew1 | refine below_set ?_ GE102.out) | exact HB.out)⟩
       ·rw [if_neg c8] at H
        have c8b0 : decide (100 < (((rd_T53 l0 x7_1).f0).size : Int)) = false:=decide_eq_false c8
        have c8b1 : decide (100 < ((rd_T53 l0 x7_1).f0).size) = false:=decide_eq_false (by omega)
        clear c8
        have H':=Aside0.mk H
        clear H
        have p101 : 0 ≤ (x7_1 : Int):=of_decide_eq_true (by first | (with_reducible assumption) | assumption)
        have q101 : x7_1 < (l0.length : Int):=of_decide_eq_true (by first | (with_reducible assumption) | assumption)
        obtain ⟨ad101,A101_1,c101_1,e101,hx101_0,hx101_1,hl101_1,hi101_1⟩:=at_T53 HR0.out x7_1 p101 q101
        cases e101
        replace hx101_0:=(HB.out.cell (World.block_lt_of_cell? w _ hx101_0)).trans hx101_0
        replace hx101_1:=(HB.out.cell (World.block_lt_of_cell? w _ hx101_1)).trans hx101_1
        have HR101_1:=Aside0.mk hi101_1
        have HC101_1:=Aside0.mk hl101_1
        clear hi101_1 hl101_1
        replace p101:=eq_true p101
        replace q101:=eq_true q101
        go_wp2_with (first | ((with_reducible refine gate_dst (N:=4) rfl ?_);(try (refine gate_guard (by rfl) ?_;dsimp only));refine box_event ?hg (N:=4) ?hd (cs:=#[.string (⟨#[]⟩ : ByteArray),.slice none 0 0]) (t:=53) ?hr ?_;(case hd => rfl);(case hg => rfl);(case hr => first | (go_simp;done) | (go_simp;rfl));intro gb102 hg w11 hbox hb;have n0_:=Aside0.mk (below_step (by repeat (first | (with_reducible first | exact HB.out | apply below_alloc | apply pw_below_drewN | apply below_drew1) | exact HB.out)) hb);have n1_:=Aside0.mk (hbox);have n2_:=Aside0.mk ((by rw [hg];exact (below_size (by repeat (first | (with_reducible first | exact HB.out | apply below_alloc | apply pw_below_drewN | apply below_drew1) | exact HB.out))) : w.heap.size ≤ gb102));have n3_:=Aside0.mk ((by rw [hg];exact (below_size (by repeat (first | (with_reducible first | exact HB.out | apply below_alloc | apply pw_below_drewN | apply below_drew1) | exact HB.out))) : w.heap.size ≤ gb102));clear HB;have HB:=n0_;have BK102:=n1_;have GW102:=n2_;have GE102:=n3_;clear n0_ n1_ n2_ n3_;clear hb hbox hg;have hcz12_0 : w11.cell? ⟨gb102,0,none⟩ = some (.string (⟨#[]⟩ : ByteArray)):=(blk_cell BK102.out 0).trans rfl;have hcz12_1 : w11.cell? ⟨gb102,1,none⟩ = some (.slice none 0 0):=(blk_cell BK102.out 1).trans rfl;have hfz12_0:=blk_frozen BK102.out 0;have hfz12_1:=blk_frozen BK102.out 1))
        go_roundg k1
        case measure => have:=HK1.out;omega
        case rel => exact ⟨(wrap64 (x7_1 + 1)),(by first | rfl | (simp;done) | (simp [*];done)),H',⟨by have:=HK1.out;omega⟩,⟨by repeat (first | (with_reducible first | exact HB.out | apply below_alloc | apply pw_below_drewN | apply below_drew1 | refine below_set ?_ GE102.out) | exact HB.out)⟩⟩
     ·rw [if_neg c4] at H
      exact absurd H (by simp)
    ·rw [if_neg c3] at H
     exact absurd H (by simp)
   ·rw [if_neg c2] at H
    have c2b0 : decide (x7_1 < (l0.length : Int)) = false:=decide_eq_false c2
    clear c2
    obtain rfl:=Option.some.inj H
    go_wp2
    go_ret
    exact ⟨by first | rfl | (simp [errW_none,errW_some] <;> rfl) | (simp [*,errW_none,errW_some] <;> rfl),by repeat (first | (with_reducible first | exact HB.out | apply below_alloc | apply pw_below_drewN | apply below_drew1) | exact HB.out)⟩

/-! ### tachographlaw12_Great: function 8 -/
mutual
def tachographlaw12_Great.l0 : Nat → Int → Int → List (S56) → Int → Int → Option (Bool)
 | 0, _, _, _, _, _ => none
 | k + 1, x1, x5, x14, x15, x16 => if x16 < x15 then (if 0 ≤ x16 then (if x16 < (x14.length : Int) then (if (wrap64 (x5 + (((rd_T56 x14 x16).f1).length : Int))) > x1 then (some true) else (tachographlaw12_Great.l1 k x1 (wrap64 (x5 + (((rd_T56 x14 x16).f1).length : Int))) x14 x15 x16 ((rd_T56 x14 x16).f1) (((rd_T56 x14 x16).f1).length : Int) 0)) else (none)) else (none)) else (some (decide (x5 > x1)))
def tachographlaw12_Great.l1 : Nat → Int → Int → List (S56) → Int → Int → List (S59) → Int → Int → Option (Bool)
 | 0, _, _, _, _, _, _, _, _ => none
 | k + 1, x1, x5, x14, x15, x16, x29, x30, x31 => if x31 < x30 then (if 0 ≤ x31 then (if x31 < (x29.length : Int) then (tachographlaw12_Great.l2 k x1 (wrap64 (x5 + (((rd_T59 x29 x31).f1).length : Int))) x14 x15 x16 x29 x30 x31 ((rd_T59 x29 x31).f1) (((rd_T59 x29 x31).f1).length : Int) 0) else (none)) else (none)) else (tachographlaw12_Great.l0 k x1 x5 x14 x15 (wrap64 (x16 + 1)))
def tachographlaw12_Great.l2 : Nat → Int → Int → List (S56) → Int → Int → List (S59) → Int → Int → List (S61) → Int → Int → Option (Bool)
 | 0, _, _, _, _, _, _, _, _, _, _, _ => none
 | k + 1, x1, x5, x14, x15, x16, x29, x30, x31, x41, x42, x43 => if x43 < x42 then (if 0 ≤ x43 then (if x43 < (x41.length : Int) then (tachographlaw12_Great.l2 k x1 (wrap64 (x5 + (wrap64 ((((rd_T61 x41 x43).f2).size : Int) / 8)))) x14 x15 x16 x29 x30 x31 x41 x42 (wrap64 (x43 + 1))) else (none)) else (none)) else (tachographlaw12_Great.l1 k x1 x5 x14 x15 x16 x29 x30 (wrap64 (x31 + 1)))
end
def tachographlaw12_Great.f (k : Nat) (l0 : List (S56)) (a1 : Int) : Option (Bool) := tachographlaw12_Great.l0 k a1 (l0.length : Int) l0 (l0.length : Int) 0
set_option maxHeartbeats 8000000 in
set_option maxRecDepth 100000 in
theorem tachographlaw12_Great.calls (k : Nat) (A0 : Option Addr) (c0 : Nat) (l0 : List (S56)) (a1 : Int) (r : Bool) (w : World) (hr0 : Kd.C k56 w A0 l0.length l0) (hc0 : l0.length ≤ c0) (h : tachographlaw12_Great.f k l0 a1 = some r) :
  Calls Try.prog 8 #[.slice A0 l0.length c0,.int .i64 a1] w fun e w' => e = .returned (.bool r) ∧ Below w.heap.size w w':=by
 have hu56:=Try.underlying56
 have hu59:=Try.underlying59
 have hu61:=Try.underlying61
 have HR0:=Aside0.mk hr0
 have HC0:=Aside0.mk hc0
 clear hr0 hc0
 have HB:=Aside0.mk (Below.refl w.heap.size w)
 have H : (tachographlaw12_Great.l0 k a1 (l0.length : Int) l0 (l0.length : Int) 0) = some r:=h
 clear h
 have H':=Aside0.mk H
 clear H
 go_enter Try.func8,Try.ntmps8
 go_wp2
 go_loopg [5,16] k (fun kq v5 v16 w' => ∃ (x5_1 : Int) (x16_1 : Int),v5 = .int .i64 x5_1 ∧ v16 = .int .i64 x16_1 ∧ Aside0 (tachographlaw12_Great.l0 kq a1 x5_1 l0 (l0.length : Int) x16_1 = some r) ∧ Aside0 (kq ≤ k) ∧ Aside0 (Below w.heap.size w w'))
 case atStart => exact ⟨((l0.length : Int)),(0),(by first | rfl | (simp;done) | (simp [*];done)),(by first | rfl | (simp;done) | (simp [*];done)),H',⟨Nat.le_refl _⟩,⟨by repeat (first | (with_reducible first | exact HB.out | apply below_alloc | apply pw_below_drewN | apply below_drew1) | exact HB.out)⟩⟩
 case round =>
  clear H'
  try clear p2
  obtain ⟨x5_1,x16_1,rfl,rfl,HA,HK1,HB⟩:=hrel
  cases gk with
  | zero => exact absurd HA.out (by simp [tachographlaw12_Great.l0])
  | succ k1 =>
   have H:=HA.out
   clear HA
   simp only [tachographlaw12_Great.l0] at H
   by_cases c3 : x16_1 < (l0.length : Int)
   ·rw [if_pos c3] at H
    have c3b0 : decide (x16_1 < (l0.length : Int)) = true:=decide_eq_true c3
    clear c3
    by_cases c4 : 0 ≤ x16_1
    ·rw [if_pos c4] at H
     have c4b0 : decide (0 ≤ x16_1) = true:=decide_eq_true c4
     clear c4
     by_cases c5 : x16_1 < (l0.length : Int)
     ·rw [if_pos c5] at H
      have c5b0 : decide (x16_1 < (l0.length : Int)) = true:=decide_eq_true c5
      clear c5
      by_cases c6 : (wrap64 (x5_1 + (((rd_T56 l0 x16_1).f1).length : Int))) > a1
      ·rw [if_pos c6] at H
       have c6b0 : decide (a1 < (wrap64 (x5_1 + (((rd_T56 l0 x16_1).f1).length : Int)))) = true:=decide_eq_true c6
       clear c6
       obtain rfl:=Option.some.inj H
       have p103 : 0 ≤ (x16_1 : Int):=of_decide_eq_true (by first | (with_reducible assumption) | assumption)
       have q103 : x16_1 < (l0.length : Int):=of_decide_eq_true (by first | (with_reducible assumption) | assumption)
       obtain ⟨ad103,A103_1,c103_1,e103,hx103_0,hx103_1,hl103_1,hi103_1⟩:=at_T56 HR0.out x16_1 p103 q103
       cases e103
       replace hx103_0:=(HB.out.cell (World.block_lt_of_cell? w _ hx103_0)).trans hx103_0
       replace hx103_1:=(HB.out.cell (World.block_lt_of_cell? w _ hx103_1)).trans hx103_1
       have HR103_1:=Aside0.mk hi103_1
       have HC103_1:=Aside0.mk hl103_1
       clear hi103_1 hl103_1
       replace p103:=eq_true p103
       replace q103:=eq_true q103
       go_wp2_with (first | ((with_reducible refine gate_dst (N:=7) rfl ?_);refine box_event ?hg (N:=7) ?hd (cs:=#[.int .u64 0,.slice none 0 0]) (t:=56) ?hr ?_;(case hd => rfl);(case hg => rfl);(case hr => first | (go_simp;done) | (go_simp;rfl));intro gb104 hg w7 hbox hb;have n0_:=Aside0.mk (below_step (by repeat (first | (with_reducible first | exact HB.out | apply below_alloc | apply pw_below_drewN | apply below_drew1) | exact HB.out)) hb);have n1_:=Aside0.mk (hbox);have n2_:=Aside0.mk ((by rw [hg];exact (below_size (by repeat (first | (with_reducible first | exact HB.out | apply below_alloc | apply pw_below_drewN | apply below_drew1) | exact HB.out))) : w.heap.size ≤ gb104));have n3_:=Aside0.mk ((by rw [hg];exact (below_size (by repeat (first | (with_reducible first | exact HB.out | apply below_alloc | apply pw_below_drewN | apply below_drew1) | exact HB.out))) : w.heap.size ≤ gb104));clear HB;have HB:=n0_;have BK104:=n1_;have GW104:=n2_;have GE104:=n3_;clear n0_ n1_ n2_ n3_;clear hb hbox hg;have hcz8_0 : w7.cell? ⟨gb104,0,none⟩ = some (.int .u64 0):=(blk_cell BK104.out 0).trans rfl;have hcz8_1 : w7.cell? ⟨gb104,1,none⟩ = some (.slice none 0 0):=(blk_cell BK104.out 1).trans rfl;have hfz8_0:=blk_frozen BK104.out 0;have hfz8_1:=blk_frozen BK104.out 1))
       go_ret
       exact ⟨by first | rfl | (simp [errW_none,errW_some] <;> rfl) | (simp [*,errW_none,errW_some] <;> rfl),by repeat (first | (with_reducible first | exact HB.out | apply below_alloc | apply pw_below_drewN | apply below_drew1 | refine below_set ?_ GE104.out) | exact HB.out)⟩
      ·rw [if_neg c6] at H
       have c6b0 : decide (a1 < (wrap64 (x5_1 + (((rd_T56 l0 x16_1).f1).length : Int)))) = false:=decide_eq_false c6
       clear c6
       have H':=Aside0.mk H
       clear H
       have p103 : 0 ≤ (x16_1 : Int):=of_decide_eq_true (by first | (with_reducible assumption) | assumption)
       have q103 : x16_1 < (l0.length : Int):=of_decide_eq_true (by first | (with_reducible assumption) | assumption)
       obtain ⟨ad103,A103_1,c103_1,e103,hx103_0,hx103_1,hl103_1,hi103_1⟩:=at_T56 HR0.out x16_1 p103 q103
       cases e103
       replace hx103_0:=(HB.out.cell (World.block_lt_of_cell? w _ hx103_0)).trans hx103_0
       replace hx103_1:=(HB.out.cell (World.block_lt_of_cell? w _ hx103_1)).trans hx103_1
       have HR103_1:=Aside0.mk hi103_1
       have HC103_1:=Aside0.mk hl103_1
       clear hi103_1 hl103_1
       replace p103:=eq_true p103
       replace q103:=eq_true q103
       go_wp2_with (first | ((with_reducible refine gate_dst (N:=7) rfl ?_);refine box_event ?hg (N:=7) ?hd (cs:=#[.int .u64 0,.slice none 0 0]) (t:=56) ?hr ?_;(case hd => rfl);(case hg => rfl);(case hr => first | (go_simp;done) | (go_simp;rfl));intro gb104 hg w9 hbox hb;have n0_:=Aside0.mk (below_step (by repeat (first | (with_reducible first | exact HB.out | apply below_alloc | apply pw_below_drewN | apply below_drew1) | exact HB.out)) hb);have n1_:=Aside0.mk (hbox);have n2_:=Aside0.mk ((by rw [hg];exact (below_size (by repeat (first | (with_reducible first | exact HB.out | apply below_alloc | apply pw_below_drewN | apply below_drew1) | exact HB.out))) : w.heap.size ≤ gb104));have n3_:=Aside0.mk ((by rw [hg];exact (below_size (by repeat (first | (with_reducible first | exact HB.out | apply below_alloc | apply pw_below_drewN | apply below_drew1) | exact HB.out))) : w.heap.size ≤ gb104));clear HB;have HB:=n0_;have BK104:=n1_;have GW104:=n2_;have GE104:=n3_;clear n0_ n1_ n2_ n3_;clear hb hbox hg;have hcz10_0 : w9.cell? ⟨gb104,0,none⟩ = some (.int .u64 0):=(blk_cell BK104.out 0).trans rfl;have hcz10_1 : w9.cell? ⟨gb104,1,none⟩ = some (.slice none 0 0):=(blk_cell BK104.out 1).trans rfl;have hfz10_0:=blk_frozen BK104.out 0;have hfz10_1:=blk_frozen BK104.out 1))
       go_loopg [5,31] k1 (fun kq v5 v31 w' => ∃ (x5_2 : Int) (x31_2 : Int),v5 = .int .i64 x5_2 ∧ v31 = .int .i64 x31_2 ∧ Aside0 (tachographlaw12_Great.l1 kq a1 x5_2 l0 (l0.length : Int) x16_1 ((rd_T56 l0 x16_1).f1) (((rd_T56 l0 x16_1).f1).length : Int) x31_2 = some r) ∧ Aside0 (kq ≤ k1) ∧ Aside0 (w'.heap[gb104]? = some (.cells #[.int .u64 ((rd_T56 l0 x16_1).f0),(.slice A103_1 ((rd_T56 l0 x16_1).f1).length c103_1)] 56 (0,0))) ∧ Aside0 (Below w.heap.size w w'))
       case atStart => exact ⟨(wrap64 (x5_1 + (((rd_T56 l0 x16_1).f1).length : Int))),(0),(by first | rfl | (simp;done) | (simp [*];done)),(by first | rfl | (simp;done) | (simp [*];done)),H',⟨Nat.le_refl _⟩,⟨by (with_reducible repeat (first | refine blk_drewN ?_ _ | refine blk_drew ?_ | refine blk_alloc ?_ _));refine blk_put (cs:=#[.int .u64 ((rd_T56 l0 x16_1).f0),.slice none 0 0]) ?_ 1 _ rfl;(with_reducible repeat (first | refine blk_drewN ?_ _ | refine blk_drew ?_ | refine blk_alloc ?_ _));refine blk_put (cs:=#[.int .u64 0,.slice none 0 0]) ?_ 0 _ rfl;(with_reducible repeat (first | refine blk_drewN ?_ _ | refine blk_drew ?_ | refine blk_alloc ?_ _));exact BK104.out⟩,⟨by repeat (first | (with_reducible first | exact HB.out | apply below_alloc | apply pw_below_drewN | apply below_drew1 | refine below_set ?_ GE104.out) | exact HB.out)⟩⟩
       case round =>
        clear H'
        try clear c1
        try clear p1
        try clear q1
        try clear hx1
        try clear p2
        try clear c3
        try clear c3b0
        try clear c4
        try clear c4b0
        try clear c5
        try clear c5b0
        try clear c6
        try clear c6b0
        try clear p6
        try clear c8
        try clear c10
        try clear p10
        try clear q10
        try clear hx10
        try clear hcz10_0
        try clear hcz10_1
        try clear hcz8_0
        try clear hcz8_1
        try clear hfz10_0
        try clear hfz10_1
        try clear hfz8_0
        try clear hfz8_1
        try clear hx103_0
        try clear hx103_1
        try clear p103
        try clear p2
        try clear q103
        obtain ⟨x5_2,x31_2,rfl,rfl,HA,HK2,BK104,HB⟩:=hrel
        cases gk with
        | zero => exact absurd HA.out (by simp [tachographlaw12_Great.l1])
        | succ k2 =>
         have H:=HA.out
         clear HA
         simp only [tachographlaw12_Great.l1] at H
         by_cases c11 : x31_2 < (((rd_T56 l0 x16_1).f1).length : Int)
         ·rw [if_pos c11] at H
          have c11b0 : decide (x31_2 < (((rd_T56 l0 x16_1).f1).length : Int)) = true:=decide_eq_true c11
          clear c11
          by_cases c12 : 0 ≤ x31_2
          ·rw [if_pos c12] at H
           have c12b0 : decide (0 ≤ x31_2) = true:=decide_eq_true c12
           clear c12
           by_cases c13 : x31_2 < (((rd_T56 l0 x16_1).f1).length : Int)
           ·rw [if_pos c13] at H
            have c13b0 : decide (x31_2 < (((rd_T56 l0 x16_1).f1).length : Int)) = true:=decide_eq_true c13
            clear c13
            have H':=Aside0.mk H
            clear H
            have p105 : 0 ≤ (x31_2 : Int):=of_decide_eq_true (by first | (with_reducible assumption) | assumption)
            have q105 : x31_2 < (((rd_T56 l0 x16_1).f1).length : Int):=of_decide_eq_true (by first | (with_reducible assumption) | assumption)
            obtain ⟨ad105,A105_1,c105_1,e105,hx105_0,hx105_1,hl105_1,hi105_1⟩:=at_T59 HR103_1.out x31_2 p105 q105
            cases e105
            replace hx105_0:=(HB.out.cell (World.block_lt_of_cell? w _ hx105_0)).trans hx105_0
            replace hx105_1:=(HB.out.cell (World.block_lt_of_cell? w _ hx105_1)).trans hx105_1
            have HR105_1:=Aside0.mk hi105_1
            have HC105_1:=Aside0.mk hl105_1
            clear hi105_1 hl105_1
            replace p105:=eq_true p105
            replace q105:=eq_true q105
            go_wp2_with (first | ((with_reducible refine gate_dst (N:=9) rfl ?_);refine box_event ?hg (N:=9) ?hd (cs:=#[.int .i64 0,.slice none 0 0]) (t:=59) ?hr ?_;(case hd => rfl);(case hg => rfl);(case hr => first | (go_simp;done) | (go_simp;rfl));intro gb106 hg w14 hbox hb;have n0_:=Aside0.mk (blk_below (g:=gb104) (o:=.cells #[.int .u64 ((rd_T56 l0 x16_1).f0),.slice (some ad105) ((rd_T56 l0 x16_1).f1).length c103_1] 56 (0,0)) (by (with_reducible repeat (first | refine blk_drewN ?_ _ | refine blk_drew ?_ | refine blk_alloc ?_ _));exact BK104.out) hb);have n1_:=Aside0.mk (below_step (by repeat (first | (with_reducible first | exact HB.out | apply below_alloc | apply pw_below_drewN | apply below_drew1 | refine below_set ?_ GE104.out) | exact HB.out)) hb);have n2_:=Aside0.mk (hbox);have n3_:=Aside0.mk ((by rw [hg];exact (below_size (by repeat (first | (with_reducible first | exact HB.out | apply below_alloc | apply pw_below_drewN | apply below_drew1 | refine below_set ?_ GE104.out) | exact HB.out))) : w.heap.size ≤ gb106));have n4_:=Aside0.mk ((by rw [hg];exact (below_size (by repeat (first | (with_reducible first | exact HB.out | apply below_alloc | apply pw_below_drewN | apply below_drew1 | refine below_set ?_ GE104.out) | exact HB.out))) : w.heap.size ≤ gb106));have n5_:=Aside0.mk ((by rw [hg];exact Nat.ne_of_lt (blk_lt (g:=gb104) (o:=.cells #[.int .u64 ((rd_T56 l0 x16_1).f0),.slice (some ad105) ((rd_T56 l0 x16_1).f1).length c103_1] 56 (0,0)) (by (with_reducible repeat (first | refine blk_drewN ?_ _ | refine blk_drew ?_ | refine blk_alloc ?_ _));exact BK104.out)) : gb104 ≠ gb106));have n6_:=Aside0.mk ((by rw [hg];exact Nat.ne_of_gt (blk_lt (g:=gb104) (o:=.cells #[.int .u64 ((rd_T56 l0 x16_1).f0),.slice (some ad105) ((rd_T56 l0 x16_1).f1).length c103_1] 56 (0,0)) (by (with_reducible repeat (first | refine blk_drewN ?_ _ | refine blk_drew ?_ | refine blk_alloc ?_ _));exact BK104.out)) : gb106 ≠ gb104));clear BK104;clear HB;have BK104:=n0_;have HB:=n1_;have BK106:=n2_;have GW106:=n3_;have GE106:=n4_;have NB104_106:=n5_;have NB106_104:=n6_;clear n0_ n1_ n2_ n3_ n4_ n5_ n6_;clear hb hbox hg;have hnb15:=NB106_104.out;have hnc15:=NB104_106.out;have hcz16_0 : w14.cell? ⟨gb106,0,none⟩ = some (.int .i64 0):=(blk_cell BK106.out 0).trans rfl;have hcz16_1 : w14.cell? ⟨gb106,1,none⟩ = some (.slice none 0 0):=(blk_cell BK106.out 1).trans rfl;have hfz16_0:=blk_frozen BK106.out 0;have hfz16_1:=blk_frozen BK106.out 1))
            go_loopg [5,43] k2 (fun kq v5 v43 w' => ∃ (x5_3 : Int) (x43_3 : Int),v5 = .int .i64 x5_3 ∧ v43 = .int .i64 x43_3 ∧ Aside0 (tachographlaw12_Great.l2 kq a1 x5_3 l0 (l0.length : Int) x16_1 ((rd_T56 l0 x16_1).f1) (((rd_T56 l0 x16_1).f1).length : Int) x31_2 ((rd_T59 ((rd_T56 l0 x16_1).f1) x31_2).f1) (((rd_T59 ((rd_T56 l0 x16_1).f1) x31_2).f1).length : Int) x43_3 = some r) ∧ Aside0 (kq ≤ k2) ∧ Aside0 (w'.heap[gb104]? = some (.cells #[.int .u64 ((rd_T56 l0 x16_1).f0),(.slice (some ad105) ((rd_T56 l0 x16_1).f1).length c103_1)] 56 (0,0))) ∧ Aside0 (w'.heap[gb106]? = some (.cells #[.int .i64 ((rd_T59 ((rd_T56 l0 x16_1).f1) x31_2).f0),(.slice A105_1 ((rd_T59 ((rd_T56 l0 x16_1).f1) x31_2).f1).length c105_1)] 59 (0,0))) ∧ Aside0 (Below w.heap.size w w'))
            case atStart => exact ⟨(wrap64 (x5_2 + (((rd_T59 ((rd_T56 l0 x16_1).f1) x31_2).f1).length : Int))),(0),(by first | rfl | (simp;done) | (simp [*];done)),(by first | rfl | (simp;done) | (simp [*];done)),H',⟨Nat.le_refl _⟩,⟨by (with_reducible repeat (first | refine blk_drewN ?_ _ | refine blk_drew ?_ | refine blk_alloc ?_ _));refine blk_far ?_ NB104_106.out _;(with_reducible repeat (first | refine blk_drewN ?_ _ | refine blk_drew ?_ | refine blk_alloc ?_ _));refine blk_far ?_ NB104_106.out _;(with_reducible repeat (first | refine blk_drewN ?_ _ | refine blk_drew ?_ | refine blk_alloc ?_ _));exact BK104.out⟩,⟨by (with_reducible repeat (first | refine blk_drewN ?_ _ | refine blk_drew ?_ | refine blk_alloc ?_ _));refine blk_put (cs:=#[.int .i64 ((rd_T59 ((rd_T56 l0 x16_1).f1) x31_2).f0),.slice none 0 0]) ?_ 1 _ rfl;(with_reducible repeat (first | refine blk_drewN ?_ _ | refine blk_drew ?_ | refine blk_alloc ?_ _));refine blk_put (cs:=#[.int .i64 0,.slice none 0 0]) ?_ 0 _ rfl;(with_reducible repeat (first | refine blk_drewN ?_ _ | refine blk_drew ?_ | refine blk_alloc ?_ _));exact BK106.out⟩,⟨by repeat (first | (with_reducible first | exact HB.out | apply below_alloc | apply pw_below_drewN | apply below_drew1 | refine below_set ?_ GE104.out | refine below_set ?_ GE106.out) | exact HB.out)⟩⟩
            case round =>
             clear H'
             try clear c1
             try clear p1
             try clear q1
             try clear hx1
             try clear p2
             try clear c3
             try clear c3b0
             try clear c4
             try clear c4b0
             try clear c5
             try clear c5b0
             try clear c6
             try clear c6b0
             try clear p6
             try clear c8
             try clear c10
             try clear p10
             try clear q10
             try clear hx10
             try clear c11
             try clear c11b0
             try clear c12
             try clear c12b0
             try clear c13
             try clear c13b0
             try clear c15
             try clear hcz10_0
             try clear hcz10_1
             try clear hcz16_0
             try clear hcz16_1
             try clear hcz8_0
             try clear hcz8_1
             try clear hfz10_0
             try clear hfz10_1
             try clear hfz16_0
             try clear hfz16_1
             try clear hfz8_0
             try clear hfz8_1
             try clear hx103_0
             try clear hx103_1
             try clear hx105_0
             try clear hx105_1
             try clear p1
             try clear p10
             try clear p103
             try clear p105
             try clear p2
             try clear p6
             try clear q1
             try clear q10
             try clear q103
             try clear q105
             obtain ⟨x5_3,x43_3,rfl,rfl,HA,HK3,BK104,BK106,HB⟩:=hrel
             cases gk with
             | zero => exact absurd HA.out (by simp [tachographlaw12_Great.l2])
             | succ k3 =>
              have H:=HA.out
              clear HA
              simp only [tachographlaw12_Great.l2] at H
              by_cases c17 : x43_3 < (((rd_T59 ((rd_T56 l0 x16_1).f1) x31_2).f1).length : Int)
              ·rw [if_pos c17] at H
               have c17b0 : decide (x43_3 < (((rd_T59 ((rd_T56 l0 x16_1).f1) x31_2).f1).length : Int)) = true:=decide_eq_true c17
               clear c17
               by_cases c18 : 0 ≤ x43_3
               ·rw [if_pos c18] at H
                have c18b0 : decide (0 ≤ x43_3) = true:=decide_eq_true c18
                clear c18
                by_cases c19 : x43_3 < (((rd_T59 ((rd_T56 l0 x16_1).f1) x31_2).f1).length : Int)
                ·rw [if_pos c19] at H
                 have c19b0 : decide (x43_3 < (((rd_T59 ((rd_T56 l0 x16_1).f1) x31_2).f1).length : Int)) = true:=decide_eq_true c19
                 clear c19
                 have H':=Aside0.mk H
                 clear H
                 have p107 : 0 ≤ (x43_3 : Int):=of_decide_eq_true (by first | (with_reducible assumption) | assumption)
                 have q107 : x43_3 < (((rd_T59 ((rd_T56 l0 x16_1).f1) x31_2).f1).length : Int):=of_decide_eq_true (by first | (with_reducible assumption) | assumption)
                 obtain ⟨ad107,e107,hx107_0,hx107_1,hx107_2⟩:=at_T61 HR105_1.out x43_3 p107 q107
                 cases e107
                 replace hx107_0:=(HB.out.cell (World.block_lt_of_cell? w _ hx107_0)).trans hx107_0
                 replace hx107_1:=(HB.out.cell (World.block_lt_of_cell? w _ hx107_1)).trans hx107_1
                 replace hx107_2:=(HB.out.cell (World.block_lt_of_cell? w _ hx107_2)).trans hx107_2
                 replace p107:=eq_true p107
                 replace q107:=eq_true q107
                 go_wp2_with (first | ((with_reducible refine gate_dst (N:=11) rfl ?_);refine box_event ?hg (N:=11) ?hd (cs:=#[.int .i64 0,.int .i64 0,.string (⟨#[]⟩ : ByteArray)]) (t:=61) ?hr ?_;(case hd => rfl);(case hg => rfl);(case hr => first | (go_simp;done) | (go_simp;rfl));intro gb108 hg w20 hbox hb;have n0_:=Aside0.mk (blk_below (g:=gb104) (o:=.cells #[.int .u64 ((rd_T56 l0 x16_1).f0),.slice (some ad105) ((rd_T56 l0 x16_1).f1).length c103_1] 56 (0,0)) (by (with_reducible repeat (first | refine blk_drewN ?_ _ | refine blk_drew ?_ | refine blk_alloc ?_ _));exact BK104.out) hb);have n1_:=Aside0.mk (blk_below (g:=gb106) (o:=.cells #[.int .i64 ((rd_T59 ((rd_T56 l0 x16_1).f1) x31_2).f0),.slice (some ad107) ((rd_T59 ((rd_T56 l0 x16_1).f1) x31_2).f1).length c105_1] 59 (0,0)) (by (with_reducible repeat (first | refine blk_drewN ?_ _ | refine blk_drew ?_ | refine blk_alloc ?_ _));exact BK106.out) hb);have n2_:=Aside0.mk (below_step (by repeat (first | (with_reducible first | exact HB.out | apply below_alloc | apply pw_below_drewN | apply below_drew1 | refine below_set ?_ GE104.out | refine below_set ?_ GE106.out) | exact HB.out)) hb);have n3_:=Aside0.mk (hbox);have n4_:=Aside0.mk ((by rw [hg];exact (below_size (by repeat (first | (with_reducible first | exact HB.out | apply below_alloc | apply pw_below_drewN | apply below_drew1 | refine below_set ?_ GE104.out | refine below_set ?_ GE106.out) | exact HB.out))) : w.heap.size ≤ gb108));have n5_:=Aside0.mk ((by rw [hg];exact (below_size (by repeat (first | (with_reducible first | exact HB.out | apply below_alloc | apply pw_below_drewN | apply below_drew1 | refine below_set ?_ GE104.out | refine below_set ?_ GE106.out) | exact HB.out))) : w.heap.size ≤ gb108));have n6_:=Aside0.mk ((by rw [hg];exact Nat.ne_of_lt (blk_lt (g:=gb104) (o:=.cells #[.int .u64 ((rd_T56 l0 x16_1).f0),.slice (some ad105) ((rd_T56 l0 x16_1).f1).length c103_1] 56 (0,0)) (by (with_reducible repeat (first | refine blk_drewN ?_ _ | refine blk_drew ?_ | refine blk_alloc ?_ _));exact BK104.out)) : gb104 ≠ gb108));have n7_:=Aside0.mk ((by rw [hg];exact Nat.ne_of_gt (blk_lt (g:=gb104) (o:=.cells #[.int .u64 ((rd_T56 l0 x16_1).f0),.slice (some ad105) ((rd_T56 l0 x16_1).f1).length c103_1] 56 (0,0)) (by (with_reducible repeat (first | refine blk_drewN ?_ _ | refine blk_drew ?_ | refine blk_alloc ?_ _));exact BK104.out)) : gb108 ≠ gb104));have n8_:=Aside0.mk ((by rw [hg];exact Nat.ne_of_lt (blk_lt (g:=gb106) (o:=.cells #[.int .i64 ((rd_T59 ((rd_T56 l0 x16_1).f1) x31_2).f0),.slice (some ad107) ((rd_T59 ((rd_T56 l0 x16_1).f1) x31_2).f1).length c105_1] 59 (0,0)) (by (with_reducible repeat (first | refine blk_drewN ?_ _ | refine blk_drew ?_ | refine blk_alloc ?_ _));exact BK106.out)) : gb106 ≠ gb108));have n9_:=Aside0.mk ((by rw [hg];exact Nat.ne_of_gt (blk_lt (g:=gb106) (o:=.cells #[.int .i64 ((rd_T59 ((rd_T56 l0 x16_1).f1) x31_2).f0),.slice (some ad107) ((rd_T59 ((rd_T56 l0 x16_1).f1) x31_2).f1).length c105_1] 59 (0,0)) (by (with_reducible repeat (first | refine blk_drewN ?_ _ | refine blk_drew ?_ | refine blk_alloc ?_ _));exact BK106.out)) : gb108 ≠ gb106));clear BK104;clear BK106;clear HB;have BK104:=n0_;have BK106:=n1_;have HB:=n2_;have BK108:=n3_;have GW108:=n4_;have GE108:=n5_;have NB104_108:=n6_;have NB108_104:=n7_;have NB106_108:=n8_;have NB108_106:=n9_;clear n0_ n1_ n2_ n3_ n4_ n5_ n6_ n7_ n8_ n9_;clear hb hbox hg;have hnb21:=NB108_104.out;have hnc21:=NB104_108.out;have hnb22:=NB108_106.out;have hnc22:=NB106_108.out;have hcz23_0 : w20.cell? ⟨gb108,0,none⟩ = some (.int .i64 0):=(blk_cell BK108.out 0).trans rfl;have hcz23_1 : w20.cell? ⟨gb108,1,none⟩ = some (.int .i64 0):=(blk_cell BK108.out 1).trans rfl;have hcz23_2 : w20.cell? ⟨gb108,2,none⟩ = some (.string (⟨#[]⟩ : ByteArray)):=(blk_cell BK108.out 2).trans rfl;have hfz23_0:=blk_frozen BK108.out 0;have hfz23_1:=blk_frozen BK108.out 1;have hfz23_2:=blk_frozen BK108.out 2))
                 go_roundg k3
                 case measure => have:=HK1.out;have:=HK2.out;have:=HK3.out;omega
                 case rel => exact ⟨(wrap64 (x5_3 + (wrap64 ((((rd_T61 ((rd_T59 ((rd_T56 l0 x16_1).f1) x31_2).f1) x43_3).f2).size : Int) / 8)))),(wrap64 (x43_3 + 1)),(by first | rfl | (simp;done) | (simp [*];done)),(by first | rfl | (simp;done) | (simp [*];done)),H',⟨by have:=HK1.out;have:=HK2.out;have:=HK3.out;omega⟩,⟨by (with_reducible repeat (first | refine blk_drewN ?_ _ | refine blk_drew ?_ | refine blk_alloc ?_ _));refine blk_far ?_ NB104_108.out _;(with_reducible repeat (first | refine blk_drewN ?_ _ | refine blk_drew ?_ | refine blk_alloc ?_ _));refine blk_far ?_ NB104_108.out _;(with_reducible repeat (first | refine blk_drewN ?_ _ | refine blk_drew ?_ | refine blk_alloc ?_ _));refine blk_far ?_ NB104_108.out _;(with_reducible repeat (first | refine blk_drewN ?_ _ | refine blk_drew ?_ | refine blk_alloc ?_ _));exact BK104.out⟩,⟨by (with_reducible repeat (first | refine blk_drewN ?_ _ | refine blk_drew ?_ | refine blk_alloc ?_ _));refine blk_far ?_ NB106_108.out _;(with_reducible repeat (first | refine blk_drewN ?_ _ | refine blk_drew ?_ | refine blk_alloc ?_ _));refine blk_far ?_ NB106_108.out _;(with_reducible repeat (first | refine blk_drewN ?_ _ | refine blk_drew ?_ | refine blk_alloc ?_ _));refine blk_far ?_ NB106_108.out _;(with_reducible repeat (first | refine blk_drewN ?_ _ | refine blk_drew ?_ | refine blk_alloc ?_ _));exact BK106.out⟩,⟨by repeat (first | (with_reducible first | exact HB.out | apply below_alloc | apply pw_below_drewN | apply below_drew1 | refine below_set ?_ GE104.out | refine below_set ?_ GE106.out | refine below_set ?_ GE108.out) | exact HB.out)⟩⟩
                ·rw [if_neg c19] at H
                 exact absurd H (by simp)
               ·rw [if_neg c18] at H
                exact absurd H (by simp)
              ·rw [if_neg c17] at H
               have c17b0 : decide (x43_3 < (((rd_T59 ((rd_T56 l0 x16_1).f1) x31_2).f1).length : Int)) = false:=decide_eq_false c17
               clear c17
               have H':=Aside0.mk H
               clear H
               go_wp2
               go_roundg k3
               case measure => have:=HK1.out;have:=HK2.out;have:=HK3.out;omega
               case rel => exact ⟨(x5_3),(wrap64 (x31_2 + 1)),(by first | rfl | (simp;done) | (simp [*];done)),(by first | rfl | (simp;done) | (simp [*];done)),H',⟨by have:=HK1.out;have:=HK2.out;have:=HK3.out;omega⟩,⟨by (with_reducible repeat (first | refine blk_drewN ?_ _ | refine blk_drew ?_ | refine blk_alloc ?_ _));exact BK104.out⟩,⟨by repeat (first | (with_reducible first | exact HB.out | apply below_alloc | apply pw_below_drewN | apply below_drew1 | refine below_set ?_ GE104.out | refine below_set ?_ GE106.out) | exact HB.out)⟩⟩
           ·rw [if_neg c13] at H
            exact absurd H (by simp)
          ·rw [if_neg c12] at H
           exact absurd H (by simp)
         ·rw [if_neg c11] at H
          have c11b0 : decide (x31_2 < (((rd_T56 l0 x16_1).f1).length : Int)) = false:=decide_eq_false c11
          clear c11
          have H':=Aside0.mk H
          clear H
          go_wp2
          go_roundg k2
          case measure => have:=HK1.out;have:=HK2.out;omega
          case rel => exact ⟨(x5_2),(wrap64 (x16_1 + 1)),(by first | rfl | (simp;done) | (simp [*];done)),(by first | rfl | (simp;done) | (simp [*];done)),H',⟨by have:=HK1.out;have:=HK2.out;omega⟩,⟨by repeat (first | (with_reducible first | exact HB.out | apply below_alloc | apply pw_below_drewN | apply below_drew1 | refine below_set ?_ GE104.out) | exact HB.out)⟩⟩
     ·rw [if_neg c5] at H
      exact absurd H (by simp)
    ·rw [if_neg c4] at H
     exact absurd H (by simp)
   ·rw [if_neg c3] at H
    have c3b0 : decide (x16_1 < (l0.length : Int)) = false:=decide_eq_false c3
    clear c3
    obtain rfl:=Option.some.inj H
    go_wp2
    go_ret
    exact ⟨by first | rfl | (simp [errW_none,errW_some] <;> rfl) | (simp [*,errW_none,errW_some] <;> rfl),by repeat (first | (with_reducible first | exact HB.out | apply below_alloc | apply pw_below_drewN | apply below_drew1) | exact HB.out)⟩

/-! ### sig_letter: function 62 -/
mutual
def sig_letter.j0 : Nat → Int → Bool → Bool → Option (Bool)
 | 0, _, _, _ => none
 | k + 1, x0, x1, x5 => if x5 = true then (some true) else (if x0 ≥ 97 then (sig_letter.j1 k x0 x1 (decide (x0 ≤ 122))) else (sig_letter.j1 k x0 x1 false))
def sig_letter.j1 : Nat → Int → Bool → Bool → Option (Bool)
 | 0, _, _, _ => none
 | k + 1, x0, x1, x5 => if x5 = true then (some true) else (if x0 = 95 then (some true) else (if x1 = true then (some false) else (if x0 ≥ 48 then (some (decide (x0 ≤ 57))) else (some false))))
end
def sig_letter.f (k : Nat) (a0 : Int) (a1 : Bool) : Option (Bool) := if a0 ≥ 65 then (sig_letter.j0 k a0 a1 (decide (a0 ≤ 90))) else (sig_letter.j0 k a0 a1 false)
theorem sig_letter.mono_l : ∀ k, (∀ y0 y1 y2, LeO (sig_letter.j0 k y0 y1 y2) (sig_letter.j0 (k + 1) y0 y1 y2)) ∧ (∀ y0 y1 y2, LeO (sig_letter.j1 k y0 y1 y2) (sig_letter.j1 (k + 1) y0 y1 y2))
 | 0 => ⟨fun _ _ _ r h => by simp [sig_letter.j0] at h, fun _ _ _ r h => by simp [sig_letter.j1] at h⟩
 | k + 1 => by
  obtain ⟨ih0, ih1⟩ := sig_letter.mono_l k
  refine ⟨?_, ?_⟩
  ·intro y0 y1 y2
   unfold sig_letter.j0
   repeat' first
   | (with_reducible exact ih0 _ _ _)
   | (with_reducible exact ih1 _ _ _)
   | (with_reducible exact LeO.refl _)
   | (with_reducible exact LeO.none _)
   | (with_reducible refine LeO.ite ?_ ?_)
   | (with_reducible refine LeO.bind ?_ (fun _ => ?_))
   | exact ih0 _ _ _
   | exact ih1 _ _ _
   | exact LeO.none _
   | refine LeO.ite ?_ ?_
   | refine LeO.bind ?_ (fun _ => ?_)
  ·intro y0 y1 y2
   unfold sig_letter.j1
   repeat' first
   | (with_reducible exact ih0 _ _ _)
   | (with_reducible exact ih1 _ _ _)
   | (with_reducible exact LeO.refl _)
   | (with_reducible exact LeO.none _)
   | (with_reducible refine LeO.ite ?_ ?_)
   | (with_reducible refine LeO.bind ?_ (fun _ => ?_))
   | exact ih0 _ _ _
   | exact ih1 _ _ _
   | exact LeO.none _
   | refine LeO.ite ?_ ?_
   | refine LeO.bind ?_ (fun _ => ?_)
theorem sig_letter.mono : ∀ a0 a1 k, LeO (sig_letter.f k a0 a1) (sig_letter.f (k + 1) a0 a1) := by
 intro a0 a1 k
 obtain ⟨ih0, ih1⟩ := sig_letter.mono_l k
 unfold sig_letter.f
 repeat' first
   | (with_reducible exact ih0 _ _ _)
   | (with_reducible exact ih1 _ _ _)
   | (with_reducible exact LeO.refl _)
   | (with_reducible exact LeO.none _)
   | (with_reducible refine LeO.ite ?_ ?_)
   | (with_reducible refine LeO.bind ?_ (fun _ => ?_))
   | exact ih0 _ _ _
   | exact ih1 _ _ _
   | exact LeO.none _
   | refine LeO.ite ?_ ?_
   | refine LeO.bind ?_ (fun _ => ?_)
set_option maxHeartbeats 8000000 in
set_option maxRecDepth 100000 in
theorem sig_letter.calls (k : Nat) (a0 : Int) (a1 : Bool) (r : Bool) (w : World) (h : sig_letter.f k a0 a1 = some r) :
  Calls Try.prog 62 #[.int .u8 a0,.bool a1] w fun e w' => e = .returned (.bool r) ∧ Drawn0 w w':=by
 have H : (if a0 ≥ 65 then (sig_letter.j0 k a0 a1 (decide (a0 ≤ 90))) else (sig_letter.j0 k a0 a1 false)) = some r:=h
 clear h
 have HC3:=Aside0.mk H
 clear H
 go_enter Try.func62,Try.ntmps62
 go_upto_region 1 with (fail)
 go_cut [5] (fun v5 wc => ∃ (kq : Nat) (x5_2 : Bool),v5 = .bool x5_2 ∧ Aside0 (sig_letter.j0 kq a0 a1 x5_2 = some r) ∧ Aside0 (kq ≤ k) ∧ Drawn0 w wc)
 case first =>
  have H:=HC3.out
  clear HC3
  by_cases c4 : a0 ≥ 65
  ·rw [if_pos c4] at H
   have c4b0 : decide (65 ≤ a0) = true:=decide_eq_true c4
   clear c4
   (first | rw [c4b0] | (simp only [i64_w,i32_w];rw [c4b0]) | skip)
   have H':=Aside0.mk H
   clear H
   go_wp2
   go_meet
   case rel => exact ⟨_,(decide (a0 ≤ 90)),(by first | rfl | (simp;done) | (simp [*];done)),H',⟨by first | omega | exact Nat.le_refl _⟩,by repeat (first | exact Drawn0.refl _ | apply Drawn0.step)⟩
  ·rw [if_neg c4] at H
   have c4b0 : decide (65 ≤ a0) = false:=decide_eq_false c4
   clear c4
   (first | rw [c4b0] | (simp only [i64_w,i32_w];rw [c4b0]) | skip)
   have H':=Aside0.mk H
   clear H
   go_wp2
   go_meet
   case rel => exact ⟨_,(false),(by first | rfl | (simp;done) | (simp [*];done)),H',⟨by first | omega | exact Nat.le_refl _⟩,by repeat (first | exact Drawn0.refl _ | apply Drawn0.step)⟩
 case rest =>
  clear HC3
  try clear p2
  try clear c4
  try clear c4b0
  obtain ⟨kq,x5_2,rfl,HA,HJ2,⟨mc2,rfl⟩⟩:=hcut
  cases kq with
  | zero => exact absurd HA.out (by simp [sig_letter.j0])
  | succ kj2 =>
   have H:=HA.out
   clear HA
   simp only [sig_letter.j0] at H
   by_cases c5 : x5_2 = true
   ·subst c5
    have H1 : (some true) = some r:=by rw [if_pos rfl] at H;exact H
    clear H
    have H:=H1
    clear H1
    obtain rfl:=Option.some.inj H
    go_wp2
    go_ret
    exact ⟨by first | rfl | (simp;done) | (simp [*];done),by repeat (first | exact Drawn0.refl _ | apply Drawn0.step)⟩
   ·replace c5:=Bool.eq_false_iff.mpr c5
    subst c5
    have H1 : (if a0 ≥ 97 then (sig_letter.j1 kj2 a0 a1 (decide (a0 ≤ 122))) else (sig_letter.j1 kj2 a0 a1 false)) = some r:=by rw [if_neg (show ¬ (false = true) by decide)] at H;exact H
    clear H
    have H:=H1
    clear H1
    have HC6:=Aside0.mk H
    clear H
    go_upto_region 2 with (fail)
    go_cut [5] (fun v5 wc => ∃ (kq : Nat) (x5_5 : Bool),v5 = .bool x5_5 ∧ Aside0 (sig_letter.j1 kq a0 a1 x5_5 = some r) ∧ Aside0 (kq ≤ kj2) ∧ Drawn0 w wc)
    case first =>
     have H:=HC6.out
     clear HC6
     by_cases c7 : a0 ≥ 97
     ·rw [if_pos c7] at H
      have c7b0 : decide (97 ≤ a0) = true:=decide_eq_true c7
      clear c7
      (first | rw [c7b0] | (simp only [i64_w,i32_w];rw [c7b0]) | skip)
      have H':=Aside0.mk H
      clear H
      go_wp2
      go_meet
      case rel => exact ⟨_,(decide (a0 ≤ 122)),(by first | rfl | (simp;done) | (simp [*];done)),H',⟨by have:=HJ2.out;first | omega | exact Nat.le_refl _⟩,by repeat (first | exact Drawn0.refl _ | apply Drawn0.step)⟩
     ·rw [if_neg c7] at H
      have c7b0 : decide (97 ≤ a0) = false:=decide_eq_false c7
      clear c7
      (first | rw [c7b0] | (simp only [i64_w,i32_w];rw [c7b0]) | skip)
      have H':=Aside0.mk H
      clear H
      go_wp2
      go_meet
      case rel => exact ⟨_,(false),(by first | rfl | (simp;done) | (simp [*];done)),H',⟨by have:=HJ2.out;first | omega | exact Nat.le_refl _⟩,by repeat (first | exact Drawn0.refl _ | apply Drawn0.step)⟩
    case rest =>
     clear HC6
     try clear c2
     try clear p2
     try clear c4
     try clear c4b0
     try clear c5
     try clear c6
     try clear c7
     try clear c7b0
     try clear p2
     obtain ⟨kq,x5_5,rfl,HA,HJ5,⟨mc5,rfl⟩⟩:=hcut
     cases kq with
     | zero => exact absurd HA.out (by simp [sig_letter.j1])
     | succ kj5 =>
      have H:=HA.out
      clear HA
      simp only [sig_letter.j1] at H
      by_cases c8 : x5_5 = true
      ·subst c8
       have H1 : (some true) = some r:=by rw [if_pos rfl] at H;exact H
       clear H
       have H:=H1
       clear H1
       obtain rfl:=Option.some.inj H
       go_wp2
       go_ret
       exact ⟨by first | rfl | (simp;done) | (simp [*];done),by repeat (first | exact Drawn0.refl _ | apply Drawn0.step)⟩
      ·replace c8:=Bool.eq_false_iff.mpr c8
       subst c8
       have H1 : (if a0 = 95 then (some true) else (if a1 = true then (some false) else (if a0 ≥ 48 then (some (decide (a0 ≤ 57))) else (some false)))) = some r:=by rw [if_neg (show ¬ (false = true) by decide)] at H;exact H
       clear H
       have H:=H1
       clear H1
       by_cases c9 : a0 = 95
       ·rw [if_pos c9] at H
        have c9b0 : (a0 == 95) = true:=beq_iff_eq.mpr c9
        have c9b1 : (a0 != 95) = false:=bne_eq_false_iff_eq.mpr c9
        clear c9
        obtain rfl:=Option.some.inj H
        go_wp2
        go_ret
        exact ⟨by first | rfl | (simp;done) | (simp [*];done),by repeat (first | exact Drawn0.refl _ | apply Drawn0.step)⟩
       ·rw [if_neg c9] at H
        have c9b0 : (a0 == 95) = false:=beq_eq_false_iff_ne.mpr c9
        have c9b1 : (a0 != 95) = true:=bne_iff_ne.mpr c9
        by_cases c10 : a1 = true
        ·subst c10
         have H1 : (some false) = some r:=by rw [if_pos rfl] at H;exact H
         clear H
         have H:=H1
         clear H1
         obtain rfl:=Option.some.inj H
         go_wp2
         go_ret
         exact ⟨by first | rfl | (simp;done) | (simp [*];done),by repeat (first | exact Drawn0.refl _ | apply Drawn0.step)⟩
        ·replace c10:=Bool.eq_false_iff.mpr c10
         subst c10
         have H1 : (if a0 ≥ 48 then (some (decide (a0 ≤ 57))) else (some false)) = some r:=by rw [if_neg (show ¬ (false = true) by decide)] at H;exact H
         clear H
         have H:=H1
         clear H1
         by_cases c11 : a0 ≥ 48
         ·rw [if_pos c11] at H
          have c11b0 : decide (48 ≤ a0) = true:=decide_eq_true c11
          clear c11
          obtain rfl:=Option.some.inj H
          go_wp2
          go_ret
          exact ⟨by first | rfl | (simp;done) | (simp [*];done),by repeat (first | exact Drawn0.refl _ | apply Drawn0.step)⟩
         ·rw [if_neg c11] at H
          have c11b0 : decide (48 ≤ a0) = false:=decide_eq_false c11
          clear c11
          obtain rfl:=Option.some.inj H
          go_wp2
          go_ret
          exact ⟨by first | rfl | (simp;done) | (simp [*];done),by repeat (first | exact Drawn0.refl _ | apply Drawn0.step)⟩

/-! ### sig_Name: function 40 -/
def sig_Name.l0 : Nat → ByteArray → Int → Int → Option (Bool)
 | 0, _, _, _ => none
 | k + 1, x0, x5, x6 => if x6 < x5 then (if 0 ≤ x6 then (if x6 < (x0.size : Int) then ((sig_letter.f k (bt x0 x6) (x6 == 0)).bind fun t109 => (if t109 = true then (sig_Name.l0 k x0 x5 (wrap64 (x6 + 1))) else (some false))) else (none)) else (none)) else (if (x0.size : Int) ≥ 1 then (some (decide ((x0.size : Int) ≤ 32))) else (some false))
def sig_Name.f (k : Nat) (a0 : ByteArray) : Option (Bool) := sig_Name.l0 k a0 (a0.size : Int) 0
theorem sig_Name.mono_l : ∀ k, (∀ y0 y1 y2, LeO (sig_Name.l0 k y0 y1 y2) (sig_Name.l0 (k + 1) y0 y1 y2))
 | 0 => fun _ _ _ r h => by simp [sig_Name.l0] at h
 | k + 1 => by
  have ih0 := sig_Name.mono_l k
  ·intro y0 y1 y2
   unfold sig_Name.l0
   repeat' first
   | (with_reducible exact ih0 _ _ _)
   | (with_reducible exact sig_letter.mono _ _ _)
   | (with_reducible exact LeO.refl _)
   | (with_reducible exact LeO.none _)
   | (with_reducible refine LeO.ite ?_ ?_)
   | (with_reducible refine LeO.bind ?_ (fun _ => ?_))
   | exact ih0 _ _ _
   | exact sig_letter.mono _ _ _
   | exact LeO.none _
   | refine LeO.ite ?_ ?_
   | refine LeO.bind ?_ (fun _ => ?_)
theorem sig_Name.mono : ∀ a0 k, LeO (sig_Name.f k a0) (sig_Name.f (k + 1) a0) := by
 intro a0 k
 have ih0 := sig_Name.mono_l k
 unfold sig_Name.f
 repeat' first
   | (with_reducible exact ih0 _ _ _)
   | (with_reducible exact sig_letter.mono _ _ _)
   | (with_reducible exact LeO.refl _)
   | (with_reducible exact LeO.none _)
   | (with_reducible refine LeO.ite ?_ ?_)
   | (with_reducible refine LeO.bind ?_ (fun _ => ?_))
   | exact ih0 _ _ _
   | exact sig_letter.mono _ _ _
   | exact LeO.none _
   | refine LeO.ite ?_ ?_
   | refine LeO.bind ?_ (fun _ => ?_)
set_option maxHeartbeats 8000000 in
set_option maxRecDepth 100000 in
theorem sig_Name.calls (k : Nat) (a0 : ByteArray) (r : Bool) (w : World) (h : sig_Name.f k a0 = some r) :
  Calls Try.prog 40 #[.string a0] w fun e w' => e = .returned (.bool r) ∧ Drawn0 w w':=by
 have H : (sig_Name.l0 k a0 (a0.size : Int) 0) = some r:=h
 clear h
 have H':=Aside0.mk H
 clear H
 go_enter Try.func40,Try.ntmps40
 go_wp2
 go_loopg [6] k (fun kq v6 w' => ∃ (x6_1 : Int),v6 = .int .i64 x6_1 ∧ Aside0 (sig_Name.l0 kq a0 (a0.size : Int) x6_1 = some r) ∧ Aside0 (kq ≤ k) ∧ Drawn0 w w')
 case atStart => exact ⟨(0),(by first | rfl | (simp;done) | (simp [*];done)),H',⟨Nat.le_refl _⟩,by repeat (first | exact Drawn0.refl _ | apply Drawn0.step)⟩
 case round =>
  clear H'
  obtain ⟨x6_1,rfl,HA,HK1,⟨m1,rfl⟩⟩:=hrel
  cases gk with
  | zero => exact absurd HA.out (by simp [sig_Name.l0])
  | succ k1 =>
   have H:=HA.out
   clear HA
   simp only [sig_Name.l0] at H
   by_cases c2 : x6_1 < (a0.size : Int)
   ·rw [if_pos c2] at H
    have c2b0 : decide (x6_1 < (a0.size : Int)) = true:=decide_eq_true c2
    clear c2
    by_cases c3 : 0 ≤ x6_1
    ·rw [if_pos c3] at H
     have c3b0 : decide (0 ≤ x6_1) = true:=decide_eq_true c3
     clear c3
     by_cases c4 : x6_1 < (a0.size : Int)
     ·rw [if_pos c4] at H
      have c4b0 : decide (x6_1 < (a0.size : Int)) = true:=decide_eq_true c4
      clear c4
      replace H:=Option.bind_eq_some_iff.mp H
      obtain ⟨t109,A60,H⟩:=H
      replace H : (if t109 = true then (sig_Name.l0 k1 a0 (a0.size : Int) (wrap64 (x6_1 + 1))) else (some false)) = some r:=H
      have A6:=Aside0.mk A60
      clear A60
      by_cases c7 : t109 = true
      ·subst c7
       have H1 : (sig_Name.l0 k1 a0 (a0.size : Int) (wrap64 (x6_1 + 1))) = some r:=by rw [if_pos rfl] at H;exact H
       clear H
       have H:=H1
       clear H1
       have H':=Aside0.mk H
       clear H
       have p5 : 0 ≤ (x6_1 : Int):=of_decide_eq_true (by first | (with_reducible assumption) | assumption)
       have q5 : x6_1 < (a0.size : Int):=of_decide_eq_true (by first | (with_reducible assumption) | assumption)
       have hx5:=bt_at a0 x6_1
       replace p5:=eq_true p5
       replace q5:=eq_true q5
       go_wp2_with (first | ((with_reducible refine gate_callee (f:=62) rfl ?_);refine goesL_ (some 14) rfl rfl Try.func62 (by kernel_rfl) rfl #[.int .u8 (bt a0 x6_1),.bool (x6_1 == 0)] rfl (by (try simp only [List.map_toArray,List.map_cons,List.map_nil]);first | done | rfl | (simp only [List.length_drop,List.length_take];rfl)) ?_;(with_reducible refine (sig_letter.calls k1 (bt a0 x6_1) (x6_1 == 0) true _ A6.out).mono ?_);rintro e w' ⟨rfl,⟨nd,rfl⟩⟩;refine ⟨_,rfl,?_⟩))
       go_roundg k1
       case measure => have:=HK1.out;omega
       case rel => exact ⟨(wrap64 (x6_1 + 1)),(by first | rfl | (simp;done) | (simp [*];done)),H',⟨by have:=HK1.out;omega⟩,by repeat (first | exact Drawn0.refl _ | apply Drawn0.step)⟩
      ·replace c7:=Bool.eq_false_iff.mpr c7
       subst c7
       have H1 : (some false) = some r:=by rw [if_neg (show ¬ (false = true) by decide)] at H;exact H
       clear H
       have H:=H1
       clear H1
       obtain rfl:=Option.some.inj H
       have p5 : 0 ≤ (x6_1 : Int):=of_decide_eq_true (by first | (with_reducible assumption) | assumption)
       have q5 : x6_1 < (a0.size : Int):=of_decide_eq_true (by first | (with_reducible assumption) | assumption)
       have hx5:=bt_at a0 x6_1
       replace p5:=eq_true p5
       replace q5:=eq_true q5
       go_wp2_with (first | ((with_reducible refine gate_callee (f:=62) rfl ?_);refine goesL_ (some 14) rfl rfl Try.func62 (by kernel_rfl) rfl #[.int .u8 (bt a0 x6_1),.bool (x6_1 == 0)] rfl (by (try simp only [List.map_toArray,List.map_cons,List.map_nil]);first | done | rfl | (simp only [List.length_drop,List.length_take];rfl)) ?_;(with_reducible refine (sig_letter.calls k1 (bt a0 x6_1) (x6_1 == 0) false _ A6.out).mono ?_);rintro e w' ⟨rfl,⟨nd,rfl⟩⟩;refine ⟨_,rfl,?_⟩))
       go_ret
       exact ⟨by first | rfl | (simp;done) | (simp [*];done),by repeat (first | exact Drawn0.refl _ | apply Drawn0.step)⟩
     ·rw [if_neg c4] at H
      exact absurd H (by simp)
    ·rw [if_neg c3] at H
     exact absurd H (by simp)
   ·rw [if_neg c2] at H
    have c2b0 : decide (x6_1 < (a0.size : Int)) = false:=decide_eq_false c2
    clear c2
    by_cases c8 : (a0.size : Int) ≥ 1
    ·rw [if_pos c8] at H
     have c8b0 : decide (1 ≤ (a0.size : Int)) = true:=decide_eq_true c8
     have c8b1 : decide (1 ≤ a0.size) = true:=decide_eq_true (by omega)
     clear c8
     obtain rfl:=Option.some.inj H
     go_wp2
     go_ret
     exact ⟨by first | rfl | (simp;done) | (simp [*];done),by repeat (first | exact Drawn0.refl _ | apply Drawn0.step)⟩
    ·rw [if_neg c8] at H
     have c8b0 : decide (1 ≤ (a0.size : Int)) = false:=decide_eq_false c8
     have c8b1 : decide (1 ≤ a0.size) = false:=decide_eq_false (by omega)
     clear c8
     obtain rfl:=Option.some.inj H
     go_wp2
     go_ret
     exact ⟨by first | rfl | (simp;done) | (simp [*];done),by repeat (first | exact Drawn0.refl _ | apply Drawn0.step)⟩

end Go.Proofs.Ytmmfakdncjeoeaa.PC
