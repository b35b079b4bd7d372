-- Contracts of Go functions, each with its plain Lean function: written by wip/tools/myprint.py of this work (the kit's print, with contracts proved by hand spliced in).
import Derived.Test.YtmmfakdncjeoeacDoorPEx0
import Derived.Test.YtmmfakdncjeoeacDoorPEx8
namespace Go.Proofs.YtmmfakdncjeoeacDoor.PE
open Go.RowKit Go.Proofs.YtmmfakdncjeoeacDoorW.PrintWords Go.Proofs.YtmmfakdncjeoeacDoorW.PrintLast Go.Proofs.YtmmfakdncjeoeacDoorW.PrintMore
attribute [local go_sem] max2_int min2_int max_two min_two max_three min_three max_four min_four   -- for this text's walks alone
set_option linter.unusedVariables false
set_option linter.unusedSimpArgs false

/-! ### tachographref09_Find: function 21 -/
def tachographref09_Find.l0 : Nat → List (S41) → ByteArray → Int → Option (Int)
 | 0, _, _, _ => none
 | k + 1, x0, x1, x5 => if x5 < (x0.length : Int) then (if 0 ≤ x5 then (if ((rd_T41 x0 x5).f0).toList = x1.toList then (some x5) else (tachographref09_Find.l0 k x0 x1 (wrap64 (x5 + 1)))) else (none)) else (some (-1))
def tachographref09_Find.f (k : Nat) (l0 : List (S41)) (a1 : ByteArray) : Option (Int) := tachographref09_Find.l0 k l0 a1 0
theorem tachographref09_Find.mono_l : ∀ k, (∀ y0 y1 y2, LeO (tachographref09_Find.l0 k y0 y1 y2) (tachographref09_Find.l0 (k + 1) y0 y1 y2))
 | 0 => fun _ _ _ r h => by simp [tachographref09_Find.l0] at h
 | k + 1 => by
  have ih0 := tachographref09_Find.mono_l k
  ·intro y0 y1 y2
   unfold tachographref09_Find.l0
   repeat' first
   | (with_reducible exact ih0 _ _ _)
   | (with_reducible exact LeO.refl _)
   | (with_reducible exact LeO.none _)
   | (with_reducible refine LeO.ite ?_ ?_)
   | (with_reducible refine LeO.bind ?_ (fun _ => ?_))
   | exact ih0 _ _ _
   | exact LeO.none _
   | refine LeO.ite ?_ ?_
   | refine LeO.bind ?_ (fun _ => ?_)
theorem tachographref09_Find.mono : ∀ a0 a1 k, LeO (tachographref09_Find.f k a0 a1) (tachographref09_Find.f (k + 1) a0 a1) := by
 intro a0 a1 k
 have ih0 := tachographref09_Find.mono_l k
 unfold tachographref09_Find.f
 repeat' first
   | (with_reducible exact ih0 _ _ _)
   | (with_reducible exact LeO.refl _)
   | (with_reducible exact LeO.none _)
   | (with_reducible refine LeO.ite ?_ ?_)
   | (with_reducible refine LeO.bind ?_ (fun _ => ?_))
   | exact ih0 _ _ _
   | exact LeO.none _
   | refine LeO.ite ?_ ?_
   | refine LeO.bind ?_ (fun _ => ?_)
set_option maxHeartbeats 8000000 in
set_option maxRecDepth 100000 in
theorem tachographref09_Find.calls (k : Nat) (A0 : Option Addr) (c0 : Nat) (l0 : List (S41)) (a1 : ByteArray) (r : Int) (w : World) (hr0 : Kd.C k41 w A0 l0.length l0) (hc0 : l0.length ≤ c0) (h : tachographref09_Find.f k l0 a1 = some r) :
  Calls Tryd.prog 21 #[.slice A0 l0.length c0,.string a1] w fun e w' => e = .returned (.int .i64 r) ∧ Drawn0 w w':=by
 have HR0:=Aside0.mk hr0
 have HC0:=Aside0.mk hc0
 clear hr0 hc0
 have H : (tachographref09_Find.l0 k l0 a1 0) = some r:=h
 clear h
 have H':=Aside0.mk H
 clear H
 go_enter Tryd.func21,Tryd.ntmps21
 go_wp2
 go_loopg [5] k (fun kq v5 w' => ∃ (x5_1 : Int),v5 = .int .i64 x5_1 ∧ Aside0 (tachographref09_Find.l0 kq l0 a1 x5_1 = some r) ∧ Aside0 (kq ≤ k) ∧ Drawn0 w w')
 case atStart => exact ⟨(0),(by first | rfl | (simp;done) | (simp [*];done)),H',⟨Nat.le_refl _⟩,by repeat (first | exact Drawn0.refl _ | apply Drawn0.step)⟩
 case round =>
  clear H'
  try clear c2
  try clear p2
  obtain ⟨x5_1,rfl,HA,HK1,⟨m1,rfl⟩⟩:=hrel
  cases gk with
  | zero => exact absurd HA.out (by simp [tachographref09_Find.l0])
  | succ k1 =>
   have H:=HA.out
   clear HA
   simp only [tachographref09_Find.l0] at H
   by_cases c3 : x5_1 < (l0.length : Int)
   ·rw [if_pos c3] at H
    have c3b0 : decide (x5_1 < (l0.length : Int)) = true:=decide_eq_true c3
    clear c3
    by_cases c4 : 0 ≤ x5_1
    ·rw [if_pos c4] at H
     have c4b0 : decide (0 ≤ x5_1) = true:=decide_eq_true c4
     clear c4
     by_cases c5 : ((rd_T41 l0 x5_1).f0).toList = a1.toList
     ·rw [if_pos c5] at H
      have c5b0 : (((rd_T41 l0 x5_1).f0).toList == a1.toList) = true:=beq_iff_eq.mpr c5
      have c5b1 : (((rd_T41 l0 x5_1).f0).toList != a1.toList) = false:=bne_eq_false_iff_eq.mpr c5
      clear c5
      obtain rfl:=Option.some.inj H
      have p191 : 0 ≤ (x5_1 : Int):=of_decide_eq_true (by first | (with_reducible assumption) | assumption)
      have q191 : x5_1 < (l0.length : Int):=of_decide_eq_true (by first | (with_reducible assumption) | assumption)
      obtain ⟨ad191,A191_1,c191_1,e191,hx191_0,hx191_1,hl191_1,hi191_1⟩:=at_T41 HR0.out x5_1 p191 q191
      cases e191
      have HR191_1:=Aside0.mk hi191_1
      have HC191_1:=Aside0.mk hl191_1
      clear hi191_1 hl191_1
      replace p191:=eq_true p191
      replace q191:=eq_true q191
      go_wp2
      go_ret
      exact ⟨by first | rfl | (simp;done) | (simp [*];done),by repeat (first | exact Drawn0.refl _ | apply Drawn0.step)⟩
     ·rw [if_neg c5] at H
      have c5b0 : (((rd_T41 l0 x5_1).f0).toList == a1.toList) = false:=beq_eq_false_iff_ne.mpr c5
      have c5b1 : (((rd_T41 l0 x5_1).f0).toList != a1.toList) = true:=bne_iff_ne.mpr c5
      have H':=Aside0.mk H
      clear H
      have p191 : 0 ≤ (x5_1 : Int):=of_decide_eq_true (by first | (with_reducible assumption) | assumption)
      have q191 : x5_1 < (l0.length : Int):=of_decide_eq_true (by first | (with_reducible assumption) | assumption)
      obtain ⟨ad191,A191_1,c191_1,e191,hx191_0,hx191_1,hl191_1,hi191_1⟩:=at_T41 HR0.out x5_1 p191 q191
      cases e191
      have HR191_1:=Aside0.mk hi191_1
      have HC191_1:=Aside0.mk hl191_1
      clear hi191_1 hl191_1
      replace p191:=eq_true p191
      replace q191:=eq_true q191
      go_wp2
      go_roundg k1
      case measure => have:=HK1.out;omega
      case rel => exact ⟨(wrap64 (x5_1 + 1)),(by first | rfl | (simp;done) | (simp [*];done)),H',⟨by have:=HK1.out;omega⟩,by repeat (first | exact Drawn0.refl _ | apply Drawn0.step)⟩
    ·rw [if_neg c4] at H
     exact absurd H (by simp)
   ·rw [if_neg c3] at H
    have c3b0 : decide (x5_1 < (l0.length : Int)) = false:=decide_eq_false c3
    clear c3
    obtain rfl:=Option.some.inj H
    go_wp2
    go_ret
    exact ⟨by first | rfl | (simp;done) | (simp [*];done),by repeat (first | exact Drawn0.refl _ | apply Drawn0.step)⟩

/-! ### tachographref10_Parse: function 8 -/
mutual
def tachographref10_Parse.l0 : Nat → ByteArray → Int → List (S41) → Int → Int → Int → Option ((List (S41)) × Int × Int × Int)
 | 0, _, _, _, _, _, _ => none
 | k + 1, x0, x4, x194000, x194001, x194002, x194003 => if (x0.size : Int) > 0 then (tachographref10_Parse.l1 k x0 x4 0 x194000 x194001 x194002 x194003) else (some (x194000, x194001, x194002, x194003))
def tachographref10_Parse.j2 : Nat → ByteArray → Int → Int → List (S41) → Int → Int → Int → Option ((List (S41)) × Int × Int × Int)
 | 0, _, _, _, _, _, _, _ => none
 | k + 1, x0, x4, x5, x194000, x194001, x194002, x194003 => if 0 ≤ x5 then (if x5 ≤ (x0.size : Int) then ((tachographref10_Pred.f k (x0.extract 0 (x5 : Int).toNat)).bind fun bt194 => (if bt194.2.2 = true then ((tachographref09_Find.f k x194000 bt194.1).bind fun t206 => (if t206 ≥ 0 then ((tachographref10_bad.f 9 x4 1).bind fun bt207 => (some (bt207.1, bt207.2.1, bt207.2.2.1, bt207.2.2.2))) else (if (bt194.2.1.length : Int) > 8 then (tachographref10_Parse.j3 k x0 x4 x5 true x194000 x194001 x194002 x194003 bt194.1 bt194.2.1) else (tachographref10_Parse.j3 k x0 x4 x5 (decide (x4 > 64)) x194000 x194001 x194002 x194003 bt194.1 bt194.2.1)))) else ((tachographref10_bad.f 4 x4 1).bind fun bt200 => (some (bt200.1, bt200.2.1, bt200.2.2.1, bt200.2.2.2))))) else (none)) else (none)
def tachographref10_Parse.j3 : Nat → ByteArray → Int → Int → Bool → List (S41) → Int → Int → Int → ByteArray → List Int → Option ((List (S41)) × Int × Int × Int)
 | 0, _, _, _, _, _, _, _, _, _, _ => none
 | k + 1, x0, x4, x5, x52, x194000, x194001, x194002, x194003, x200000, x200001 => if x52 = true then ((tachographref10_bad.f 6 x4 1).bind fun bt213 => (some (bt213.1, bt213.2.1, bt213.2.2.1, bt213.2.2.2))) else (if x5 = (x0.size : Int) then ((tachographref10_bad.f 4 x4 (wrap64 (x5 + 1))).bind fun bt219 => (some (bt219.1, bt219.2.1, bt219.2.2.1, bt219.2.2.2))) else (if x194000.length < 3518437208883 then (if 0 ≤ (wrap64 (x5 + 1)) then (if (wrap64 (x5 + 1)) ≤ (x0.size : Int) then (tachographref10_Parse.l0 k (x0.extract ((wrap64 (x5 + 1)) : Int).toNat x0.size) (wrap64 (x4 + 1)) (x194000 ++ [(⟨x200000, x200001⟩ : S41)]) x194001 x194002 x194003) else (none)) else (none)) else (none)))
def tachographref10_Parse.l1 : Nat → ByteArray → Int → Int → List (S41) → Int → Int → Int → Option ((List (S41)) × Int × Int × Int)
 | 0, _, _, _, _, _, _, _ => none
 | k + 1, x0, x4, x5, x194000, x194001, x194002, x194003 => if x5 < (x0.size : Int) then (if 0 ≤ x5 then (if (bt x0 x5) = 10 then (tachographref10_Parse.j2 k x0 x4 x5 x194000 x194001 x194002 x194003) else (tachographref10_Parse.l1 k x0 x4 (wrap64 (x5 + 1)) x194000 x194001 x194002 x194003)) else (none)) else (tachographref10_Parse.j2 k x0 x4 x5 x194000 x194001 x194002 x194003)
end
def tachographref10_Parse.f (k : Nat) (a0 : ByteArray) : Option ((List (S41)) × Int × Int × Int) := tachographref10_Parse.l0 k a0 1 ([] : List (S41)) 0 0 0
theorem tachographref10_Parse.mono_l : ∀ k, (∀ y0 y1 y2 y3 y4 y5, LeO (tachographref10_Parse.l0 k y0 y1 y2 y3 y4 y5) (tachographref10_Parse.l0 (k + 1) y0 y1 y2 y3 y4 y5)) ∧ (∀ y0 y1 y2 y3 y4 y5 y6, LeO (tachographref10_Parse.j2 k y0 y1 y2 y3 y4 y5 y6) (tachographref10_Parse.j2 (k + 1) y0 y1 y2 y3 y4 y5 y6)) ∧ (∀ y0 y1 y2 y3 y4 y5 y6 y7 y8 y9, LeO (tachographref10_Parse.j3 k y0 y1 y2 y3 y4 y5 y6 y7 y8 y9) (tachographref10_Parse.j3 (k + 1) y0 y1 y2 y3 y4 y5 y6 y7 y8 y9)) ∧ (∀ y0 y1 y2 y3 y4 y5 y6, LeO (tachographref10_Parse.l1 k y0 y1 y2 y3 y4 y5 y6) (tachographref10_Parse.l1 (k + 1) y0 y1 y2 y3 y4 y5 y6))
 | 0 => ⟨fun _ _ _ _ _ _ r h => by simp [tachographref10_Parse.l0] at h, fun _ _ _ _ _ _ _ r h => by simp [tachographref10_Parse.j2] at h, fun _ _ _ _ _ _ _ _ _ _ r h => by simp [tachographref10_Parse.j3] at h, fun _ _ _ _ _ _ _ r h => by simp [tachographref10_Parse.l1] at h⟩
 | k + 1 => by
  obtain ⟨ih0, ih1, ih2, ih3⟩ := tachographref10_Parse.mono_l k
  refine ⟨?_, ?_, ?_, ?_⟩
  ·intro y0 y1 y2 y3 y4 y5
   unfold tachographref10_Parse.l0
   repeat' first
   | (with_reducible exact ih0 _ _ _ _ _ _)
   | (with_reducible exact ih1 _ _ _ _ _ _ _)
   | (with_reducible exact ih2 _ _ _ _ _ _ _ _ _ _)
   | (with_reducible exact ih3 _ _ _ _ _ _ _)
   | (with_reducible exact tachographref09_Find.mono _ _ _)
   | (with_reducible exact tachographref10_Pred.mono _ _)
   | (with_reducible exact LeO.refl _)
   | (with_reducible exact LeO.none _)
   | (with_reducible refine LeO.ite ?_ ?_)
   | (with_reducible refine LeO.bind ?_ (fun _ => ?_))
   | exact ih0 _ _ _ _ _ _
   | exact ih1 _ _ _ _ _ _ _
   | exact ih2 _ _ _ _ _ _ _ _ _ _
   | exact ih3 _ _ _ _ _ _ _
   | exact tachographref09_Find.mono _ _ _
   | exact tachographref10_Pred.mono _ _
   | exact LeO.none _
   | refine LeO.ite ?_ ?_
   | refine LeO.bind ?_ (fun _ => ?_)
  ·intro y0 y1 y2 y3 y4 y5 y6
   unfold tachographref10_Parse.j2
   repeat' first
   | (with_reducible exact ih0 _ _ _ _ _ _)
   | (with_reducible exact ih1 _ _ _ _ _ _ _)
   | (with_reducible exact ih2 _ _ _ _ _ _ _ _ _ _)
   | (with_reducible exact ih3 _ _ _ _ _ _ _)
   | (with_reducible exact tachographref09_Find.mono _ _ _)
   | (with_reducible exact tachographref10_Pred.mono _ _)
   | (with_reducible exact LeO.refl _)
   | (with_reducible exact LeO.none _)
   | (with_reducible refine LeO.ite ?_ ?_)
   | (with_reducible refine LeO.bind ?_ (fun _ => ?_))
   | exact ih0 _ _ _ _ _ _
   | exact ih1 _ _ _ _ _ _ _
   | exact ih2 _ _ _ _ _ _ _ _ _ _
   | exact ih3 _ _ _ _ _ _ _
   | exact tachographref09_Find.mono _ _ _
   | exact tachographref10_Pred.mono _ _
   | exact LeO.none _
   | refine LeO.ite ?_ ?_
   | refine LeO.bind ?_ (fun _ => ?_)
  ·intro y0 y1 y2 y3 y4 y5 y6 y7 y8 y9
   unfold tachographref10_Parse.j3
   repeat' first
   | (with_reducible exact ih0 _ _ _ _ _ _)
   | (with_reducible exact ih1 _ _ _ _ _ _ _)
   | (with_reducible exact ih2 _ _ _ _ _ _ _ _ _ _)
   | (with_reducible exact ih3 _ _ _ _ _ _ _)
   | (with_reducible exact tachographref09_Find.mono _ _ _)
   | (with_reducible exact tachographref10_Pred.mono _ _)
   | (with_reducible exact LeO.refl _)
   | (with_reducible exact LeO.none _)
   | (with_reducible refine LeO.ite ?_ ?_)
   | (with_reducible refine LeO.bind ?_ (fun _ => ?_))
   | exact ih0 _ _ _ _ _ _
   | exact ih1 _ _ _ _ _ _ _
   | exact ih2 _ _ _ _ _ _ _ _ _ _
   | exact ih3 _ _ _ _ _ _ _
   | exact tachographref09_Find.mono _ _ _
   | exact tachographref10_Pred.mono _ _
   | exact LeO.none _
   | refine LeO.ite ?_ ?_
   | refine LeO.bind ?_ (fun _ => ?_)
  ·intro y0 y1 y2 y3 y4 y5 y6
   unfold tachographref10_Parse.l1
   repeat' first
   | (with_reducible exact ih0 _ _ _ _ _ _)
   | (with_reducible exact ih1 _ _ _ _ _ _ _)
   | (with_reducible exact ih2 _ _ _ _ _ _ _ _ _ _)
   | (with_reducible exact ih3 _ _ _ _ _ _ _)
   | (with_reducible exact tachographref09_Find.mono _ _ _)
   | (with_reducible exact tachographref10_Pred.mono _ _)
   | (with_reducible exact LeO.refl _)
   | (with_reducible exact LeO.none _)
   | (with_reducible refine LeO.ite ?_ ?_)
   | (with_reducible refine LeO.bind ?_ (fun _ => ?_))
   | exact ih0 _ _ _ _ _ _
   | exact ih1 _ _ _ _ _ _ _
   | exact ih2 _ _ _ _ _ _ _ _ _ _
   | exact ih3 _ _ _ _ _ _ _
   | exact tachographref09_Find.mono _ _ _
   | exact tachographref10_Pred.mono _ _
   | exact LeO.none _
   | refine LeO.ite ?_ ?_
   | refine LeO.bind ?_ (fun _ => ?_)
theorem tachographref10_Parse.mono : ∀ a0 k, LeO (tachographref10_Parse.f k a0) (tachographref10_Parse.f (k + 1) a0) := by
 intro a0 k
 obtain ⟨ih0, ih1, ih2, ih3⟩ := tachographref10_Parse.mono_l k
 unfold tachographref10_Parse.f
 repeat' first
   | (with_reducible exact ih0 _ _ _ _ _ _)
   | (with_reducible exact ih1 _ _ _ _ _ _ _)
   | (with_reducible exact ih2 _ _ _ _ _ _ _ _ _ _)
   | (with_reducible exact ih3 _ _ _ _ _ _ _)
   | (with_reducible exact tachographref09_Find.mono _ _ _)
   | (with_reducible exact tachographref10_Pred.mono _ _)
   | (with_reducible exact LeO.refl _)
   | (with_reducible exact LeO.none _)
   | (with_reducible refine LeO.ite ?_ ?_)
   | (with_reducible refine LeO.bind ?_ (fun _ => ?_))
   | exact ih0 _ _ _ _ _ _
   | exact ih1 _ _ _ _ _ _ _
   | exact ih2 _ _ _ _ _ _ _ _ _ _
   | exact ih3 _ _ _ _ _ _ _
   | exact tachographref09_Find.mono _ _ _
   | exact tachographref10_Pred.mono _ _
   | exact LeO.none _
   | refine LeO.ite ?_ ?_
   | refine LeO.bind ?_ (fun _ => ?_)
set_option maxHeartbeats 8000000 in
set_option maxRecDepth 100000 in
theorem tachographref10_Parse.calls (k : Nat) (a0 : ByteArray) (r1 : List (S41)) (r2 : Int) (r3 : Int) (r4 : Int) (w : World) (h : tachographref10_Parse.f k a0 = some (r1,r2,r3,r4)) :
  Calls Tryd.prog 8 #[.string a0] w fun e w' => ∃ v0_ : Value,e = .returned (.agg #[v0_,.int .i64 r2,.int .i64 r3,.int .i64 r4]) ∧ Kd.S k41 41 w' w.heap.size (fun _ => True) v0_ r1 ∧ Below w.heap.size w w':=by
 have hu31:=Tryd.underlying31
 have hu41:=Tryd.underlying41
 have HB:=Aside0.mk (Below.refl w.heap.size w)
 have H : (tachographref10_Parse.l0 k a0 1 ([] : List (S41)) 0 0 0) = some (r1,r2,r3,r4):=h
 clear h
 have H':=Aside0.mk H
 clear H
 go_enter Tryd.func8,Tryd.ntmps8
 go_wp2_with (first | ((with_reducible refine gate_dst (N:=2) rfl ?_);refine box_event ?hg (N:=2) ?hd (cs:=#[.slice none 0 0,.int .i64 0,.int .i64 0,.int .i64 0]) (t:=31) ?hr ?_;(case hd => rfl);(case hg => rfl);(case hr => first | (go_simp;done) | (go_simp;rfl));intro gb192 hg w2 hbox hb;have n0_:=Aside0.mk (below_step (by repeat (first | (with_reducible first | exact HB.out | apply below_alloc | apply pw_below_drewN | apply below_drew1) | exact HB.out)) hb);have n1_:=Aside0.mk (hbox);have n2_:=Aside0.mk ((by rw [hg];exact (below_size (by repeat (first | (with_reducible first | exact HB.out | apply below_alloc | apply pw_below_drewN | apply below_drew1) | exact HB.out))) : w.heap.size ≤ gb192));have n3_:=Aside0.mk ((by rw [hg];exact (below_size (by repeat (first | (with_reducible first | exact HB.out | apply below_alloc | apply pw_below_drewN | apply below_drew1) | exact HB.out))) : w.heap.size ≤ gb192));clear HB;have HB:=n0_;have BK192:=n1_;have GW192:=n2_;have GE192:=n3_;clear n0_ n1_ n2_ n3_;clear hb hbox hg) | ((with_reducible refine gate_dst (N:=3) rfl ?_);refine box_event ?hg (N:=3) ?hd (cs:=#[.slice none 0 0,.int .i64 0,.int .i64 0,.int .i64 0]) (t:=31) ?hr ?_;(case hd => rfl);(case hg => rfl);(case hr => first | (go_simp;done) | (go_simp;rfl));intro gb193 hg w3 hbox hb;have n0_:=Aside0.mk (blk_below (g:=gb192) (o:=.cells #[.slice none 0 0,.int .i64 0,.int .i64 0,.int .i64 0] 31 (0,0)) (by (with_reducible repeat (first | refine blk_drewN ?_ _ | refine blk_drew ?_ | refine blk_alloc ?_ _));exact BK192.out) hb);have n1_:=Aside0.mk (below_step (by repeat (first | (with_reducible first | exact HB.out | apply below_alloc | apply pw_below_drewN | apply below_drew1 | refine below_set ?_ GE192.out) | exact HB.out)) hb);have n2_:=Aside0.mk (hbox);have n3_:=Aside0.mk ((by rw [hg];exact (below_size (by repeat (first | (with_reducible first | exact HB.out | apply below_alloc | apply pw_below_drewN | apply below_drew1 | refine below_set ?_ GE192.out) | exact HB.out))) : w.heap.size ≤ gb193));have n4_:=Aside0.mk ((by rw [hg];exact (below_size (by repeat (first | (with_reducible first | exact HB.out | apply below_alloc | apply pw_below_drewN | apply below_drew1 | refine below_set ?_ GE192.out) | exact HB.out))) : w.heap.size ≤ gb193));have n5_:=Aside0.mk ((by rw [hg];exact Nat.ne_of_lt (blk_lt (g:=gb192) (o:=.cells #[.slice none 0 0,.int .i64 0,.int .i64 0,.int .i64 0] 31 (0,0)) (by (with_reducible repeat (first | refine blk_drewN ?_ _ | refine blk_drew ?_ | refine blk_alloc ?_ _));exact BK192.out)) : gb192 ≠ gb193));have n6_:=Aside0.mk ((by rw [hg];exact Nat.ne_of_gt (blk_lt (g:=gb192) (o:=.cells #[.slice none 0 0,.int .i64 0,.int .i64 0,.int .i64 0] 31 (0,0)) (by (with_reducible repeat (first | refine blk_drewN ?_ _ | refine blk_drew ?_ | refine blk_alloc ?_ _));exact BK192.out)) : gb193 ≠ gb192));clear BK192;clear HB;have BK192:=n0_;have HB:=n1_;have BK193:=n2_;have GW193:=n3_;have GE193:=n4_;have NB192_193:=n5_;have NB193_192:=n6_;clear n0_ n1_ n2_ n3_ n4_ n5_ n6_;clear hb hbox hg;have hnb4:=NB193_192.out;have hnc4:=NB192_193.out;have hcz5_0 : w3.cell? ⟨gb193,0,none⟩ = some (.slice none 0 0):=(blk_cell BK193.out 0).trans rfl;have hcz5_1 : w3.cell? ⟨gb193,1,none⟩ = some (.int .i64 0):=(blk_cell BK193.out 1).trans rfl;have hcz5_2 : w3.cell? ⟨gb193,2,none⟩ = some (.int .i64 0):=(blk_cell BK193.out 2).trans rfl;have hcz5_3 : w3.cell? ⟨gb193,3,none⟩ = some (.int .i64 0):=(blk_cell BK193.out 3).trans rfl;have hfz5_0:=blk_frozen BK193.out 0;have hfz5_1:=blk_frozen BK193.out 1;have hfz5_2:=blk_frozen BK193.out 2;have hfz5_3:=blk_frozen BK193.out 3))
 go_loopg [0,4] k (fun kq v0 v4 w' => ∃ (x0_1 : ByteArray) (x4_1 : Int) (x193001_1 : Int) (x193002_1 : Int) (x193003_1 : Int) (x194000_1 : List (S41)) (u194000 : Value),v0 = .string x0_1 ∧ v4 = .int .i64 x4_1 ∧ Aside0 (tachographref10_Parse.l0 kq x0_1 x4_1 x194000_1 0 0 0 = some (r1,r2,r3,r4)) ∧ Aside0 (kq ≤ k) ∧ Aside0 (Kd.S k41 41 w' w.heap.size (fun _ => True) u194000 x194000_1) ∧ Aside0 (w'.heap[gb192]? = some (.cells #[(.slice none 0 0),.int .i64 x193001_1,.int .i64 x193002_1,.int .i64 x193003_1] 31 (0,0))) ∧ Aside0 (w'.heap[gb193]? = some (.cells #[u194000,.int .i64 0,.int .i64 0,.int .i64 0] 31 (0,0))) ∧ Aside0 (Below w.heap.size w w'))
 case atStart => exact ⟨(a0),(1),(0),(0),(0),(([] : List (S41))),(.slice none 0 0),(by first | rfl | (simp;done) | (simp [*];done)),(by first | rfl | (simp;done) | (simp [*];done)),H',⟨Nat.le_refl _⟩,⟨by first | exact Kd.S_nil _ _ _ _ _ | exact Kd.N_nil _ _ _ _ _ | exact Kd.V_nil _ _ _ _ _ | exact Kd.Q_nil _ _ _ _ _ | exact Kd.R_nil _ _ _ _ _⟩,⟨by (with_reducible repeat (first | refine blk_drewN ?_ _ | refine blk_drew ?_ | refine blk_alloc ?_ _));refine blk_far ?_ NB192_193.out _;(with_reducible repeat (first | refine blk_drewN ?_ _ | refine blk_drew ?_ | refine blk_alloc ?_ _));refine blk_far ?_ NB192_193.out _;(with_reducible repeat (first | refine blk_drewN ?_ _ | refine blk_drew ?_ | refine blk_alloc ?_ _));refine blk_far ?_ NB192_193.out _;(with_reducible repeat (first | refine blk_drewN ?_ _ | refine blk_drew ?_ | refine blk_alloc ?_ _));refine blk_far ?_ NB192_193.out _;(with_reducible repeat (first | refine blk_drewN ?_ _ | refine blk_drew ?_ | refine blk_alloc ?_ _));exact BK192.out⟩,⟨by (with_reducible repeat (first | refine blk_drewN ?_ _ | refine blk_drew ?_ | refine blk_alloc ?_ _));refine blk_put (cs:=#[.slice none 0 0,.int .i64 0,.int .i64 0,.int .i64 0]) ?_ 3 _ rfl;(with_reducible repeat (first | refine blk_drewN ?_ _ | refine blk_drew ?_ | refine blk_alloc ?_ _));refine blk_put (cs:=#[.slice none 0 0,.int .i64 0,.int .i64 0,.int .i64 0]) ?_ 2 _ rfl;(with_reducible repeat (first | refine blk_drewN ?_ _ | refine blk_drew ?_ | refine blk_alloc ?_ _));refine blk_put (cs:=#[.slice none 0 0,.int .i64 0,.int .i64 0,.int .i64 0]) ?_ 1 _ rfl;(with_reducible repeat (first | refine blk_drewN ?_ _ | refine blk_drew ?_ | refine blk_alloc ?_ _));refine blk_put (cs:=#[.slice none 0 0,.int .i64 0,.int .i64 0,.int .i64 0]) ?_ 0 _ rfl;(with_reducible repeat (first | refine blk_drewN ?_ _ | refine blk_drew ?_ | refine blk_alloc ?_ _));exact BK193.out⟩,⟨by repeat (first | (with_reducible first | exact HB.out | apply below_alloc | apply pw_below_drewN | apply below_drew1 | refine below_set ?_ GE192.out | refine below_set ?_ GE193.out) | exact HB.out)⟩⟩
 case round =>
  clear H'
  try clear p2
  try clear c4
  try clear hcz5_0
  try clear hcz5_1
  try clear hcz5_2
  try clear hcz5_3
  try clear hfz5_0
  try clear hfz5_1
  try clear hfz5_2
  try clear hfz5_3
  obtain ⟨x0_1,x4_1,x193001_1,x193002_1,x193003_1,x194000_1,u194000,rfl,rfl,HA,HK1,HO_194000,BK192,BK193,HB⟩:=hrel
  cases gk with
  | zero => exact absurd HA.out (by simp [tachographref10_Parse.l0])
  | succ k1 =>
   have H:=HA.out
   clear HA
   simp only [tachographref10_Parse.l0] at H
   by_cases c6 : (x0_1.size : Int) > 0
   ·rw [if_pos c6] at H
    have c6b0 : decide (0 < (x0_1.size : Int)) = true:=decide_eq_true c6
    have c6b1 : decide (0 < x0_1.size) = true:=decide_eq_true (by omega)
    clear c6
    have HC7:=Aside0.mk H
    clear H
    go_upto_block 2 with (fail)
    go_cut [5] (fun v5 wc => ∃ (kq : Nat) (x5_6 : Int),v5 = .int .i64 x5_6 ∧ Aside0 (tachographref10_Parse.j2 kq x0_1 x4_1 x5_6 x194000_1 0 0 0 = some (r1,r2,r3,r4)) ∧ Aside0 (kq ≤ k1) ∧ Aside0 (Kd.S k41 41 wc w.heap.size (fun _ => True) u194000 x194000_1) ∧ Aside0 (wc.heap[gb192]? = some (.cells #[(.slice none 0 0),.int .i64 x193001_1,.int .i64 x193002_1,.int .i64 x193003_1] 31 (0,0))) ∧ Aside0 (wc.heap[gb193]? = some (.cells #[u194000,.int .i64 0,.int .i64 0,.int .i64 0] 31 (0,0))) ∧ Aside0 (Below w.heap.size w wc))
    case first =>
     have H:=HC7.out
     clear HC7
     have H':=Aside0.mk H
     clear H
     go_wp2
     go_loopg [5] k1 (fun kq v5 w' => ∃ (x5_2 : Int),v5 = .int .i64 x5_2 ∧ Aside0 (tachographref10_Parse.l1 kq x0_1 x4_1 x5_2 x194000_1 0 0 0 = some (r1,r2,r3,r4)) ∧ Aside0 (kq ≤ k1) ∧ Aside0 (Kd.S k41 41 w' w.heap.size (fun _ => True) u194000 x194000_1) ∧ Aside0 (w'.heap[gb192]? = some (.cells #[(.slice none 0 0),.int .i64 x193001_1,.int .i64 x193002_1,.int .i64 x193003_1] 31 (0,0))) ∧ Aside0 (w'.heap[gb193]? = some (.cells #[u194000,.int .i64 0,.int .i64 0,.int .i64 0] 31 (0,0))) ∧ Aside0 (Below w.heap.size w w'))
     case atStart => exact ⟨(0),(by first | rfl | (simp;done) | (simp [*];done)),H',⟨Nat.le_refl _⟩,⟨by (with_reducible repeat (first | apply Kd.S_alloc | apply Kd.S_drewN | apply Kd.S_drew));exact HO_194000.out⟩,⟨by (with_reducible repeat (first | refine blk_drewN ?_ _ | refine blk_drew ?_ | refine blk_alloc ?_ _));exact BK192.out⟩,⟨by (with_reducible repeat (first | refine blk_drewN ?_ _ | refine blk_drew ?_ | refine blk_alloc ?_ _));exact BK193.out⟩,⟨by repeat (first | (with_reducible first | exact HB.out | apply below_alloc | apply pw_below_drewN | apply below_drew1 | refine below_set ?_ GE192.out | refine below_set ?_ GE193.out) | exact HB.out)⟩⟩
     case round =>
      clear H'
      try clear p2
      try clear c4
      try clear c6
      try clear c6b0
      try clear c6b1
      try clear hcz5_0
      try clear hcz5_1
      try clear hcz5_2
      try clear hcz5_3
      try clear hfz5_0
      try clear hfz5_1
      try clear hfz5_2
      try clear hfz5_3
      try clear p2
      obtain ⟨x5_2,rfl,HA,HK2,HO_194000,BK192,BK193,HB⟩:=hrel
      cases gk with
      | zero => exact absurd HA.out (by simp [tachographref10_Parse.l1])
      | succ k2 =>
       have H:=HA.out
       clear HA
       simp only [tachographref10_Parse.l1] at H
       by_cases c8 : x5_2 < (x0_1.size : Int)
       ·rw [if_pos c8] at H
        have c8b0 : decide (x5_2 < (x0_1.size : Int)) = true:=decide_eq_true c8
        clear c8
        (first | rw [c8b0] | (simp only [i64_w,i32_w];rw [c8b0]) | skip)
        by_cases c9 : 0 ≤ x5_2
        ·rw [if_pos c9] at H
         have c9b0 : decide (0 ≤ x5_2) = true:=decide_eq_true c9
         clear c9
         by_cases c11 : (bt x0_1 x5_2) = 10
         ·rw [if_pos c11] at H
          have c11b0 : ((bt x0_1 x5_2) == 10) = true:=beq_iff_eq.mpr c11
          have c11b1 : ((bt x0_1 x5_2) != 10) = false:=bne_eq_false_iff_eq.mpr c11
          clear c11
          have H':=Aside0.mk H
          clear H
          have p10 : 0 ≤ (x5_2 : Int):=of_decide_eq_true (by first | (with_reducible assumption) | assumption)
          have q10 : x5_2 < (x0_1.size : Int):=of_decide_eq_true (by first | (with_reducible assumption) | assumption)
          have hx10:=bt_at x0_1 x5_2
          replace p10:=eq_true p10
          replace q10:=eq_true q10
          go_wp2
          go_meet
          case rel => exact ⟨_,(x5_2),(by first | rfl | (simp;done) | (simp [*];done)),H',⟨by have:=HK1.out;have:=HK2.out;first | omega | exact Nat.le_refl _⟩,⟨by (with_reducible repeat (first | apply Kd.S_alloc | apply Kd.S_drewN | apply Kd.S_drew));exact HO_194000.out⟩,⟨by (with_reducible repeat (first | refine blk_drewN ?_ _ | refine blk_drew ?_ | refine blk_alloc ?_ _));exact BK192.out⟩,⟨by (with_reducible repeat (first | refine blk_drewN ?_ _ | refine blk_drew ?_ | refine blk_alloc ?_ _));exact BK193.out⟩,⟨by repeat (first | (with_reducible first | exact HB.out | apply below_alloc | apply pw_below_drewN | apply below_drew1 | refine below_set ?_ GE192.out | refine below_set ?_ GE193.out) | exact HB.out)⟩⟩
         ·rw [if_neg c11] at H
          have c11b0 : ((bt x0_1 x5_2) == 10) = false:=beq_eq_false_iff_ne.mpr c11
          have c11b1 : ((bt x0_1 x5_2) != 10) = true:=bne_iff_ne.mpr c11
          have H':=Aside0.mk H
          clear H
          have p10 : 0 ≤ (x5_2 : Int):=of_decide_eq_true (by first | (with_reducible assumption) | assumption)
          have q10 : x5_2 < (x0_1.size : Int):=of_decide_eq_true (by first | (with_reducible assumption) | assumption)
          have hx10:=bt_at x0_1 x5_2
          replace p10:=eq_true p10
          replace q10:=eq_true q10
          go_wp2
          go_roundg k2
          case measure => have:=HK1.out;have:=HK2.out;omega
          case rel => exact ⟨(wrap64 (x5_2 + 1)),(by first | rfl | (simp;done) | (simp [*];done)),H',⟨by have:=HK1.out;have:=HK2.out;omega⟩,⟨by (with_reducible repeat (first | apply Kd.S_alloc | apply Kd.S_drewN | apply Kd.S_drew));exact HO_194000.out⟩,⟨by (with_reducible repeat (first | refine blk_drewN ?_ _ | refine blk_drew ?_ | refine blk_alloc ?_ _));exact BK192.out⟩,⟨by (with_reducible repeat (first | refine blk_drewN ?_ _ | refine blk_drew ?_ | refine blk_alloc ?_ _));exact BK193.out⟩,⟨by repeat (first | (with_reducible first | exact HB.out | apply below_alloc | apply pw_below_drewN | apply below_drew1 | refine below_set ?_ GE192.out | refine below_set ?_ GE193.out) | exact HB.out)⟩⟩
        ·rw [if_neg c9] at H
         exact absurd H (by simp)
       ·rw [if_neg c8] at H
        have c8b0 : decide (x5_2 < (x0_1.size : Int)) = false:=decide_eq_false c8
        clear c8
        (first | rw [c8b0] | (simp only [i64_w,i32_w];rw [c8b0]) | skip)
        have H':=Aside0.mk H
        clear H
        go_wp2
        go_meet
        case rel => exact ⟨_,(x5_2),(by first | rfl | (simp;done) | (simp [*];done)),H',⟨by have:=HK1.out;have:=HK2.out;first | omega | exact Nat.le_refl _⟩,⟨by (with_reducible repeat (first | apply Kd.S_alloc | apply Kd.S_drewN | apply Kd.S_drew));exact HO_194000.out⟩,⟨by (with_reducible repeat (first | refine blk_drewN ?_ _ | refine blk_drew ?_ | refine blk_alloc ?_ _));exact BK192.out⟩,⟨by (with_reducible repeat (first | refine blk_drewN ?_ _ | refine blk_drew ?_ | refine blk_alloc ?_ _));exact BK193.out⟩,⟨by repeat (first | (with_reducible first | exact HB.out | apply below_alloc | apply pw_below_drewN | apply below_drew1 | refine below_set ?_ GE192.out | refine below_set ?_ GE193.out) | exact HB.out)⟩⟩
    case rest =>
     clear HC7
     try clear c1
     try clear p1
     try clear q1
     try clear hx1
     try clear p2
     try clear c4
     try clear c6
     try clear c6b0
     try clear c6b1
     try clear p6
     try clear c8
     try clear c8b0
     try clear c9
     try clear c9b0
     try clear p10
     try clear q10
     try clear hx10
     try clear c11
     try clear c11b0
     try clear c11b1
     try clear hcz5_0
     try clear hcz5_1
     try clear hcz5_2
     try clear hcz5_3
     try clear hfz5_0
     try clear hfz5_1
     try clear hfz5_2
     try clear hfz5_3
     try clear p10
     try clear p2
     try clear q10
     obtain ⟨kq,x5_6,rfl,HA,HJ6,HO_194000,BK192,BK193,HB⟩:=hcut
     cases kq with
     | zero => exact absurd HA.out (by simp [tachographref10_Parse.j2])
     | succ kj6 =>
      have H:=HA.out
      clear HA
      simp only [tachographref10_Parse.j2] at H
      by_cases c12 : 0 ≤ x5_6
      ·rw [if_pos c12] at H
       have c12b0:=eq_true c12
       have c12b1 : decide (0 ≤ x5_6) = true:=decide_eq_true c12
       clear c12
       by_cases c13 : x5_6 ≤ (x0_1.size : Int)
       ·rw [if_pos c13] at H
        have c13b0:=eq_true c13
        have c13b1 : decide (x5_6 ≤ (x0_1.size : Int)) = true:=decide_eq_true c13
        clear c13
        replace H:=Option.bind_eq_some_iff.mp H
        obtain ⟨⟨t194,t195,t198⟩,A140,H⟩:=H
        replace H : (if t198 = true then ((tachographref09_Find.f kj6 x194000_1 t194).bind fun t206 => (if t206 ≥ 0 then ((tachographref10_bad.f 9 x4_1 1).bind fun bt207 => (some (bt207.1,bt207.2.1,bt207.2.2.1,bt207.2.2.2))) else (if (t195.length : Int) > 8 then (tachographref10_Parse.j3 kj6 x0_1 x4_1 x5_6 true x194000_1 0 0 0 t194 t195) else (tachographref10_Parse.j3 kj6 x0_1 x4_1 x5_6 (decide (x4_1 > 64)) x194000_1 0 0 0 t194 t195)))) else ((tachographref10_bad.f 4 x4_1 1).bind fun bt200 => (some (bt200.1,bt200.2.1,bt200.2.2.1,bt200.2.2.2)))) = some (r1,r2,r3,r4):=H
        have A14:=Aside0.mk A140
        clear A140
        by_cases c15 : t198 = true
        ·subst c15
         have H1 : ((tachographref09_Find.f kj6 x194000_1 t194).bind fun t206 => (if t206 ≥ 0 then ((tachographref10_bad.f 9 x4_1 1).bind fun bt207 => (some (bt207.1,bt207.2.1,bt207.2.2.1,bt207.2.2.2))) else (if (t195.length : Int) > 8 then (tachographref10_Parse.j3 kj6 x0_1 x4_1 x5_6 true x194000_1 0 0 0 t194 t195) else (tachographref10_Parse.j3 kj6 x0_1 x4_1 x5_6 (decide (x4_1 > 64)) x194000_1 0 0 0 t194 t195)))) = some (r1,r2,r3,r4):=by rw [if_pos rfl] at H;exact H
         clear H
         have H:=H1
         clear H1
         replace H:=Option.bind_eq_some_iff.mp H
         obtain ⟨t206,A160,H⟩:=H
         replace H : (if t206 ≥ 0 then ((tachographref10_bad.f 9 x4_1 1).bind fun bt207 => (some (bt207.1,bt207.2.1,bt207.2.2.1,bt207.2.2.2))) else (if (t195.length : Int) > 8 then (tachographref10_Parse.j3 kj6 x0_1 x4_1 x5_6 true x194000_1 0 0 0 t194 t195) else (tachographref10_Parse.j3 kj6 x0_1 x4_1 x5_6 (decide (x4_1 > 64)) x194000_1 0 0 0 t194 t195))) = some (r1,r2,r3,r4):=H
         have A16:=Aside0.mk A160
         clear A160
         by_cases c17 : t206 ≥ 0
         ·rw [if_pos c17] at H
          have c17b0 : decide (0 ≤ t206) = true:=decide_eq_true c17
          clear c17
          replace H:=Option.bind_eq_some_iff.mp H
          obtain ⟨⟨t207,t210,t211,t212⟩,A180,H⟩:=H
          replace H : (some (t207,t210,t211,t212)) = some (r1,r2,r3,r4):=H
          have A18:=Aside0.mk A180
          clear A180
          simp only [Option.some.injEq,Prod.mk.injEq] at H
          obtain ⟨rfl,rfl,rfl,rfl⟩:=H
          go_wp2_with (first | ((with_reducible refine gate_callee (f:=19) rfl ?_);refine goesL_ (some 30) rfl rfl Tryd.func19 (by kernel_rfl) rfl #[.string (x0_1.extract 0 (x5_6 : Int).toNat)] rfl (by (try simp only [List.map_toArray,List.map_cons,List.map_nil]);first | done | rfl | (simp only [List.length_drop,List.length_take];rfl)) ?_;(with_reducible refine (tachographref10_Pred.calls kj6 (x0_1.extract 0 (x5_6 : Int).toNat) t194 t195 true _ A14.out).mono ?_);rintro e w19 ⟨v196,rfl,ho0,hb⟩;refine ⟨_,rfl,?_⟩;have n0_:=Aside0.mk (Kd.S_elder' (by (with_reducible repeat (first | apply Kd.S_alloc | apply Kd.S_drewN | apply Kd.S_drew));exact HO_194000.out) (Kd.R_base ho0) hb);have n1_:=Aside0.mk (Kd.R_lower ho0 (below_size (by repeat (first | (with_reducible first | exact HB.out | apply below_alloc | apply pw_below_drewN | apply below_drew1 | refine below_set ?_ GE192.out | refine below_set ?_ GE193.out) | exact HB.out))));have n2_:=Aside0.mk (blk_below (g:=gb192) (o:=.cells #[.slice none 0 0,.int .i64 x193001_1,.int .i64 x193002_1,.int .i64 x193003_1] 31 (0,0)) (by (with_reducible repeat (first | refine blk_drewN ?_ _ | refine blk_drew ?_ | refine blk_alloc ?_ _));exact BK192.out) hb);have n3_:=Aside0.mk (blk_below (g:=gb193) (o:=.cells #[u194000,.int .i64 0,.int .i64 0,.int .i64 0] 31 (0,0)) (by (with_reducible repeat (first | refine blk_drewN ?_ _ | refine blk_drew ?_ | refine blk_alloc ?_ _));exact BK193.out) hb);have n4_:=Aside0.mk (below_step (by repeat (first | (with_reducible first | exact HB.out | apply below_alloc | apply pw_below_drewN | apply below_drew1 | refine below_set ?_ GE192.out | refine below_set ?_ GE193.out) | exact HB.out)) hb);clear HO_194000;clear BK192;clear BK193;clear HB;have HO_194000:=n0_;have HO197:=n1_;have BK192:=n2_;have BK193:=n3_;have HB:=n4_;clear n0_ n1_ n2_ n3_ n4_;(try clear hb);(try clear hb2);(try clear hk);(try clear hi);(try clear ho0)) | ((with_reducible refine gate_dst (N:=6) rfl ?_);refine box_event ?hg (N:=6) ?hd (cs:=#[.string (⟨#[]⟩ : ByteArray),.slice none 0 0]) (t:=41) ?hr ?_;(case hd => rfl);(case hg => rfl);(case hr => first | (go_simp;done) | (go_simp;rfl));intro gb199 hg w20 hbox hb;have n0_:=Aside0.mk (Kd.S_below (Kd.S_elderB (by (with_reducible repeat (first | apply Kd.S_alloc | apply Kd.S_drewN | apply Kd.S_drew));exact HO_194000.out) gb199 (Nat.le_of_eq hg.symm)) hb);have n1_:=Aside0.mk (Kd.R_below (by (with_reducible repeat (first | apply Kd.R_alloc | apply Kd.R_drewN | apply Kd.R_drew));exact HO197.out) hb);have n2_:=Aside0.mk (blk_below (g:=gb192) (o:=.cells #[.slice none 0 0,.int .i64 x193001_1,.int .i64 x193002_1,.int .i64 x193003_1] 31 (0,0)) (by (with_reducible repeat (first | refine blk_drewN ?_ _ | refine blk_drew ?_ | refine blk_alloc ?_ _));exact BK192.out) hb);have n3_:=Aside0.mk (blk_below (g:=gb193) (o:=.cells #[u194000,.int .i64 0,.int .i64 0,.int .i64 0] 31 (0,0)) (by (with_reducible repeat (first | refine blk_drewN ?_ _ | refine blk_drew ?_ | refine blk_alloc ?_ _));exact BK193.out) hb);have n4_:=Aside0.mk (below_step (by repeat (first | (with_reducible first | exact HB.out | apply below_alloc | apply pw_below_drewN | apply below_drew1 | refine below_set ?_ GE192.out | refine below_set ?_ GE193.out) | exact HB.out)) hb);have n5_:=Aside0.mk (hbox);have n6_:=Aside0.mk ((by rw [hg];exact (below_size (by repeat (first | (with_reducible first | exact HB.out | apply below_alloc | apply pw_below_drewN | apply below_drew1 | refine below_set ?_ GE192.out | refine below_set ?_ GE193.out) | exact HB.out))) : w.heap.size ≤ gb199));have n7_:=Aside0.mk ((by rw [hg];exact (below_size (by repeat (first | (with_reducible first | exact HB.out | apply below_alloc | apply pw_below_drewN | apply below_drew1 | refine below_set ?_ GE192.out | refine below_set ?_ GE193.out) | exact HB.out))) : w.heap.size ≤ gb199));have n8_:=Aside0.mk ((by rw [hg];exact Nat.ne_of_lt (blk_lt (g:=gb192) (o:=.cells #[.slice none 0 0,.int .i64 x193001_1,.int .i64 x193002_1,.int .i64 x193003_1] 31 (0,0)) (by (with_reducible repeat (first | refine blk_drewN ?_ _ | refine blk_drew ?_ | refine blk_alloc ?_ _));exact BK192.out)) : gb192 ≠ gb199));have n9_:=Aside0.mk ((by rw [hg];exact Nat.ne_of_gt (blk_lt (g:=gb192) (o:=.cells #[.slice none 0 0,.int .i64 x193001_1,.int .i64 x193002_1,.int .i64 x193003_1] 31 (0,0)) (by (with_reducible repeat (first | refine blk_drewN ?_ _ | refine blk_drew ?_ | refine blk_alloc ?_ _));exact BK192.out)) : gb199 ≠ gb192));have n10_:=Aside0.mk ((by rw [hg];exact Nat.ne_of_lt (blk_lt (g:=gb193) (o:=.cells #[u194000,.int .i64 0,.int .i64 0,.int .i64 0] 31 (0,0)) (by (with_reducible repeat (first | refine blk_drewN ?_ _ | refine blk_drew ?_ | refine blk_alloc ?_ _));exact BK193.out)) : gb193 ≠ gb199));have n11_:=Aside0.mk ((by rw [hg];exact Nat.ne_of_gt (blk_lt (g:=gb193) (o:=.cells #[u194000,.int .i64 0,.int .i64 0,.int .i64 0] 31 (0,0)) (by (with_reducible repeat (first | refine blk_drewN ?_ _ | refine blk_drew ?_ | refine blk_alloc ?_ _));exact BK193.out)) : gb199 ≠ gb193));clear HO_194000;clear HO197;clear BK192;clear BK193;clear HB;have HO_194000:=n0_;have HO197:=n1_;have BK192:=n2_;have BK193:=n3_;have HB:=n4_;have BK199:=n5_;have GW199:=n6_;have GE199:=n7_;have NB192_199:=n8_;have NB199_192:=n9_;have NB193_199:=n10_;have NB199_193:=n11_;clear n0_ n1_ n2_ n3_ n4_ n5_ n6_ n7_ n8_ n9_ n10_ n11_;clear hb hbox hg;have hnb21:=NB199_192.out;have hnc21:=NB192_199.out;have hnb22:=NB199_193.out;have hnc22:=NB193_199.out;have hcz23_0 : w20.cell? ⟨gb199,0,none⟩ = some (.string (⟨#[]⟩ : ByteArray)):=(blk_cell BK199.out 0).trans rfl;have hcz23_1 : w20.cell? ⟨gb199,1,none⟩ = some (.slice none 0 0):=(blk_cell BK199.out 1).trans rfl;have hfz23_0:=blk_frozen BK199.out 0;have hfz23_1:=blk_frozen BK199.out 1;obtain ⟨Ao24,co24,eo24⟩:=Kd.R_slice HO197.out;subst eo24;have hnb25:=NB193_192.out;have hnc25:=NB192_193.out;have hcz26_0 : w20.cell? ⟨gb193,0,none⟩ = some (u194000):=(blk_cell BK193.out 0).trans rfl;have hcz26_1 : w20.cell? ⟨gb193,1,none⟩ = some (.int .i64 0):=(blk_cell BK193.out 1).trans rfl;have hcz26_2 : w20.cell? ⟨gb193,2,none⟩ = some (.int .i64 0):=(blk_cell BK193.out 2).trans rfl;have hcz26_3 : w20.cell? ⟨gb193,3,none⟩ = some (.int .i64 0):=(blk_cell BK193.out 3).trans rfl;have hfz26_0:=blk_frozen BK193.out 0;have hfz26_1:=blk_frozen BK193.out 1;have hfz26_2:=blk_frozen BK193.out 2;have hfz26_3:=blk_frozen BK193.out 3;obtain ⟨Ao27,co27,eo27⟩:=Kd.S_slice HO_194000.out;subst eo27) | ((with_reducible refine gate_callee (f:=21) rfl ?_);refine goesL_ (some 41) rfl rfl Tryd.func21 (by kernel_rfl) rfl #[.slice Ao27 x194000_1.length co27,.string t194] rfl (by (try simp only [List.map_toArray,List.map_cons,List.map_nil]);first | done | rfl | (simp only [List.length_drop,List.length_take];rfl)) ?_;(with_reducible refine (tachographref09_Find.calls kj6 _ _ x194000_1 t194 t206 _ ?side1 ?side2 A16.out).mono ?_);(case side1 => refine (Kd.S_reads' (e:=41) (base:=w.heap.size) (ok:=fun k_ => ((True ∧ some k_ ≠ (.slice Ao24 t195.length co24 : Value).ownBlock) ∧ k_ ≠ gb199)) (n:=x194000_1.length) (c:=co27) ?_).2.2;exact (by (with_reducible repeat (first | apply Kd.S_alloc | apply Kd.S_drewN | apply Kd.S_drew));exact (Kd.S_mono (Kd.S_far (p:=⟨gb199,1,none⟩) (Kd.S_far (p:=⟨gb199,0,none⟩) (Kd.S_mono HO_194000.out (fun k_ hk => (⟨hk,hk.2⟩ : _ ∧ k_ ≠ gb199))) (fun _ hk => hk.2) (.string t194)) (fun _ hk => hk.2) (.slice Ao24 t195.length co24)) (fun _ h_ => h_.1))));(case side2 => exact (Kd.S_reads' HO_194000.out).2.1);rintro e w' ⟨rfl,⟨nd,rfl⟩⟩;refine ⟨_,rfl,?_⟩) | ((with_reducible refine gate_callee (f:=20) rfl ?_);refine goesL_ (some 44) rfl rfl Tryd.func20 (by kernel_rfl) rfl #[.int .i64 9,.int .i64 x4_1,.int .i64 1] rfl (by (try simp only [List.map_toArray,List.map_cons,List.map_nil]);first | done | rfl | (simp only [List.length_drop,List.length_take];rfl)) ?_;(with_reducible refine (tachographref10_bad.calls 9 x4_1 1 t207 t210 t211 t212 _ A18.out).mono ?_);rintro e w28 ⟨v208,rfl,ho0,hb⟩;refine ⟨_,rfl,?_⟩;have n0_:=Aside0.mk (Kd.S_elder' (by (with_reducible repeat (first | apply Kd.S_alloc | apply Kd.S_drewN | apply Kd.S_drew));exact (Kd.S_mono (Kd.S_far (p:=⟨gb199,1,none⟩) (Kd.S_far (p:=⟨gb199,0,none⟩) (Kd.S_mono HO_194000.out (fun k_ hk => (⟨hk,hk.2⟩ : _ ∧ k_ ≠ gb199))) (fun _ hk => hk.2) (.string t194)) (fun _ hk => hk.2) (.slice Ao24 t195.length co24)) (fun _ h_ => h_.1))) (Kd.S_base ho0) hb);have n1_:=Aside0.mk (Kd.R_below (by (with_reducible repeat (first | apply Kd.R_alloc | apply Kd.R_drewN | apply Kd.R_drew));exact (Kd.R_mono (Kd.R_far (p:=⟨gb199,1,none⟩) (Kd.R_far (p:=⟨gb199,0,none⟩) (Kd.R_types HO197.out BK199.out (by decide)) (fun _ hk => hk.2) (.string t194)) (fun _ hk => hk.2) (.slice Ao24 t195.length co24)) (fun _ h_ => h_.1))) hb);have n2_:=Aside0.mk (Kd.S_lower (Kd.S_newB (Kd.S_new' (Kd.S_new' ho0 (Kd.S_lt (by (with_reducible repeat (first | apply Kd.S_alloc | apply Kd.S_drewN | apply Kd.S_drew));exact (Kd.S_mono (Kd.S_far (p:=⟨gb199,1,none⟩) (Kd.S_far (p:=⟨gb199,0,none⟩) (Kd.S_mono HO_194000.out (fun k_ hk => (⟨hk,hk.2⟩ : _ ∧ k_ ≠ gb199))) (fun _ hk => hk.2) (.string t194)) (fun _ hk => hk.2) (.slice Ao24 t195.length co24)) (fun _ h_ => h_.1))))) (Kd.R_lt (by (with_reducible repeat (first | apply Kd.R_alloc | apply Kd.R_drewN | apply Kd.R_drew));exact (Kd.R_mono (Kd.R_far (p:=⟨gb199,1,none⟩) (Kd.R_far (p:=⟨gb199,0,none⟩) (Kd.R_types HO197.out BK199.out (by decide)) (fun _ hk => hk.2) (.string t194)) (fun _ hk => hk.2) (.slice Ao24 t195.length co24)) (fun _ h_ => h_.1))))) (g:=gb199) (o:=.cells #[.string t194,.slice Ao24 t195.length co24] 41 (0,0)) (by (with_reducible repeat (first | refine blk_drewN ?_ _ | refine blk_drew ?_ | refine blk_alloc ?_ _));refine blk_put (cs:=#[.string t194,.slice none 0 0]) ?_ 1 _ rfl;(with_reducible repeat (first | refine blk_drewN ?_ _ | refine blk_drew ?_ | refine blk_alloc ?_ _));refine blk_put (cs:=#[.string (⟨#[]⟩ : ByteArray),.slice none 0 0]) ?_ 0 _ rfl;(with_reducible repeat (first | refine blk_drewN ?_ _ | refine blk_drew ?_ | refine blk_alloc ?_ _));exact BK199.out)) (below_size (by repeat (first | (with_reducible first | exact HB.out | apply below_alloc | apply pw_below_drewN | apply below_drew1 | refine below_set ?_ GE192.out | refine below_set ?_ GE193.out | refine below_set ?_ GE199.out) | exact HB.out))));have n3_:=Aside0.mk (blk_below (g:=gb192) (o:=.cells #[.slice none 0 0,.int .i64 x193001_1,.int .i64 x193002_1,.int .i64 x193003_1] 31 (0,0)) (by (with_reducible repeat (first | refine blk_drewN ?_ _ | refine blk_drew ?_ | refine blk_alloc ?_ _));refine blk_far ?_ NB192_199.out _;(with_reducible repeat (first | refine blk_drewN ?_ _ | refine blk_drew ?_ | refine blk_alloc ?_ _));refine blk_far ?_ NB192_199.out _;(with_reducible repeat (first | refine blk_drewN ?_ _ | refine blk_drew ?_ | refine blk_alloc ?_ _));exact BK192.out) hb);have n4_:=Aside0.mk (blk_below (g:=gb193) (o:=.cells #[.slice Ao27 x194000_1.length co27,.int .i64 0,.int .i64 0,.int .i64 0] 31 (0,0)) (by (with_reducible repeat (first | refine blk_drewN ?_ _ | refine blk_drew ?_ | refine blk_alloc ?_ _));refine blk_far ?_ NB193_199.out _;(with_reducible repeat (first | refine blk_drewN ?_ _ | refine blk_drew ?_ | refine blk_alloc ?_ _));refine blk_far ?_ NB193_199.out _;(with_reducible repeat (first | refine blk_drewN ?_ _ | refine blk_drew ?_ | refine blk_alloc ?_ _));exact BK193.out) hb);have n5_:=Aside0.mk (blk_below (g:=gb199) (o:=.cells #[.string t194,.slice Ao24 t195.length co24] 41 (0,0)) (by (with_reducible repeat (first | refine blk_drewN ?_ _ | refine blk_drew ?_ | refine blk_alloc ?_ _));refine blk_put (cs:=#[.string t194,.slice none 0 0]) ?_ 1 _ rfl;(with_reducible repeat (first | refine blk_drewN ?_ _ | refine blk_drew ?_ | refine blk_alloc ?_ _));refine blk_put (cs:=#[.string (⟨#[]⟩ : ByteArray),.slice none 0 0]) ?_ 0 _ rfl;(with_reducible repeat (first | refine blk_drewN ?_ _ | refine blk_drew ?_ | refine blk_alloc ?_ _));exact BK199.out) hb);have n6_:=Aside0.mk (below_step (by repeat (first | (with_reducible first | exact HB.out | apply below_alloc | apply pw_below_drewN | apply below_drew1 | refine below_set ?_ GE192.out | refine below_set ?_ GE193.out | refine below_set ?_ GE199.out) | exact HB.out)) hb);clear HO_194000;clear HO197;clear BK192;clear BK193;clear BK199;clear HB;have HO_194000:=n0_;have HO197:=n1_;have HO209:=n2_;have BK192:=n3_;have BK193:=n4_;have BK199:=n5_;have HB:=n6_;clear n0_ n1_ n2_ n3_ n4_ n5_ n6_;(try clear hb);(try clear hb2);(try clear hk);(try clear hi);(try clear ho0);obtain ⟨Ao29,co29,eo29⟩:=Kd.S_slice HO209.out;subst eo29;have hcz30_0 : w28.cell? ⟨gb192,0,none⟩ = some (.slice none 0 0):=(blk_cell BK192.out 0).trans rfl;have hcz30_1 : w28.cell? ⟨gb192,1,none⟩ = some (.int .i64 x193001_1):=(blk_cell BK192.out 1).trans rfl;have hcz30_2 : w28.cell? ⟨gb192,2,none⟩ = some (.int .i64 x193002_1):=(blk_cell BK192.out 2).trans rfl;have hcz30_3 : w28.cell? ⟨gb192,3,none⟩ = some (.int .i64 x193003_1):=(blk_cell BK192.out 3).trans rfl;have hfz30_0:=blk_frozen BK192.out 0;have hfz30_1:=blk_frozen BK192.out 1;have hfz30_2:=blk_frozen BK192.out 2;have hfz30_3:=blk_frozen BK192.out 3))
          refine bodyPost_ret (results_cell_row rfl _ _ gb192 31 #[.slice Ao29 t207.length co29,.int .i64 t210,.int .i64 t211,.int .i64 t212] (0,0) _ rfl (by (with_reducible repeat (first | refine blk_drewN ?_ _ | refine blk_drew ?_ | refine blk_alloc ?_ _));refine blk_put (cs:=#[.slice Ao29 t207.length co29,.int .i64 t210,.int .i64 t211,.int .i64 x193003_1]) ?_ 3 _ rfl;(with_reducible repeat (first | refine blk_drewN ?_ _ | refine blk_drew ?_ | refine blk_alloc ?_ _));refine blk_put (cs:=#[.slice Ao29 t207.length co29,.int .i64 t210,.int .i64 x193002_1,.int .i64 x193003_1]) ?_ 2 _ rfl;(with_reducible repeat (first | refine blk_drewN ?_ _ | refine blk_drew ?_ | refine blk_alloc ?_ _));refine blk_put (cs:=#[.slice Ao29 t207.length co29,.int .i64 x193001_1,.int .i64 x193002_1,.int .i64 x193003_1]) ?_ 1 _ rfl;(with_reducible repeat (first | refine blk_drewN ?_ _ | refine blk_drew ?_ | refine blk_alloc ?_ _));refine blk_put (cs:=#[.slice none 0 0,.int .i64 x193001_1,.int .i64 x193002_1,.int .i64 x193003_1]) ?_ 0 _ rfl;(with_reducible repeat (first | refine blk_drewN ?_ _ | refine blk_drew ?_ | refine blk_alloc ?_ _));exact BK192.out) Tryd.underlying31 rfl (by kernel_rfl)) rfl ?_
          exact ⟨_,by first | rfl | (simp [errW_none,errW_some] <;> rfl) | (simp [*,errW_none,errW_some] <;> rfl),by (with_reducible repeat (first | apply Kd.S_alloc | apply Kd.S_drewN | apply Kd.S_drew));exact Kd.S_mono (Kd.S_far (p:=⟨gb192,3,none⟩) (Kd.S_far (p:=⟨gb192,2,none⟩) (Kd.S_far (p:=⟨gb192,1,none⟩) (Kd.S_far (p:=⟨gb192,0,none⟩) (Kd.S_types HO209.out BK192.out (by decide)) (fun _ hk => hk.2) (.slice Ao29 t207.length co29)) (fun _ hk => hk.2) (.int .i64 t210)) (fun _ hk => hk.2) (.int .i64 t211)) (fun _ hk => hk.2) (.int .i64 t212)) (fun _ hk => trivial),by repeat (first | (with_reducible first | exact HB.out | apply below_alloc | apply pw_below_drewN | apply below_drew1 | refine below_set ?_ GE192.out | refine below_set ?_ GE193.out | refine below_set ?_ GE199.out) | exact HB.out)⟩
         ·rw [if_neg c17] at H
          have c17b0 : decide (0 ≤ t206) = false:=decide_eq_false c17
          clear c17
          have HC31:=Aside0.mk H
          clear H
          go_upto_region 13 with (first | ((with_reducible refine gate_callee (f:=19) rfl ?_);refine goesL_ (some 30) rfl rfl Tryd.func19 (by kernel_rfl) rfl #[.string (x0_1.extract 0 (x5_6 : Int).toNat)] rfl (by (try simp only [List.map_toArray,List.map_cons,List.map_nil]);first | done | rfl | (simp only [List.length_drop,List.length_take];rfl)) ?_;(with_reducible refine (tachographref10_Pred.calls kj6 (x0_1.extract 0 (x5_6 : Int).toNat) t194 t195 true _ A14.out).mono ?_);rintro e w32 ⟨v196,rfl,ho0,hb⟩;refine ⟨_,rfl,?_⟩;have n0_:=Aside0.mk (Kd.S_elder' (by (with_reducible repeat (first | apply Kd.S_alloc | apply Kd.S_drewN | apply Kd.S_drew));exact HO_194000.out) (Kd.R_base ho0) hb);have n1_:=Aside0.mk (Kd.R_lower ho0 (below_size (by repeat (first | (with_reducible first | exact HB.out | apply below_alloc | apply pw_below_drewN | apply below_drew1 | refine below_set ?_ GE192.out | refine below_set ?_ GE193.out) | exact HB.out))));have n2_:=Aside0.mk (blk_below (g:=gb192) (o:=.cells #[.slice none 0 0,.int .i64 x193001_1,.int .i64 x193002_1,.int .i64 x193003_1] 31 (0,0)) (by (with_reducible repeat (first | refine blk_drewN ?_ _ | refine blk_drew ?_ | refine blk_alloc ?_ _));exact BK192.out) hb);have n3_:=Aside0.mk (blk_below (g:=gb193) (o:=.cells #[u194000,.int .i64 0,.int .i64 0,.int .i64 0] 31 (0,0)) (by (with_reducible repeat (first | refine blk_drewN ?_ _ | refine blk_drew ?_ | refine blk_alloc ?_ _));exact BK193.out) hb);have n4_:=Aside0.mk (below_step (by repeat (first | (with_reducible first | exact HB.out | apply below_alloc | apply pw_below_drewN | apply below_drew1 | refine below_set ?_ GE192.out | refine below_set ?_ GE193.out) | exact HB.out)) hb);clear HO_194000;clear BK192;clear BK193;clear HB;have HO_194000:=n0_;have HO197:=n1_;have BK192:=n2_;have BK193:=n3_;have HB:=n4_;clear n0_ n1_ n2_ n3_ n4_;(try clear hb);(try clear hb2);(try clear hk);(try clear hi);(try clear ho0)) | ((with_reducible refine gate_dst (N:=6) rfl ?_);refine box_event ?hg (N:=6) ?hd (cs:=#[.string (⟨#[]⟩ : ByteArray),.slice none 0 0]) (t:=41) ?hr ?_;(case hd => rfl);(case hg => rfl);(case hr => first | (go_simp;done) | (go_simp;rfl));intro gb199 hg w33 hbox hb;have n0_:=Aside0.mk (Kd.S_below (Kd.S_elderB (by (with_reducible repeat (first | apply Kd.S_alloc | apply Kd.S_drewN | apply Kd.S_drew));exact HO_194000.out) gb199 (Nat.le_of_eq hg.symm)) hb);have n1_:=Aside0.mk (Kd.R_below (by (with_reducible repeat (first | apply Kd.R_alloc | apply Kd.R_drewN | apply Kd.R_drew));exact HO197.out) hb);have n2_:=Aside0.mk (blk_below (g:=gb192) (o:=.cells #[.slice none 0 0,.int .i64 x193001_1,.int .i64 x193002_1,.int .i64 x193003_1] 31 (0,0)) (by (with_reducible repeat (first | refine blk_drewN ?_ _ | refine blk_drew ?_ | refine blk_alloc ?_ _));exact BK192.out) hb);have n3_:=Aside0.mk (blk_below (g:=gb193) (o:=.cells #[u194000,.int .i64 0,.int .i64 0,.int .i64 0] 31 (0,0)) (by (with_reducible repeat (first | refine blk_drewN ?_ _ | refine blk_drew ?_ | refine blk_alloc ?_ _));exact BK193.out) hb);have n4_:=Aside0.mk (below_step (by repeat (first | (with_reducible first | exact HB.out | apply below_alloc | apply pw_below_drewN | apply below_drew1 | refine below_set ?_ GE192.out | refine below_set ?_ GE193.out) | exact HB.out)) hb);have n5_:=Aside0.mk (hbox);have n6_:=Aside0.mk ((by rw [hg];exact (below_size (by repeat (first | (with_reducible first | exact HB.out | apply below_alloc | apply pw_below_drewN | apply below_drew1 | refine below_set ?_ GE192.out | refine below_set ?_ GE193.out) | exact HB.out))) : w.heap.size ≤ gb199));have n7_:=Aside0.mk ((by rw [hg];exact (below_size (by repeat (first | (with_reducible first | exact HB.out | apply below_alloc | apply pw_below_drewN | apply below_drew1 | refine below_set ?_ GE192.out | refine below_set ?_ GE193.out) | exact HB.out))) : w.heap.size ≤ gb199));have n8_:=Aside0.mk ((by rw [hg];exact Nat.ne_of_lt (blk_lt (g:=gb192) (o:=.cells #[.slice none 0 0,.int .i64 x193001_1,.int .i64 x193002_1,.int .i64 x193003_1] 31 (0,0)) (by (with_reducible repeat (first | refine blk_drewN ?_ _ | refine blk_drew ?_ | refine blk_alloc ?_ _));exact BK192.out)) : gb192 ≠ gb199));have n9_:=Aside0.mk ((by rw [hg];exact Nat.ne_of_gt (blk_lt (g:=gb192) (o:=.cells #[.slice none 0 0,.int .i64 x193001_1,.int .i64 x193002_1,.int .i64 x193003_1] 31 (0,0)) (by (with_reducible repeat (first | refine blk_drewN ?_ _ | refine blk_drew ?_ | refine blk_alloc ?_ _));exact BK192.out)) : gb199 ≠ gb192));have n10_:=Aside0.mk ((by rw [hg];exact Nat.ne_of_lt (blk_lt (g:=gb193) (o:=.cells #[u194000,.int .i64 0,.int .i64 0,.int .i64 0] 31 (0,0)) (by (with_reducible repeat (first | refine blk_drewN ?_ _ | refine blk_drew ?_ | refine blk_alloc ?_ _));exact BK193.out)) : gb193 ≠ gb199));have n11_:=Aside0.mk ((by rw [hg];exact Nat.ne_of_gt (blk_lt (g:=gb193) (o:=.cells #[u194000,.int .i64 0,.int .i64 0,.int .i64 0] 31 (0,0)) (by (with_reducible repeat (first | refine blk_drewN ?_ _ | refine blk_drew ?_ | refine blk_alloc ?_ _));exact BK193.out)) : gb199 ≠ gb193));clear HO_194000;clear HO197;clear BK192;clear BK193;clear HB;have HO_194000:=n0_;have HO197:=n1_;have BK192:=n2_;have BK193:=n3_;have HB:=n4_;have BK199:=n5_;have GW199:=n6_;have GE199:=n7_;have NB192_199:=n8_;have NB199_192:=n9_;have NB193_199:=n10_;have NB199_193:=n11_;clear n0_ n1_ n2_ n3_ n4_ n5_ n6_ n7_ n8_ n9_ n10_ n11_;clear hb hbox hg;have hnb34:=NB199_192.out;have hnc34:=NB192_199.out;have hnb35:=NB199_193.out;have hnc35:=NB193_199.out;have hcz36_0 : w33.cell? ⟨gb199,0,none⟩ = some (.string (⟨#[]⟩ : ByteArray)):=(blk_cell BK199.out 0).trans rfl;have hcz36_1 : w33.cell? ⟨gb199,1,none⟩ = some (.slice none 0 0):=(blk_cell BK199.out 1).trans rfl;have hfz36_0:=blk_frozen BK199.out 0;have hfz36_1:=blk_frozen BK199.out 1;obtain ⟨Ao37,co37,eo37⟩:=Kd.R_slice HO197.out;subst eo37;have hnb38:=NB193_192.out;have hnc38:=NB192_193.out;have hcz39_0 : w33.cell? ⟨gb193,0,none⟩ = some (u194000):=(blk_cell BK193.out 0).trans rfl;have hcz39_1 : w33.cell? ⟨gb193,1,none⟩ = some (.int .i64 0):=(blk_cell BK193.out 1).trans rfl;have hcz39_2 : w33.cell? ⟨gb193,2,none⟩ = some (.int .i64 0):=(blk_cell BK193.out 2).trans rfl;have hcz39_3 : w33.cell? ⟨gb193,3,none⟩ = some (.int .i64 0):=(blk_cell BK193.out 3).trans rfl;have hfz39_0:=blk_frozen BK193.out 0;have hfz39_1:=blk_frozen BK193.out 1;have hfz39_2:=blk_frozen BK193.out 2;have hfz39_3:=blk_frozen BK193.out 3;obtain ⟨Ao40,co40,eo40⟩:=Kd.S_slice HO_194000.out;subst eo40) | ((with_reducible refine gate_callee (f:=21) rfl ?_);refine goesL_ (some 41) rfl rfl Tryd.func21 (by kernel_rfl) rfl #[.slice Ao40 x194000_1.length co40,.string t194] rfl (by (try simp only [List.map_toArray,List.map_cons,List.map_nil]);first | done | rfl | (simp only [List.length_drop,List.length_take];rfl)) ?_;(with_reducible refine (tachographref09_Find.calls kj6 _ _ x194000_1 t194 t206 _ ?side1 ?side2 A16.out).mono ?_);(case side1 => refine (Kd.S_reads' (e:=41) (base:=w.heap.size) (ok:=fun k_ => ((True ∧ some k_ ≠ (.slice Ao37 t195.length co37 : Value).ownBlock) ∧ k_ ≠ gb199)) (n:=x194000_1.length) (c:=co40) ?_).2.2;exact (by (with_reducible repeat (first | apply Kd.S_alloc | apply Kd.S_drewN | apply Kd.S_drew));exact (Kd.S_mono (Kd.S_far (p:=⟨gb199,1,none⟩) (Kd.S_far (p:=⟨gb199,0,none⟩) (Kd.S_mono HO_194000.out (fun k_ hk => (⟨hk,hk.2⟩ : _ ∧ k_ ≠ gb199))) (fun _ hk => hk.2) (.string t194)) (fun _ hk => hk.2) (.slice Ao37 t195.length co37)) (fun _ h_ => h_.1))));(case side2 => exact (Kd.S_reads' HO_194000.out).2.1);rintro e w' ⟨rfl,⟨nd,rfl⟩⟩;refine ⟨_,rfl,?_⟩))
          (try simp only [Act.put,List.setIfInBounds_toArray,List.set_cons_zero,List.set_cons_succ])
          go_cut [52] (fun v52 wc => ∃ (kq : Nat) (x52_30 : Bool),v52 = .bool x52_30 ∧ Aside0 (tachographref10_Parse.j3 kq x0_1 x4_1 x5_6 x52_30 x194000_1 0 0 0 t194 t195 = some (r1,r2,r3,r4)) ∧ Aside0 (kq ≤ kj6) ∧ Aside0 (Kd.S k41 41 wc w.heap.size (fun k_ => some k_ ≠ ((.slice Ao37 t195.length co37) : Value).ownBlock ∧ k_ ≠ gb199) (.slice Ao40 x194000_1.length co40) x194000_1) ∧ Aside0 (Kd.R (Kd.int .i64) 3 wc w.heap.size (fun _ => True) (.slice Ao37 t195.length co37) t195) ∧ Aside0 (wc.heap[gb192]? = some (.cells #[(.slice none 0 0),.int .i64 x193001_1,.int .i64 x193002_1,.int .i64 x193003_1] 31 (0,0))) ∧ Aside0 (wc.heap[gb193]? = some (.cells #[(.slice Ao40 x194000_1.length co40),.int .i64 0,.int .i64 0,.int .i64 0] 31 (0,0))) ∧ Aside0 (wc.heap[gb199]? = some (.cells #[.string t194,(.slice Ao37 t195.length co37)] 41 (0,0))) ∧ Aside0 (Below w.heap.size w wc))
          case first =>
           have H:=HC31.out
           clear HC31
           by_cases c41 : (t195.length : Int) > 8
           ·rw [if_pos c41] at H
            have c41b0 : decide (8 < (t195.length : Int)) = true:=decide_eq_true c41
            have c41b1 : decide (8 < t195.length) = true:=decide_eq_true (by omega)
            clear c41
            (first | rw [c41b0] | (simp only [i64_w,i32_w];rw [c41b0]) | skip)
            have H':=Aside0.mk H
            clear H
            have hnb42:=NB199_192.out
            have hnc42:=NB192_199.out
            have hnb43:=NB199_193.out
            have hnc43:=NB193_199.out
            have hcz44_0 : w33.cell? ⟨gb199,0,none⟩ = some (.string (⟨#[]⟩ : ByteArray)):=(blk_cell BK199.out 0).trans rfl
            have hcz44_1 : w33.cell? ⟨gb199,1,none⟩ = some (.slice none 0 0):=(blk_cell BK199.out 1).trans rfl
            have hfz44_0:=blk_frozen BK199.out 0
            have hfz44_1:=blk_frozen BK199.out 1
            go_wp2
            go_meet
            case rel => exact ⟨_,(true),(by first | rfl | (simp;done) | (simp [*];done)),H',⟨by have:=HK1.out;have:=HJ6.out;first | omega | exact Nat.le_refl _⟩,⟨by (with_reducible repeat (first | apply Kd.S_alloc | apply Kd.S_drewN | apply Kd.S_drew));exact Kd.S_mono (Kd.S_far (p:=⟨gb199,1,none⟩) (Kd.S_far (p:=⟨gb199,0,none⟩) (Kd.S_mono HO_194000.out (fun k_ hk => (⟨hk,hk.2⟩ : _ ∧ k_ ≠ gb199))) (fun _ hk => hk.2) (.string t194)) (fun _ hk => hk.2) (.slice Ao37 t195.length co37)) (fun _ hk => ⟨hk.1.1.2,hk.1.2⟩)⟩,⟨by (with_reducible repeat (first | apply Kd.R_alloc | apply Kd.R_drewN | apply Kd.R_drew));exact Kd.R_mono (Kd.R_far (p:=⟨gb199,1,none⟩) (Kd.R_far (p:=⟨gb199,0,none⟩) (Kd.R_types HO197.out BK199.out (by decide)) (fun _ hk => hk.2) (.string t194)) (fun _ hk => hk.2) (.slice Ao37 t195.length co37)) (fun _ hk => trivial)⟩,⟨by (with_reducible repeat (first | refine blk_drewN ?_ _ | refine blk_drew ?_ | refine blk_alloc ?_ _));refine blk_far ?_ NB192_199.out _;(with_reducible repeat (first | refine blk_drewN ?_ _ | refine blk_drew ?_ | refine blk_alloc ?_ _));refine blk_far ?_ NB192_199.out _;(with_reducible repeat (first | refine blk_drewN ?_ _ | refine blk_drew ?_ | refine blk_alloc ?_ _));exact BK192.out⟩,⟨by (with_reducible repeat (first | refine blk_drewN ?_ _ | refine blk_drew ?_ | refine blk_alloc ?_ _));refine blk_far ?_ NB193_199.out _;(with_reducible repeat (first | refine blk_drewN ?_ _ | refine blk_drew ?_ | refine blk_alloc ?_ _));refine blk_far ?_ NB193_199.out _;(with_reducible repeat (first | refine blk_drewN ?_ _ | refine blk_drew ?_ | refine blk_alloc ?_ _));exact BK193.out⟩,⟨by (with_reducible repeat (first | refine blk_drewN ?_ _ | refine blk_drew ?_ | refine blk_alloc ?_ _));refine blk_put (cs:=#[.string t194,.slice none 0 0]) ?_ 1 _ rfl;(with_reducible repeat (first | refine blk_drewN ?_ _ | refine blk_drew ?_ | refine blk_alloc ?_ _));refine blk_put (cs:=#[.string (⟨#[]⟩ : ByteArray),.slice none 0 0]) ?_ 0 _ rfl;(with_reducible repeat (first | refine blk_drewN ?_ _ | refine blk_drew ?_ | refine blk_alloc ?_ _));exact BK199.out⟩,⟨by repeat (first | (with_reducible first | exact HB.out | apply below_alloc | apply pw_below_drewN | apply below_drew1 | refine below_set ?_ GE192.out | refine below_set ?_ GE193.out | refine below_set ?_ GE199.out) | exact HB.out)⟩⟩
           ·rw [if_neg c41] at H
            have c41b0 : decide (8 < (t195.length : Int)) = false:=decide_eq_false c41
            have c41b1 : decide (8 < t195.length) = false:=decide_eq_false (by omega)
            clear c41
            (first | rw [c41b0] | (simp only [i64_w,i32_w];rw [c41b0]) | skip)
            have H':=Aside0.mk H
            clear H
            have hnb45:=NB199_192.out
            have hnc45:=NB192_199.out
            have hnb46:=NB199_193.out
            have hnc46:=NB193_199.out
            have hcz47_0 : w33.cell? ⟨gb199,0,none⟩ = some (.string (⟨#[]⟩ : ByteArray)):=(blk_cell BK199.out 0).trans rfl
            have hcz47_1 : w33.cell? ⟨gb199,1,none⟩ = some (.slice none 0 0):=(blk_cell BK199.out 1).trans rfl
            have hfz47_0:=blk_frozen BK199.out 0
            have hfz47_1:=blk_frozen BK199.out 1
            go_wp2
            go_meet
            case rel => exact ⟨_,(decide (x4_1 > 64)),(by first | rfl | (simp;done) | (simp [*];done)),H',⟨by have:=HK1.out;have:=HJ6.out;first | omega | exact Nat.le_refl _⟩,⟨by (with_reducible repeat (first | apply Kd.S_alloc | apply Kd.S_drewN | apply Kd.S_drew));exact Kd.S_mono (Kd.S_far (p:=⟨gb199,1,none⟩) (Kd.S_far (p:=⟨gb199,0,none⟩) (Kd.S_mono HO_194000.out (fun k_ hk => (⟨hk,hk.2⟩ : _ ∧ k_ ≠ gb199))) (fun _ hk => hk.2) (.string t194)) (fun _ hk => hk.2) (.slice Ao37 t195.length co37)) (fun _ hk => ⟨hk.1.1.2,hk.1.2⟩)⟩,⟨by (with_reducible repeat (first | apply Kd.R_alloc | apply Kd.R_drewN | apply Kd.R_drew));exact Kd.R_mono (Kd.R_far (p:=⟨gb199,1,none⟩) (Kd.R_far (p:=⟨gb199,0,none⟩) (Kd.R_types HO197.out BK199.out (by decide)) (fun _ hk => hk.2) (.string t194)) (fun _ hk => hk.2) (.slice Ao37 t195.length co37)) (fun _ hk => trivial)⟩,⟨by (with_reducible repeat (first | refine blk_drewN ?_ _ | refine blk_drew ?_ | refine blk_alloc ?_ _));refine blk_far ?_ NB192_199.out _;(with_reducible repeat (first | refine blk_drewN ?_ _ | refine blk_drew ?_ | refine blk_alloc ?_ _));refine blk_far ?_ NB192_199.out _;(with_reducible repeat (first | refine blk_drewN ?_ _ | refine blk_drew ?_ | refine blk_alloc ?_ _));exact BK192.out⟩,⟨by (with_reducible repeat (first | refine blk_drewN ?_ _ | refine blk_drew ?_ | refine blk_alloc ?_ _));refine blk_far ?_ NB193_199.out _;(with_reducible repeat (first | refine blk_drewN ?_ _ | refine blk_drew ?_ | refine blk_alloc ?_ _));refine blk_far ?_ NB193_199.out _;(with_reducible repeat (first | refine blk_drewN ?_ _ | refine blk_drew ?_ | refine blk_alloc ?_ _));exact BK193.out⟩,⟨by (with_reducible repeat (first | refine blk_drewN ?_ _ | refine blk_drew ?_ | refine blk_alloc ?_ _));refine blk_put (cs:=#[.string t194,.slice none 0 0]) ?_ 1 _ rfl;(with_reducible repeat (first | refine blk_drewN ?_ _ | refine blk_drew ?_ | refine blk_alloc ?_ _));refine blk_put (cs:=#[.string (⟨#[]⟩ : ByteArray),.slice none 0 0]) ?_ 0 _ rfl;(with_reducible repeat (first | refine blk_drewN ?_ _ | refine blk_drew ?_ | refine blk_alloc ?_ _));exact BK199.out⟩,⟨by repeat (first | (with_reducible first | exact HB.out | apply below_alloc | apply pw_below_drewN | apply below_drew1 | refine below_set ?_ GE192.out | refine below_set ?_ GE193.out | refine below_set ?_ GE199.out) | exact HB.out)⟩⟩
          case rest =>
           clear HC31
           try clear c1
           try clear p1
           try clear q1
           try clear hx1
           try clear c2
           try clear p2
           try clear c3
           try clear c4
           try clear c6
           try clear c6b0
           try clear c6b1
           try clear p6
           try clear c8
           try clear c8b0
           try clear c9
           try clear c9b0
           try clear p10
           try clear q10
           try clear hx10
           try clear c11
           try clear c11b0
           try clear c11b1
           try clear c12
           try clear c12b0
           try clear c12b1
           try clear c13
           try clear c13b0
           try clear c13b1
           try clear c15
           try clear c17
           try clear c17b0
           try clear c19
           try clear c20
           try clear c21
           try clear c22
           try clear c25
           try clear c34
           try clear c35
           try clear c38
           try clear c41
           try clear c41b0
           try clear c41b1
           try clear c42
           try clear c43
           try clear c45
           try clear c46
           try clear hcz23_0
           try clear hcz23_1
           try clear hcz26_0
           try clear hcz26_1
           try clear hcz26_2
           try clear hcz26_3
           try clear hcz30_0
           try clear hcz30_1
           try clear hcz30_2
           try clear hcz30_3
           try clear hcz36_0
           try clear hcz36_1
           try clear hcz39_0
           try clear hcz39_1
           try clear hcz39_2
           try clear hcz39_3
           try clear hcz44_0
           try clear hcz44_1
           try clear hcz47_0
           try clear hcz47_1
           try clear hcz5_0
           try clear hcz5_1
           try clear hcz5_2
           try clear hcz5_3
           try clear hfz23_0
           try clear hfz23_1
           try clear hfz26_0
           try clear hfz26_1
           try clear hfz26_2
           try clear hfz26_3
           try clear hfz30_0
           try clear hfz30_1
           try clear hfz30_2
           try clear hfz30_3
           try clear hfz36_0
           try clear hfz36_1
           try clear hfz39_0
           try clear hfz39_1
           try clear hfz39_2
           try clear hfz39_3
           try clear hfz44_0
           try clear hfz44_1
           try clear hfz47_0
           try clear hfz47_1
           try clear hfz5_0
           try clear hfz5_1
           try clear hfz5_2
           try clear hfz5_3
           try clear p1
           try clear p10
           try clear p2
           try clear p6
           try clear q1
           try clear q10
           obtain ⟨kq,x52_30,rfl,HA,HJ30,HO_194000,HO_200001,BK192,BK193,BK199,HB⟩:=hcut
           cases kq with
           | zero => exact absurd HA.out (by simp [tachographref10_Parse.j3])
           | succ kj30 =>
            have H:=HA.out
            clear HA
            simp only [tachographref10_Parse.j3] at H
            by_cases c48 : x52_30 = true
            ·subst c48
             have H1 : ((tachographref10_bad.f 6 x4_1 1).bind fun bt213 => (some (bt213.1,bt213.2.1,bt213.2.2.1,bt213.2.2.2))) = some (r1,r2,r3,r4):=by rw [if_pos rfl] at H;exact H
             clear H
             have H:=H1
             clear H1
             replace H:=Option.bind_eq_some_iff.mp H
             obtain ⟨⟨t213,t216,t217,t218⟩,A490,H⟩:=H
             replace H : (some (t213,t216,t217,t218)) = some (r1,r2,r3,r4):=H
             have A49:=Aside0.mk A490
             clear A490
             simp only [Option.some.injEq,Prod.mk.injEq] at H
             obtain ⟨rfl,rfl,rfl,rfl⟩:=H
             go_wp2_with (first | ((with_reducible refine gate_callee (f:=20) rfl ?_);refine goesL_ (some 54) rfl rfl Tryd.func20 (by kernel_rfl) rfl #[.int .i64 6,.int .i64 x4_1,.int .i64 1] rfl (by (try simp only [List.map_toArray,List.map_cons,List.map_nil]);first | done | rfl | (simp only [List.length_drop,List.length_take];rfl)) ?_;(with_reducible refine (tachographref10_bad.calls 6 x4_1 1 t213 t216 t217 t218 _ A49.out).mono ?_);rintro e w50 ⟨v214,rfl,ho0,hb⟩;refine ⟨_,rfl,?_⟩;have n0_:=Aside0.mk (Kd.S_elder' (by (with_reducible repeat (first | apply Kd.S_alloc | apply Kd.S_drewN | apply Kd.S_drew));exact HO_194000.out) (Kd.S_base ho0) hb);have n1_:=Aside0.mk (Kd.R_below (by (with_reducible repeat (first | apply Kd.R_alloc | apply Kd.R_drewN | apply Kd.R_drew));exact HO_200001.out) hb);have n2_:=Aside0.mk (Kd.S_lower (Kd.S_newB (Kd.S_new' (Kd.S_new' ho0 (Kd.S_lt (by (with_reducible repeat (first | apply Kd.S_alloc | apply Kd.S_drewN | apply Kd.S_drew));exact HO_194000.out))) (Kd.R_lt (by (with_reducible repeat (first | apply Kd.R_alloc | apply Kd.R_drewN | apply Kd.R_drew));exact HO_200001.out))) (g:=gb199) (o:=.cells #[.string t194,.slice Ao37 t195.length co37] 41 (0,0)) (by (with_reducible repeat (first | refine blk_drewN ?_ _ | refine blk_drew ?_ | refine blk_alloc ?_ _));exact BK199.out)) (below_size (by repeat (first | (with_reducible first | exact HB.out | apply below_alloc | apply pw_below_drewN | apply below_drew1 | refine below_set ?_ GE192.out | refine below_set ?_ GE193.out | refine below_set ?_ GE199.out) | exact HB.out))));have n3_:=Aside0.mk (blk_below (g:=gb192) (o:=.cells #[.slice none 0 0,.int .i64 x193001_1,.int .i64 x193002_1,.int .i64 x193003_1] 31 (0,0)) (by (with_reducible repeat (first | refine blk_drewN ?_ _ | refine blk_drew ?_ | refine blk_alloc ?_ _));exact BK192.out) hb);have n4_:=Aside0.mk (blk_below (g:=gb193) (o:=.cells #[.slice Ao40 x194000_1.length co40,.int .i64 0,.int .i64 0,.int .i64 0] 31 (0,0)) (by (with_reducible repeat (first | refine blk_drewN ?_ _ | refine blk_drew ?_ | refine blk_alloc ?_ _));exact BK193.out) hb);have n5_:=Aside0.mk (blk_below (g:=gb199) (o:=.cells #[.string t194,.slice Ao37 t195.length co37] 41 (0,0)) (by (with_reducible repeat (first | refine blk_drewN ?_ _ | refine blk_drew ?_ | refine blk_alloc ?_ _));exact BK199.out) hb);have n6_:=Aside0.mk (below_step (by repeat (first | (with_reducible first | exact HB.out | apply below_alloc | apply pw_below_drewN | apply below_drew1 | refine below_set ?_ GE192.out | refine below_set ?_ GE193.out | refine below_set ?_ GE199.out) | exact HB.out)) hb);clear HO_194000;clear HO_200001;clear BK192;clear BK193;clear BK199;clear HB;have HO_194000:=n0_;have HO_200001:=n1_;have HO215:=n2_;have BK192:=n3_;have BK193:=n4_;have BK199:=n5_;have HB:=n6_;clear n0_ n1_ n2_ n3_ n4_ n5_ n6_;(try clear hb);(try clear hb2);(try clear hk);(try clear hi);(try clear ho0);obtain ⟨Ao51,co51,eo51⟩:=Kd.S_slice HO215.out;subst eo51;have hnb52:=NB192_193.out;have hnc52:=NB193_192.out;have hnb53:=NB192_199.out;have hnc53:=NB199_192.out;have hcz54_0 : w50.cell? ⟨gb192,0,none⟩ = some (.slice none 0 0):=(blk_cell BK192.out 0).trans rfl;have hcz54_1 : w50.cell? ⟨gb192,1,none⟩ = some (.int .i64 x193001_1):=(blk_cell BK192.out 1).trans rfl;have hcz54_2 : w50.cell? ⟨gb192,2,none⟩ = some (.int .i64 x193002_1):=(blk_cell BK192.out 2).trans rfl;have hcz54_3 : w50.cell? ⟨gb192,3,none⟩ = some (.int .i64 x193003_1):=(blk_cell BK192.out 3).trans rfl;have hfz54_0:=blk_frozen BK192.out 0;have hfz54_1:=blk_frozen BK192.out 1;have hfz54_2:=blk_frozen BK192.out 2;have hfz54_3:=blk_frozen BK192.out 3))
             refine bodyPost_ret (results_cell_row rfl _ _ gb192 31 #[.slice Ao51 t213.length co51,.int .i64 t216,.int .i64 t217,.int .i64 t218] (0,0) _ rfl (by (with_reducible repeat (first | refine blk_drewN ?_ _ | refine blk_drew ?_ | refine blk_alloc ?_ _));refine blk_put (cs:=#[.slice Ao51 t213.length co51,.int .i64 t216,.int .i64 t217,.int .i64 x193003_1]) ?_ 3 _ rfl;(with_reducible repeat (first | refine blk_drewN ?_ _ | refine blk_drew ?_ | refine blk_alloc ?_ _));refine blk_put (cs:=#[.slice Ao51 t213.length co51,.int .i64 t216,.int .i64 x193002_1,.int .i64 x193003_1]) ?_ 2 _ rfl;(with_reducible repeat (first | refine blk_drewN ?_ _ | refine blk_drew ?_ | refine blk_alloc ?_ _));refine blk_put (cs:=#[.slice Ao51 t213.length co51,.int .i64 x193001_1,.int .i64 x193002_1,.int .i64 x193003_1]) ?_ 1 _ rfl;(with_reducible repeat (first | refine blk_drewN ?_ _ | refine blk_drew ?_ | refine blk_alloc ?_ _));refine blk_put (cs:=#[.slice none 0 0,.int .i64 x193001_1,.int .i64 x193002_1,.int .i64 x193003_1]) ?_ 0 _ rfl;(with_reducible repeat (first | refine blk_drewN ?_ _ | refine blk_drew ?_ | refine blk_alloc ?_ _));exact BK192.out) Tryd.underlying31 rfl (by kernel_rfl)) rfl ?_
             exact ⟨_,by first | rfl | (simp [errW_none,errW_some] <;> rfl) | (simp [*,errW_none,errW_some] <;> rfl),by (with_reducible repeat (first | apply Kd.S_alloc | apply Kd.S_drewN | apply Kd.S_drew));exact Kd.S_mono (Kd.S_far (p:=⟨gb192,3,none⟩) (Kd.S_far (p:=⟨gb192,2,none⟩) (Kd.S_far (p:=⟨gb192,1,none⟩) (Kd.S_far (p:=⟨gb192,0,none⟩) (Kd.S_types HO215.out BK192.out (by decide)) (fun _ hk => hk.2) (.slice Ao51 t213.length co51)) (fun _ hk => hk.2) (.int .i64 t216)) (fun _ hk => hk.2) (.int .i64 t217)) (fun _ hk => hk.2) (.int .i64 t218)) (fun _ hk => trivial),by repeat (first | (with_reducible first | exact HB.out | apply below_alloc | apply pw_below_drewN | apply below_drew1 | refine below_set ?_ GE192.out | refine below_set ?_ GE193.out | refine below_set ?_ GE199.out) | exact HB.out)⟩
            ·replace c48:=Bool.eq_false_iff.mpr c48
             subst c48
             have H1 : (if x5_6 = (x0_1.size : Int) then ((tachographref10_bad.f 4 x4_1 (wrap64 (x5_6 + 1))).bind fun bt219 => (some (bt219.1,bt219.2.1,bt219.2.2.1,bt219.2.2.2))) else (if x194000_1.length < 3518437208883 then (if 0 ≤ (wrap64 (x5_6 + 1)) then (if (wrap64 (x5_6 + 1)) ≤ (x0_1.size : Int) then (tachographref10_Parse.l0 kj30 (x0_1.extract ((wrap64 (x5_6 + 1)) : Int).toNat x0_1.size) (wrap64 (x4_1 + 1)) (x194000_1 ++ [(⟨t194,t195⟩ : S41)]) 0 0 0) else (none)) else (none)) else (none))) = some (r1,r2,r3,r4):=by rw [if_neg (show ¬ (false = true) by decide)] at H;exact H
             clear H
             have H:=H1
             clear H1
             by_cases c55 : x5_6 = (x0_1.size : Int)
             ·rw [if_pos c55] at H
              have c55b0 : (x5_6 == (x0_1.size : Int)) = true:=beq_iff_eq.mpr c55
              have c55b1 : (x5_6 != (x0_1.size : Int)) = false:=bne_eq_false_iff_eq.mpr c55
              clear c55
              replace H:=Option.bind_eq_some_iff.mp H
              obtain ⟨⟨t219,t222,t223,t224⟩,A560,H⟩:=H
              replace H : (some (t219,t222,t223,t224)) = some (r1,r2,r3,r4):=H
              have A56:=Aside0.mk A560
              clear A560
              simp only [Option.some.injEq,Prod.mk.injEq] at H
              obtain ⟨rfl,rfl,rfl,rfl⟩:=H
              go_wp2_with (first | ((with_reducible refine gate_callee (f:=20) rfl ?_);refine goesL_ (some 62) rfl rfl Tryd.func20 (by kernel_rfl) rfl #[.int .i64 4,.int .i64 x4_1,.int .i64 (wrap64 (x5_6 + 1))] rfl (by (try simp only [List.map_toArray,List.map_cons,List.map_nil]);first | done | rfl | (simp only [List.length_drop,List.length_take];rfl)) ?_;(with_reducible refine (tachographref10_bad.calls 4 x4_1 (wrap64 (x5_6 + 1)) t219 t222 t223 t224 _ A56.out).mono ?_);rintro e w57 ⟨v220,rfl,ho0,hb⟩;refine ⟨_,rfl,?_⟩;have n0_:=Aside0.mk (Kd.S_elder' (by (with_reducible repeat (first | apply Kd.S_alloc | apply Kd.S_drewN | apply Kd.S_drew));exact HO_194000.out) (Kd.S_base ho0) hb);have n1_:=Aside0.mk (Kd.R_below (by (with_reducible repeat (first | apply Kd.R_alloc | apply Kd.R_drewN | apply Kd.R_drew));exact HO_200001.out) hb);have n2_:=Aside0.mk (Kd.S_lower (Kd.S_newB (Kd.S_new' (Kd.S_new' ho0 (Kd.S_lt (by (with_reducible repeat (first | apply Kd.S_alloc | apply Kd.S_drewN | apply Kd.S_drew));exact HO_194000.out))) (Kd.R_lt (by (with_reducible repeat (first | apply Kd.R_alloc | apply Kd.R_drewN | apply Kd.R_drew));exact HO_200001.out))) (g:=gb199) (o:=.cells #[.string t194,.slice Ao37 t195.length co37] 41 (0,0)) (by (with_reducible repeat (first | refine blk_drewN ?_ _ | refine blk_drew ?_ | refine blk_alloc ?_ _));exact BK199.out)) (below_size (by repeat (first | (with_reducible first | exact HB.out | apply below_alloc | apply pw_below_drewN | apply below_drew1 | refine below_set ?_ GE192.out | refine below_set ?_ GE193.out | refine below_set ?_ GE199.out) | exact HB.out))));have n3_:=Aside0.mk (blk_below (g:=gb192) (o:=.cells #[.slice none 0 0,.int .i64 x193001_1,.int .i64 x193002_1,.int .i64 x193003_1] 31 (0,0)) (by (with_reducible repeat (first | refine blk_drewN ?_ _ | refine blk_drew ?_ | refine blk_alloc ?_ _));exact BK192.out) hb);have n4_:=Aside0.mk (blk_below (g:=gb193) (o:=.cells #[.slice Ao40 x194000_1.length co40,.int .i64 0,.int .i64 0,.int .i64 0] 31 (0,0)) (by (with_reducible repeat (first | refine blk_drewN ?_ _ | refine blk_drew ?_ | refine blk_alloc ?_ _));exact BK193.out) hb);have n5_:=Aside0.mk (blk_below (g:=gb199) (o:=.cells #[.string t194,.slice Ao37 t195.length co37] 41 (0,0)) (by (with_reducible repeat (first | refine blk_drewN ?_ _ | refine blk_drew ?_ | refine blk_alloc ?_ _));exact BK199.out) hb);have n6_:=Aside0.mk (below_step (by repeat (first | (with_reducible first | exact HB.out | apply below_alloc | apply pw_below_drewN | apply below_drew1 | refine below_set ?_ GE192.out | refine below_set ?_ GE193.out | refine below_set ?_ GE199.out) | exact HB.out)) hb);clear HO_194000;clear HO_200001;clear BK192;clear BK193;clear BK199;clear HB;have HO_194000:=n0_;have HO_200001:=n1_;have HO221:=n2_;have BK192:=n3_;have BK193:=n4_;have BK199:=n5_;have HB:=n6_;clear n0_ n1_ n2_ n3_ n4_ n5_ n6_;(try clear hb);(try clear hb2);(try clear hk);(try clear hi);(try clear ho0);obtain ⟨Ao58,co58,eo58⟩:=Kd.S_slice HO221.out;subst eo58;have hnb59:=NB192_193.out;have hnc59:=NB193_192.out;have hnb60:=NB192_199.out;have hnc60:=NB199_192.out;have hcz61_0 : w57.cell? ⟨gb192,0,none⟩ = some (.slice none 0 0):=(blk_cell BK192.out 0).trans rfl;have hcz61_1 : w57.cell? ⟨gb192,1,none⟩ = some (.int .i64 x193001_1):=(blk_cell BK192.out 1).trans rfl;have hcz61_2 : w57.cell? ⟨gb192,2,none⟩ = some (.int .i64 x193002_1):=(blk_cell BK192.out 2).trans rfl;have hcz61_3 : w57.cell? ⟨gb192,3,none⟩ = some (.int .i64 x193003_1):=(blk_cell BK192.out 3).trans rfl;have hfz61_0:=blk_frozen BK192.out 0;have hfz61_1:=blk_frozen BK192.out 1;have hfz61_2:=blk_frozen BK192.out 2;have hfz61_3:=blk_frozen BK192.out 3))
              refine bodyPost_ret (results_cell_row rfl _ _ gb192 31 #[.slice Ao58 t219.length co58,.int .i64 t222,.int .i64 t223,.int .i64 t224] (0,0) _ rfl (by (with_reducible repeat (first | refine blk_drewN ?_ _ | refine blk_drew ?_ | refine blk_alloc ?_ _));refine blk_put (cs:=#[.slice Ao58 t219.length co58,.int .i64 t222,.int .i64 t223,.int .i64 x193003_1]) ?_ 3 _ rfl;(with_reducible repeat (first | refine blk_drewN ?_ _ | refine blk_drew ?_ | refine blk_alloc ?_ _));refine blk_put (cs:=#[.slice Ao58 t219.length co58,.int .i64 t222,.int .i64 x193002_1,.int .i64 x193003_1]) ?_ 2 _ rfl;(with_reducible repeat (first | refine blk_drewN ?_ _ | refine blk_drew ?_ | refine blk_alloc ?_ _));refine blk_put (cs:=#[.slice Ao58 t219.length co58,.int .i64 x193001_1,.int .i64 x193002_1,.int .i64 x193003_1]) ?_ 1 _ rfl;(with_reducible repeat (first | refine blk_drewN ?_ _ | refine blk_drew ?_ | refine blk_alloc ?_ _));refine blk_put (cs:=#[.slice none 0 0,.int .i64 x193001_1,.int .i64 x193002_1,.int .i64 x193003_1]) ?_ 0 _ rfl;(with_reducible repeat (first | refine blk_drewN ?_ _ | refine blk_drew ?_ | refine blk_alloc ?_ _));exact BK192.out) Tryd.underlying31 rfl (by kernel_rfl)) rfl ?_
              exact ⟨_,by first | rfl | (simp [errW_none,errW_some] <;> rfl) | (simp [*,errW_none,errW_some] <;> rfl),by (with_reducible repeat (first | apply Kd.S_alloc | apply Kd.S_drewN | apply Kd.S_drew));exact Kd.S_mono (Kd.S_far (p:=⟨gb192,3,none⟩) (Kd.S_far (p:=⟨gb192,2,none⟩) (Kd.S_far (p:=⟨gb192,1,none⟩) (Kd.S_far (p:=⟨gb192,0,none⟩) (Kd.S_types HO221.out BK192.out (by decide)) (fun _ hk => hk.2) (.slice Ao58 t219.length co58)) (fun _ hk => hk.2) (.int .i64 t222)) (fun _ hk => hk.2) (.int .i64 t223)) (fun _ hk => hk.2) (.int .i64 t224)) (fun _ hk => trivial),by repeat (first | (with_reducible first | exact HB.out | apply below_alloc | apply pw_below_drewN | apply below_drew1 | refine below_set ?_ GE192.out | refine below_set ?_ GE193.out | refine below_set ?_ GE199.out) | exact HB.out)⟩
             ·rw [if_neg c55] at H
              have c55b0 : (x5_6 == (x0_1.size : Int)) = false:=beq_eq_false_iff_ne.mpr c55
              have c55b1 : (x5_6 != (x0_1.size : Int)) = true:=bne_iff_ne.mpr c55
              by_cases c62 : x194000_1.length < 3518437208883
              ·rw [if_pos c62] at H
               have LMc62:=Aside0.mk c62
               clear c62
               obtain ⟨y225,hy225⟩ : ∃ y_ : List (S41),y_ = (x194000_1 ++ [(⟨t194,t195⟩ : S41)]):=⟨_,rfl⟩
               replace H : (if 0 ≤ (wrap64 (x5_6 + 1)) then (if (wrap64 (x5_6 + 1)) ≤ (x0_1.size : Int) then (tachographref10_Parse.l0 kj30 (x0_1.extract ((wrap64 (x5_6 + 1)) : Int).toNat x0_1.size) (wrap64 (x4_1 + 1)) y225 0 0 0) else (none)) else (none)) = some (r1,r2,r3,r4):=by first | (rw [hy225];with_reducible exact H) | (have H2_:=(Option.bind_some _ _).symm.trans H;rw [hy225];with_reducible exact H2_) | (have H2_:=(Option.bind_some _ _).symm.trans H;with_reducible exact H2_) | with_reducible exact H | (rw [hy225];exact H) | exact H
               have Ny225:=Aside0.mk hy225
               clear hy225
               obtain ⟨ji63,hji63⟩ : ∃ j_ : Int,(wrap64 (x5_6 + 1)) = j_:=⟨_,rfl⟩
               replace H : (if 0 ≤ (ji63) then (if (ji63) ≤ (x0_1.size : Int) then (tachographref10_Parse.l0 kj30 (x0_1.extract ((ji63) : Int).toNat x0_1.size) (wrap64 (x4_1 + 1)) y225 0 0 0) else (none)) else (none)) = some (r1,r2,r3,r4):=by first | (rw [hji63] at H;exact H) | (simp only [hji63] at H ⊢;exact H)
               have hji63w : (IntKind.i64.wrap (x5_6 + 1)) = ji63:=(i64_w _).trans hji63
               by_cases c64 : 0 ≤ (ji63)
               ·rw [if_pos c64] at H
                have c64b0:=eq_true c64
                have c64b1 : decide (0 ≤ (ji63)) = true:=decide_eq_true c64
                clear c64
                by_cases c65 : (ji63) ≤ (x0_1.size : Int)
                ·rw [if_pos c65] at H
                 have c65b0:=eq_true c65
                 have c65b1 : decide ((ji63) ≤ (x0_1.size : Int)) = true:=decide_eq_true c65
                 clear c65
                 have H':=Aside0.mk H
                 clear H
                 have hnb66:=NB193_192.out
                 have hnc66:=NB192_193.out
                 have hnb67:=NB193_199.out
                 have hnc67:=NB199_193.out
                 have hcz68_0 : wc.cell? ⟨gb193,0,none⟩ = some (.slice Ao40 x194000_1.length co40):=(blk_cell BK193.out 0).trans rfl
                 have hcz68_1 : wc.cell? ⟨gb193,1,none⟩ = some (.int .i64 0):=(blk_cell BK193.out 1).trans rfl
                 have hcz68_2 : wc.cell? ⟨gb193,2,none⟩ = some (.int .i64 0):=(blk_cell BK193.out 2).trans rfl
                 have hcz68_3 : wc.cell? ⟨gb193,3,none⟩ = some (.int .i64 0):=(blk_cell BK193.out 3).trans rfl
                 have hfz68_0:=blk_frozen BK193.out 0
                 have hfz68_1:=blk_frozen BK193.out 1
                 have hfz68_2:=blk_frozen BK193.out 2
                 have hfz68_3:=blk_frozen BK193.out 3
                 have hnb69:=NB199_192.out
                 have hnc69:=NB192_199.out
                 have hcz70_0 : wc.cell? ⟨gb199,0,none⟩ = some (.string t194):=(blk_cell BK199.out 0).trans rfl
                 have hcz70_1 : wc.cell? ⟨gb199,1,none⟩ = some (.slice Ao37 t195.length co37):=(blk_cell BK199.out 1).trans rfl
                 have hfz70_0:=blk_frozen BK199.out 0
                 have hfz70_1:=blk_frozen BK199.out 1
                 go_wp2_with (first | ((with_reducible refine gate_builtin (b:=.append) (xs:=#[.tmp 64,.tmp 66]) rfl ?_);at_builtin;refine Kd.S_append k41 (w0:=w) w.heap.size rfl (.tmp 64) (.tmp 66) 23 41 (.agg #[(.string ⟨#[]⟩),(.slice none 0 0)]) 40 rfl Tryd.underlying23 info41 rfl (by decide) (by omega) (.slice Ao40 x194000_1.length co40) x194000_1 (⟨t194,t195⟩ : S41) [.string t194,.slice Ao37 t195.length co37] (fun k_ => k_ ≠ gb199) (fun k_ => some k_ = (.slice Ao37 t195.length co37 : Value).ownBlock) rfl rfl ?aP (fun k_ hk_ => ((Kd.R_mono (ok':=fun k_ => ((fun k_ => k_ ≠ gb199)) k_ ∧ some k_ ≠ (.slice Ao40 x194000_1.length co40 : Value).ownBlock) (Kd.R_types (Kd.R_apart' (HO_200001.out) (Kd.S_typed HO_194000.out) (by decide)) BK199.out (by decide)) (fun k_ hk => ⟨hk.2,hk.1.2⟩))).1 k_ hk_.symm) ?aF ?aO ?aB ?aS ?aL ?_;(case aP => exact k41_mkM _ _ _ (⟨t194,t195⟩ : S41) (Kd.R_mono (Kd.R_tight rfl (Kd.R_mono (ok':=fun k_ => ((fun k_ => k_ ≠ gb199)) k_ ∧ some k_ ≠ (.slice Ao40 x194000_1.length co40 : Value).ownBlock) (Kd.R_types (Kd.R_apart' (HO_200001.out) (Kd.S_typed HO_194000.out) (by decide)) BK199.out (by decide)) (fun k_ hk => ⟨hk.2,hk.1.2⟩))) (fun _ h_ => h_)));(case aB => exact (by repeat (first | (with_reducible first | exact HB.out | apply below_alloc | apply pw_below_drewN | apply below_drew1 | refine below_set ?_ GE192.out | refine below_set ?_ GE193.out | refine below_set ?_ GE199.out) | exact HB.out)));(case aF => exact (fun k_ hk => Kd.freshB (g:=gb199) (o:=.cells #[.string t194,.slice Ao37 t195.length co37] 41 (0,0)) (by (with_reducible repeat (first | refine blk_drewN ?_ _ | refine blk_drew ?_ | refine blk_alloc ?_ _));exact BK199.out) k_ hk));(case aO => exact (by (with_reducible repeat (first | apply Kd.S_alloc | apply Kd.S_drewN | apply Kd.S_drew));exact Kd.S_mono HO_194000.out (fun k_ hk => ⟨hk.2,fun e_ => hk.1 e_⟩)));(case aS => exact (below_size (by repeat (first | (with_reducible first | exact HB.out | apply below_alloc | apply pw_below_drewN | apply below_drew1 | refine below_set ?_ GE192.out | refine below_set ?_ GE193.out | refine below_set ?_ GE199.out) | exact HB.out))));(case aL => have:=LMc62.out;omega);intro v226 w71 ho hb hg hat;rw [← Ny225.out] at ho;have n0_:=Aside0.mk (blk_grown (g:=gb192) (o:=.cells #[.slice none 0 0,.int .i64 x193001_1,.int .i64 x193002_1,.int .i64 x193003_1] 31 (0,0)) (by (with_reducible repeat (first | refine blk_drewN ?_ _ | refine blk_drew ?_ | refine blk_alloc ?_ _));exact BK192.out) hg (Kd.S_ne HO_194000.out BK192.out (by decide)));have n1_:=Aside0.mk (blk_grown (g:=gb193) (o:=.cells #[.slice Ao40 x194000_1.length co40,.int .i64 0,.int .i64 0,.int .i64 0] 31 (0,0)) (by (with_reducible repeat (first | refine blk_drewN ?_ _ | refine blk_drew ?_ | refine blk_alloc ?_ _));exact BK193.out) hg (Kd.S_ne HO_194000.out BK193.out (by decide)));have n2_:=Aside0.mk (blk_grown (g:=gb199) (o:=.cells #[.string t194,.slice Ao37 t195.length co37] 41 (0,0)) (by (with_reducible repeat (first | refine blk_drewN ?_ _ | refine blk_drew ?_ | refine blk_alloc ?_ _));exact BK199.out) hg (Kd.S_away HO_194000.out (fun _ hk => hk.2)));have n3_:=Aside0.mk (hb);have n4_:=Aside0.mk (ho);clear BK192;clear BK193;clear BK199;clear HB;clear HO_194000;clear HO_200001;have BK192:=n0_;have BK193:=n1_;have BK199:=n2_;have HB:=n3_;have HO227:=n4_;clear n0_ n1_ n2_ n3_ n4_;clear ho hb hg hat;obtain ⟨Ao72,co72,eo72⟩:=Kd.S_slice HO227.out;subst eo72;have hcz73_0 : w71.cell? ⟨gb193,0,none⟩ = some (.slice Ao40 x194000_1.length co40):=(blk_cell BK193.out 0).trans rfl;have hcz73_1 : w71.cell? ⟨gb193,1,none⟩ = some (.int .i64 0):=(blk_cell BK193.out 1).trans rfl;have hcz73_2 : w71.cell? ⟨gb193,2,none⟩ = some (.int .i64 0):=(blk_cell BK193.out 2).trans rfl;have hcz73_3 : w71.cell? ⟨gb193,3,none⟩ = some (.int .i64 0):=(blk_cell BK193.out 3).trans rfl;have hfz73_0:=blk_frozen BK193.out 0;have hfz73_1:=blk_frozen BK193.out 1;have hfz73_2:=blk_frozen BK193.out 2;have hfz73_3:=blk_frozen BK193.out 3))
                 go_roundg kj30
                 case measure => have:=HK1.out;have:=HJ6.out;have:=HJ30.out;omega
                 case rel => exact ⟨(x0_1.extract ((ji63) : Int).toNat x0_1.size),(wrap64 (x4_1 + 1)),(x193001_1),(x193002_1),(x193003_1),(y225),(.slice Ao72 y225.length co72),(by first | rfl | (simp;done) | (simp only [← hji63] <;> (first | rfl | simp)) | (simp [*];done)),(by first | rfl | (simp;done) | (simp [*];done)),H',⟨by have:=HK1.out;have:=HJ6.out;have:=HJ30.out;omega⟩,⟨by (with_reducible repeat (first | apply Kd.S_alloc | apply Kd.S_drewN | apply Kd.S_drew));exact Kd.S_mono (Kd.S_far (p:=⟨gb193,0,none⟩) (Kd.S_types HO227.out BK193.out (by decide)) (fun _ hk => hk.2) (.slice Ao72 y225.length co72)) (fun _ hk => trivial)⟩,⟨by (with_reducible repeat (first | refine blk_drewN ?_ _ | refine blk_drew ?_ | refine blk_alloc ?_ _));refine blk_far ?_ NB192_193.out _;(with_reducible repeat (first | refine blk_drewN ?_ _ | refine blk_drew ?_ | refine blk_alloc ?_ _));exact BK192.out⟩,⟨by (with_reducible repeat (first | refine blk_drewN ?_ _ | refine blk_drew ?_ | refine blk_alloc ?_ _));refine blk_put (cs:=#[.slice Ao40 x194000_1.length co40,.int .i64 0,.int .i64 0,.int .i64 0]) ?_ 0 _ rfl;(with_reducible repeat (first | refine blk_drewN ?_ _ | refine blk_drew ?_ | refine blk_alloc ?_ _));exact BK193.out⟩,⟨by repeat (first | (with_reducible first | exact HB.out | apply below_alloc | apply pw_below_drewN | apply below_drew1 | refine below_set ?_ GE192.out | refine below_set ?_ GE193.out | refine below_set ?_ GE199.out) | exact HB.out)⟩⟩
                ·rw [if_neg c65] at H
                 exact absurd H (by simp)
               ·rw [if_neg c64] at H
                exact absurd H (by simp)
              ·rw [if_neg c62] at H
               exact absurd H (by simp)
        ·replace c15:=Bool.eq_false_iff.mpr c15
         subst c15
         have H1 : ((tachographref10_bad.f 4 x4_1 1).bind fun bt200 => (some (bt200.1,bt200.2.1,bt200.2.2.1,bt200.2.2.2))) = some (r1,r2,r3,r4):=by rw [if_neg (show ¬ (false = true) by decide)] at H;exact H
         clear H
         have H:=H1
         clear H1
         replace H:=Option.bind_eq_some_iff.mp H
         obtain ⟨⟨t200,t203,t204,t205⟩,A740,H⟩:=H
         replace H : (some (t200,t203,t204,t205)) = some (r1,r2,r3,r4):=H
         have A74:=Aside0.mk A740
         clear A740
         simp only [Option.some.injEq,Prod.mk.injEq] at H
         obtain ⟨rfl,rfl,rfl,rfl⟩:=H
         go_wp2_with (first | ((with_reducible refine gate_callee (f:=19) rfl ?_);refine goesL_ (some 30) rfl rfl Tryd.func19 (by kernel_rfl) rfl #[.string (x0_1.extract 0 (x5_6 : Int).toNat)] rfl (by (try simp only [List.map_toArray,List.map_cons,List.map_nil]);first | done | rfl | (simp only [List.length_drop,List.length_take];rfl)) ?_;(with_reducible refine (tachographref10_Pred.calls kj6 (x0_1.extract 0 (x5_6 : Int).toNat) t194 t195 false _ A14.out).mono ?_);rintro e w75 ⟨v196,rfl,ho0,hb⟩;refine ⟨_,rfl,?_⟩;have n0_:=Aside0.mk (Kd.S_elder' (by (with_reducible repeat (first | apply Kd.S_alloc | apply Kd.S_drewN | apply Kd.S_drew));exact HO_194000.out) (Kd.R_base ho0) hb);have n1_:=Aside0.mk (Kd.R_lower ho0 (below_size (by repeat (first | (with_reducible first | exact HB.out | apply below_alloc | apply pw_below_drewN | apply below_drew1 | refine below_set ?_ GE192.out | refine below_set ?_ GE193.out) | exact HB.out))));have n2_:=Aside0.mk (blk_below (g:=gb192) (o:=.cells #[.slice none 0 0,.int .i64 x193001_1,.int .i64 x193002_1,.int .i64 x193003_1] 31 (0,0)) (by (with_reducible repeat (first | refine blk_drewN ?_ _ | refine blk_drew ?_ | refine blk_alloc ?_ _));exact BK192.out) hb);have n3_:=Aside0.mk (blk_below (g:=gb193) (o:=.cells #[u194000,.int .i64 0,.int .i64 0,.int .i64 0] 31 (0,0)) (by (with_reducible repeat (first | refine blk_drewN ?_ _ | refine blk_drew ?_ | refine blk_alloc ?_ _));exact BK193.out) hb);have n4_:=Aside0.mk (below_step (by repeat (first | (with_reducible first | exact HB.out | apply below_alloc | apply pw_below_drewN | apply below_drew1 | refine below_set ?_ GE192.out | refine below_set ?_ GE193.out) | exact HB.out)) hb);clear HO_194000;clear BK192;clear BK193;clear HB;have HO_194000:=n0_;have HO197:=n1_;have BK192:=n2_;have BK193:=n3_;have HB:=n4_;clear n0_ n1_ n2_ n3_ n4_;(try clear hb);(try clear hb2);(try clear hk);(try clear hi);(try clear ho0)) | ((with_reducible refine gate_dst (N:=6) rfl ?_);refine box_event ?hg (N:=6) ?hd (cs:=#[.string (⟨#[]⟩ : ByteArray),.slice none 0 0]) (t:=41) ?hr ?_;(case hd => rfl);(case hg => rfl);(case hr => first | (go_simp;done) | (go_simp;rfl));intro gb199 hg w76 hbox hb;have n0_:=Aside0.mk (Kd.S_below (Kd.S_elderB (by (with_reducible repeat (first | apply Kd.S_alloc | apply Kd.S_drewN | apply Kd.S_drew));exact HO_194000.out) gb199 (Nat.le_of_eq hg.symm)) hb);have n1_:=Aside0.mk (Kd.R_below (by (with_reducible repeat (first | apply Kd.R_alloc | apply Kd.R_drewN | apply Kd.R_drew));exact HO197.out) hb);have n2_:=Aside0.mk (blk_below (g:=gb192) (o:=.cells #[.slice none 0 0,.int .i64 x193001_1,.int .i64 x193002_1,.int .i64 x193003_1] 31 (0,0)) (by (with_reducible repeat (first | refine blk_drewN ?_ _ | refine blk_drew ?_ | refine blk_alloc ?_ _));exact BK192.out) hb);have n3_:=Aside0.mk (blk_below (g:=gb193) (o:=.cells #[u194000,.int .i64 0,.int .i64 0,.int .i64 0] 31 (0,0)) (by (with_reducible repeat (first | refine blk_drewN ?_ _ | refine blk_drew ?_ | refine blk_alloc ?_ _));exact BK193.out) hb);have n4_:=Aside0.mk (below_step (by repeat (first | (with_reducible first | exact HB.out | apply below_alloc | apply pw_below_drewN | apply below_drew1 | refine below_set ?_ GE192.out | refine below_set ?_ GE193.out) | exact HB.out)) hb);have n5_:=Aside0.mk (hbox);have n6_:=Aside0.mk ((by rw [hg];exact (below_size (by repeat (first | (with_reducible first | exact HB.out | apply below_alloc | apply pw_below_drewN | apply below_drew1 | refine below_set ?_ GE192.out | refine below_set ?_ GE193.out) | exact HB.out))) : w.heap.size ≤ gb199));have n7_:=Aside0.mk ((by rw [hg];exact (below_size (by repeat (first | (with_reducible first | exact HB.out | apply below_alloc | apply pw_below_drewN | apply below_drew1 | refine below_set ?_ GE192.out | refine below_set ?_ GE193.out) | exact HB.out))) : w.heap.size ≤ gb199));have n8_:=Aside0.mk ((by rw [hg];exact Nat.ne_of_lt (blk_lt (g:=gb192) (o:=.cells #[.slice none 0 0,.int .i64 x193001_1,.int .i64 x193002_1,.int .i64 x193003_1] 31 (0,0)) (by (with_reducible repeat (first | refine blk_drewN ?_ _ | refine blk_drew ?_ | refine blk_alloc ?_ _));exact BK192.out)) : gb192 ≠ gb199));have n9_:=Aside0.mk ((by rw [hg];exact Nat.ne_of_gt (blk_lt (g:=gb192) (o:=.cells #[.slice none 0 0,.int .i64 x193001_1,.int .i64 x193002_1,.int .i64 x193003_1] 31 (0,0)) (by (with_reducible repeat (first | refine blk_drewN ?_ _ | refine blk_drew ?_ | refine blk_alloc ?_ _));exact BK192.out)) : gb199 ≠ gb192));have n10_:=Aside0.mk ((by rw [hg];exact Nat.ne_of_lt (blk_lt (g:=gb193) (o:=.cells #[u194000,.int .i64 0,.int .i64 0,.int .i64 0] 31 (0,0)) (by (with_reducible repeat (first | refine blk_drewN ?_ _ | refine blk_drew ?_ | refine blk_alloc ?_ _));exact BK193.out)) : gb193 ≠ gb199));have n11_:=Aside0.mk ((by rw [hg];exact Nat.ne_of_gt (blk_lt (g:=gb193) (o:=.cells #[u194000,.int .i64 0,.int .i64 0,.int .i64 0] 31 (0,0)) (by (with_reducible repeat (first | refine blk_drewN ?_ _ | refine blk_drew ?_ | refine blk_alloc ?_ _));exact BK193.out)) : gb199 ≠ gb193));clear HO_194000;clear HO197;clear BK192;clear BK193;clear HB;have HO_194000:=n0_;have HO197:=n1_;have BK192:=n2_;have BK193:=n3_;have HB:=n4_;have BK199:=n5_;have GW199:=n6_;have GE199:=n7_;have NB192_199:=n8_;have NB199_192:=n9_;have NB193_199:=n10_;have NB199_193:=n11_;clear n0_ n1_ n2_ n3_ n4_ n5_ n6_ n7_ n8_ n9_ n10_ n11_;clear hb hbox hg;have hnb77:=NB199_192.out;have hnc77:=NB192_199.out;have hnb78:=NB199_193.out;have hnc78:=NB193_199.out;have hcz79_0 : w76.cell? ⟨gb199,0,none⟩ = some (.string (⟨#[]⟩ : ByteArray)):=(blk_cell BK199.out 0).trans rfl;have hcz79_1 : w76.cell? ⟨gb199,1,none⟩ = some (.slice none 0 0):=(blk_cell BK199.out 1).trans rfl;have hfz79_0:=blk_frozen BK199.out 0;have hfz79_1:=blk_frozen BK199.out 1;obtain ⟨Ao80,co80,eo80⟩:=Kd.R_slice HO197.out;subst eo80) | ((with_reducible refine gate_callee (f:=20) rfl ?_);refine goesL_ (some 36) rfl rfl Tryd.func20 (by kernel_rfl) rfl #[.int .i64 4,.int .i64 x4_1,.int .i64 1] rfl (by (try simp only [List.map_toArray,List.map_cons,List.map_nil]);first | done | rfl | (simp only [List.length_drop,List.length_take];rfl)) ?_;(with_reducible refine (tachographref10_bad.calls 4 x4_1 1 t200 t203 t204 t205 _ A74.out).mono ?_);rintro e w81 ⟨v201,rfl,ho0,hb⟩;refine ⟨_,rfl,?_⟩;have n0_:=Aside0.mk (Kd.S_elder' (by (with_reducible repeat (first | apply Kd.S_alloc | apply Kd.S_drewN | apply Kd.S_drew));exact (Kd.S_mono (Kd.S_far (p:=⟨gb199,1,none⟩) (Kd.S_far (p:=⟨gb199,0,none⟩) (Kd.S_mono HO_194000.out (fun k_ hk => (⟨hk,hk.2⟩ : _ ∧ k_ ≠ gb199))) (fun _ hk => hk.2) (.string t194)) (fun _ hk => hk.2) (.slice Ao80 t195.length co80)) (fun _ h_ => h_.1))) (Kd.S_base ho0) hb);have n1_:=Aside0.mk (Kd.R_below (by (with_reducible repeat (first | apply Kd.R_alloc | apply Kd.R_drewN | apply Kd.R_drew));exact (Kd.R_mono (Kd.R_far (p:=⟨gb199,1,none⟩) (Kd.R_far (p:=⟨gb199,0,none⟩) (Kd.R_types HO197.out BK199.out (by decide)) (fun _ hk => hk.2) (.string t194)) (fun _ hk => hk.2) (.slice Ao80 t195.length co80)) (fun _ h_ => h_.1))) hb);have n2_:=Aside0.mk (Kd.S_lower (Kd.S_newB (Kd.S_new' (Kd.S_new' ho0 (Kd.S_lt (by (with_reducible repeat (first | apply Kd.S_alloc | apply Kd.S_drewN | apply Kd.S_drew));exact (Kd.S_mono (Kd.S_far (p:=⟨gb199,1,none⟩) (Kd.S_far (p:=⟨gb199,0,none⟩) (Kd.S_mono HO_194000.out (fun k_ hk => (⟨hk,hk.2⟩ : _ ∧ k_ ≠ gb199))) (fun _ hk => hk.2) (.string t194)) (fun _ hk => hk.2) (.slice Ao80 t195.length co80)) (fun _ h_ => h_.1))))) (Kd.R_lt (by (with_reducible repeat (first | apply Kd.R_alloc | apply Kd.R_drewN | apply Kd.R_drew));exact (Kd.R_mono (Kd.R_far (p:=⟨gb199,1,none⟩) (Kd.R_far (p:=⟨gb199,0,none⟩) (Kd.R_types HO197.out BK199.out (by decide)) (fun _ hk => hk.2) (.string t194)) (fun _ hk => hk.2) (.slice Ao80 t195.length co80)) (fun _ h_ => h_.1))))) (g:=gb199) (o:=.cells #[.string t194,.slice Ao80 t195.length co80] 41 (0,0)) (by (with_reducible repeat (first | refine blk_drewN ?_ _ | refine blk_drew ?_ | refine blk_alloc ?_ _));refine blk_put (cs:=#[.string t194,.slice none 0 0]) ?_ 1 _ rfl;(with_reducible repeat (first | refine blk_drewN ?_ _ | refine blk_drew ?_ | refine blk_alloc ?_ _));refine blk_put (cs:=#[.string (⟨#[]⟩ : ByteArray),.slice none 0 0]) ?_ 0 _ rfl;(with_reducible repeat (first | refine blk_drewN ?_ _ | refine blk_drew ?_ | refine blk_alloc ?_ _));exact BK199.out)) (below_size (by repeat (first | (with_reducible first | exact HB.out | apply below_alloc | apply pw_below_drewN | apply below_drew1 | refine below_set ?_ GE192.out | refine below_set ?_ GE193.out | refine below_set ?_ GE199.out) | exact HB.out))));have n3_:=Aside0.mk (blk_below (g:=gb192) (o:=.cells #[.slice none 0 0,.int .i64 x193001_1,.int .i64 x193002_1,.int .i64 x193003_1] 31 (0,0)) (by (with_reducible repeat (first | refine blk_drewN ?_ _ | refine blk_drew ?_ | refine blk_alloc ?_ _));refine blk_far ?_ NB192_199.out _;(with_reducible repeat (first | refine blk_drewN ?_ _ | refine blk_drew ?_ | refine blk_alloc ?_ _));refine blk_far ?_ NB192_199.out _;(with_reducible repeat (first | refine blk_drewN ?_ _ | refine blk_drew ?_ | refine blk_alloc ?_ _));exact BK192.out) hb);have n4_:=Aside0.mk (blk_below (g:=gb193) (o:=.cells #[u194000,.int .i64 0,.int .i64 0,.int .i64 0] 31 (0,0)) (by (with_reducible repeat (first | refine blk_drewN ?_ _ | refine blk_drew ?_ | refine blk_alloc ?_ _));refine blk_far ?_ NB193_199.out _;(with_reducible repeat (first | refine blk_drewN ?_ _ | refine blk_drew ?_ | refine blk_alloc ?_ _));refine blk_far ?_ NB193_199.out _;(with_reducible repeat (first | refine blk_drewN ?_ _ | refine blk_drew ?_ | refine blk_alloc ?_ _));exact BK193.out) hb);have n5_:=Aside0.mk (blk_below (g:=gb199) (o:=.cells #[.string t194,.slice Ao80 t195.length co80] 41 (0,0)) (by (with_reducible repeat (first | refine blk_drewN ?_ _ | refine blk_drew ?_ | refine blk_alloc ?_ _));refine blk_put (cs:=#[.string t194,.slice none 0 0]) ?_ 1 _ rfl;(with_reducible repeat (first | refine blk_drewN ?_ _ | refine blk_drew ?_ | refine blk_alloc ?_ _));refine blk_put (cs:=#[.string (⟨#[]⟩ : ByteArray),.slice none 0 0]) ?_ 0 _ rfl;(with_reducible repeat (first | refine blk_drewN ?_ _ | refine blk_drew ?_ | refine blk_alloc ?_ _));exact BK199.out) hb);have n6_:=Aside0.mk (below_step (by repeat (first | (with_reducible first | exact HB.out | apply below_alloc | apply pw_below_drewN | apply below_drew1 | refine below_set ?_ GE192.out | refine below_set ?_ GE193.out | refine below_set ?_ GE199.out) | exact HB.out)) hb);clear HO_194000;clear HO197;clear BK192;clear BK193;clear BK199;clear HB;have HO_194000:=n0_;have HO197:=n1_;have HO202:=n2_;have BK192:=n3_;have BK193:=n4_;have BK199:=n5_;have HB:=n6_;clear n0_ n1_ n2_ n3_ n4_ n5_ n6_;(try clear hb);(try clear hb2);(try clear hk);(try clear hi);(try clear ho0);obtain ⟨Ao82,co82,eo82⟩:=Kd.S_slice HO202.out;subst eo82;have hnb83:=NB192_193.out;have hnc83:=NB193_192.out;have hcz84_0 : w81.cell? ⟨gb192,0,none⟩ = some (.slice none 0 0):=(blk_cell BK192.out 0).trans rfl;have hcz84_1 : w81.cell? ⟨gb192,1,none⟩ = some (.int .i64 x193001_1):=(blk_cell BK192.out 1).trans rfl;have hcz84_2 : w81.cell? ⟨gb192,2,none⟩ = some (.int .i64 x193002_1):=(blk_cell BK192.out 2).trans rfl;have hcz84_3 : w81.cell? ⟨gb192,3,none⟩ = some (.int .i64 x193003_1):=(blk_cell BK192.out 3).trans rfl;have hfz84_0:=blk_frozen BK192.out 0;have hfz84_1:=blk_frozen BK192.out 1;have hfz84_2:=blk_frozen BK192.out 2;have hfz84_3:=blk_frozen BK192.out 3))
         refine bodyPost_ret (results_cell_row rfl _ _ gb192 31 #[.slice Ao82 t200.length co82,.int .i64 t203,.int .i64 t204,.int .i64 t205] (0,0) _ rfl (by (with_reducible repeat (first | refine blk_drewN ?_ _ | refine blk_drew ?_ | refine blk_alloc ?_ _));refine blk_put (cs:=#[.slice Ao82 t200.length co82,.int .i64 t203,.int .i64 t204,.int .i64 x193003_1]) ?_ 3 _ rfl;(with_reducible repeat (first | refine blk_drewN ?_ _ | refine blk_drew ?_ | refine blk_alloc ?_ _));refine blk_put (cs:=#[.slice Ao82 t200.length co82,.int .i64 t203,.int .i64 x193002_1,.int .i64 x193003_1]) ?_ 2 _ rfl;(with_reducible repeat (first | refine blk_drewN ?_ _ | refine blk_drew ?_ | refine blk_alloc ?_ _));refine blk_put (cs:=#[.slice Ao82 t200.length co82,.int .i64 x193001_1,.int .i64 x193002_1,.int .i64 x193003_1]) ?_ 1 _ rfl;(with_reducible repeat (first | refine blk_drewN ?_ _ | refine blk_drew ?_ | refine blk_alloc ?_ _));refine blk_put (cs:=#[.slice none 0 0,.int .i64 x193001_1,.int .i64 x193002_1,.int .i64 x193003_1]) ?_ 0 _ rfl;(with_reducible repeat (first | refine blk_drewN ?_ _ | refine blk_drew ?_ | refine blk_alloc ?_ _));exact BK192.out) Tryd.underlying31 rfl (by kernel_rfl)) rfl ?_
         exact ⟨_,by first | rfl | (simp [errW_none,errW_some] <;> rfl) | (simp [*,errW_none,errW_some] <;> rfl),by (with_reducible repeat (first | apply Kd.S_alloc | apply Kd.S_drewN | apply Kd.S_drew));exact Kd.S_mono (Kd.S_far (p:=⟨gb192,3,none⟩) (Kd.S_far (p:=⟨gb192,2,none⟩) (Kd.S_far (p:=⟨gb192,1,none⟩) (Kd.S_far (p:=⟨gb192,0,none⟩) (Kd.S_types HO202.out BK192.out (by decide)) (fun _ hk => hk.2) (.slice Ao82 t200.length co82)) (fun _ hk => hk.2) (.int .i64 t203)) (fun _ hk => hk.2) (.int .i64 t204)) (fun _ hk => hk.2) (.int .i64 t205)) (fun _ hk => trivial),by repeat (first | (with_reducible first | exact HB.out | apply below_alloc | apply pw_below_drewN | apply below_drew1 | refine below_set ?_ GE192.out | refine below_set ?_ GE193.out | refine below_set ?_ GE199.out) | exact HB.out)⟩
       ·rw [if_neg c13] at H
        exact absurd H (by simp)
      ·rw [if_neg c12] at H
       exact absurd H (by simp)
   ·rw [if_neg c6] at H
    have c6b0 : decide (0 < (x0_1.size : Int)) = false:=decide_eq_false c6
    have c6b1 : decide (0 < x0_1.size) = false:=decide_eq_false (by omega)
    clear c6
    simp only [Option.some.injEq,Prod.mk.injEq] at H
    obtain ⟨rfl,rfl,rfl,rfl⟩:=H
    have hnb85:=NB193_192.out
    have hnc85:=NB192_193.out
    have hcz86_0 : wr.cell? ⟨gb193,0,none⟩ = some (u194000):=(blk_cell BK193.out 0).trans rfl
    have hcz86_1 : wr.cell? ⟨gb193,1,none⟩ = some (.int .i64 0):=(blk_cell BK193.out 1).trans rfl
    have hcz86_2 : wr.cell? ⟨gb193,2,none⟩ = some (.int .i64 0):=(blk_cell BK193.out 2).trans rfl
    have hcz86_3 : wr.cell? ⟨gb193,3,none⟩ = some (.int .i64 0):=(blk_cell BK193.out 3).trans rfl
    have hfz86_0:=blk_frozen BK193.out 0
    have hfz86_1:=blk_frozen BK193.out 1
    have hfz86_2:=blk_frozen BK193.out 2
    have hfz86_3:=blk_frozen BK193.out 3
    obtain ⟨Ao87,co87,eo87⟩:=Kd.S_slice HO_194000.out
    subst eo87
    have hcz88_0 : wr.cell? ⟨gb192,0,none⟩ = some (.slice none 0 0):=(blk_cell BK192.out 0).trans rfl
    have hcz88_1 : wr.cell? ⟨gb192,1,none⟩ = some (.int .i64 x193001_1):=(blk_cell BK192.out 1).trans rfl
    have hcz88_2 : wr.cell? ⟨gb192,2,none⟩ = some (.int .i64 x193002_1):=(blk_cell BK192.out 2).trans rfl
    have hcz88_3 : wr.cell? ⟨gb192,3,none⟩ = some (.int .i64 x193003_1):=(blk_cell BK192.out 3).trans rfl
    have hfz88_0:=blk_frozen BK192.out 0
    have hfz88_1:=blk_frozen BK192.out 1
    have hfz88_2:=blk_frozen BK192.out 2
    have hfz88_3:=blk_frozen BK192.out 3
    go_wp2
    refine bodyPost_ret (results_cell_row rfl _ _ gb192 31 #[.slice Ao87 x194000_1.length co87,.int .i64 0,.int .i64 0,.int .i64 0] (0,0) _ rfl (by (with_reducible repeat (first | refine blk_drewN ?_ _ | refine blk_drew ?_ | refine blk_alloc ?_ _));refine blk_put (cs:=#[.slice Ao87 x194000_1.length co87,.int .i64 0,.int .i64 0,.int .i64 x193003_1]) ?_ 3 _ rfl;(with_reducible repeat (first | refine blk_drewN ?_ _ | refine blk_drew ?_ | refine blk_alloc ?_ _));refine blk_put (cs:=#[.slice Ao87 x194000_1.length co87,.int .i64 0,.int .i64 x193002_1,.int .i64 x193003_1]) ?_ 2 _ rfl;(with_reducible repeat (first | refine blk_drewN ?_ _ | refine blk_drew ?_ | refine blk_alloc ?_ _));refine blk_put (cs:=#[.slice Ao87 x194000_1.length co87,.int .i64 x193001_1,.int .i64 x193002_1,.int .i64 x193003_1]) ?_ 1 _ rfl;(with_reducible repeat (first | refine blk_drewN ?_ _ | refine blk_drew ?_ | refine blk_alloc ?_ _));refine blk_put (cs:=#[.slice none 0 0,.int .i64 x193001_1,.int .i64 x193002_1,.int .i64 x193003_1]) ?_ 0 _ rfl;(with_reducible repeat (first | refine blk_drewN ?_ _ | refine blk_drew ?_ | refine blk_alloc ?_ _));exact BK192.out) Tryd.underlying31 rfl (by kernel_rfl)) rfl ?_
    exact ⟨_,by first | rfl | (simp [errW_none,errW_some] <;> rfl) | (simp [*,errW_none,errW_some] <;> rfl),by (with_reducible repeat (first | apply Kd.S_alloc | apply Kd.S_drewN | apply Kd.S_drew));exact Kd.S_mono (Kd.S_far (p:=⟨gb192,3,none⟩) (Kd.S_far (p:=⟨gb192,2,none⟩) (Kd.S_far (p:=⟨gb192,1,none⟩) (Kd.S_far (p:=⟨gb192,0,none⟩) (Kd.S_types HO_194000.out BK192.out (by decide)) (fun _ hk => hk.2) (.slice Ao87 x194000_1.length co87)) (fun _ hk => hk.2) (.int .i64 0)) (fun _ hk => hk.2) (.int .i64 0)) (fun _ hk => hk.2) (.int .i64 0)) (fun _ hk => trivial),by repeat (first | (with_reducible first | exact HB.out | apply below_alloc | apply pw_below_drewN | apply below_drew1 | refine below_set ?_ GE192.out | refine below_set ?_ GE193.out) | exact HB.out)⟩

end Go.Proofs.YtmmfakdncjeoeacDoor.PE
