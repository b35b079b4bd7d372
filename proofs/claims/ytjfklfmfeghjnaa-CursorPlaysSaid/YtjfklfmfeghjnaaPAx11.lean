-- Contracts of Go functions, each with its plain Lean function: written by wip/tools/myprint.py of this work (the kit's print, with contracts proved by hand spliced in).
import Derived.Test.YtjfklfmfeghjnaaPAx0
import Derived.Test.YtjfklfmfeghjnaaPAx2
import Derived.Test.YtjfklfmfeghjnaaPAx6
import Derived.Test.YtjfklfmfeghjnaaPAx8
import Derived.Test.YtjfklfmfeghjnaaPAx10
namespace Go.Proofs.Ytjfklfmfeghjnaa.PA
open Go.RowKit Go.Proofs.YtjfklfmfeghjnaaW.PrintWords Go.Proofs.YtjfklfmfeghjnaaW.PrintLast Go.Proofs.YtjfklfmfeghjnaaW.PrintMore
attribute [local go_sem] max2_int min2_int max_two min_two max_three min_three max_four min_four   -- for this text's walks alone
set_option linter.unusedVariables false
set_option linter.unusedSimpArgs false

/-! ### cursor_Cursor_Number: function 38 -/
section
open Go.Proofs.YtjfklfmfeghjnaaAid

def cursor_Cursor_Number_1.f (k : Nat) (l0 : List Int) (a1 : Int) : Option (Int × Int × Int) := (wire_Get.f k l0).bind fun bt107 => (if bt107.2.2 = 0 then (if bt107.1 > a1 then (some (bt107.1, bt107.2.1, 6)) else (some (bt107.1, bt107.2.1, bt107.2.2))) else (some (bt107.1, bt107.2.1, bt107.2.2)))
theorem cursor_Cursor_Number_1.mono : ∀ a0 a1 k, LeO (cursor_Cursor_Number_1.f k a0 a1) (cursor_Cursor_Number_1.f (k + 1) a0 a1) := by
  intro a0 a1 k
  unfold cursor_Cursor_Number_1.f
  repeat' first
      | (with_reducible exact wire_Get.mono _ _)
      | (with_reducible exact LeO.refl _)
      | (with_reducible exact LeO.none _)
      | (with_reducible refine LeO.ite ?_ ?_)
      | (with_reducible refine LeO.bind ?_ (fun _ => ?_))
      | exact wire_Get.mono _ _
      | exact LeO.none _
      | refine LeO.ite ?_ ?_
      | refine LeO.bind ?_ (fun _ => ?_)
set_option maxHeartbeats 8000000 in
set_option maxRecDepth 100000 in
theorem cursor_Cursor_Number_1.calls (k : Nat) (A0 : Option Addr) (c0 : Nat) (l0 : List Int) (a1 : Int) (r1 : Int) (r2 : Int) (r3 : Int) (cb : Nat) (w : World) (hcell : w.cell? ⟨cb, 0, none⟩ = some (.int .u64 a1)) (hr0 : Kd.C (Kd.int .u8) w A0 l0.length l0) (hc0 : l0.length ≤ c0) (h : cursor_Cursor_Number_1.f k l0 a1 = some (r1, r2, r3)) :
    Calls Try.prog 67 #[.slice A0 l0.length c0, .pointer (some ⟨cb, 0, none⟩)] w fun e w' => e = .returned (.tuple #[.int .u64 r1, .int .i64 r2, .int .i64 r3]) ∧ Drawn0 w w' := by
  have HR0 := Aside0.mk hr0
  have HC0 := Aside0.mk hc0
  clear hr0 hc0
  have H : ((wire_Get.f k l0).bind fun bt107 => (if bt107.2.2 = 0 then (if bt107.1 > a1 then (some (bt107.1, bt107.2.1, 6)) else (some (bt107.1, bt107.2.1, bt107.2.2))) else (some (bt107.1, bt107.2.1, bt107.2.2)))) = some (r1, r2, r3) := h
  clear h
  replace H := Option.bind_eq_some_iff.mp H
  obtain ⟨⟨t107, t108, t109⟩, A30, H⟩ := H
  replace H : (if t109 = 0 then (if t107 > a1 then (some (t107, t108, 6)) else (some (t107, t108, t109))) else (some (t107, t108, t109))) = some (r1, r2, r3) := H
  have A3 := Aside0.mk A30
  clear A30
  by_cases c4 : t109 = 0
  · rw [if_pos c4] at H
    have c4b0 : (t109 == 0) = true := beq_iff_eq.mpr c4
    have c4b1 : (t109 != 0) = false := bne_eq_false_iff_eq.mpr c4
    clear c4
    by_cases c5 : t107 > a1
    · rw [if_pos c5] at H
      have c5b0 : decide (a1 < t107) = true := decide_eq_true c5
      clear c5
      simp only [Option.some.injEq, Prod.mk.injEq] at H
      obtain ⟨rfl, rfl, rfl⟩ := H
      go_enter Try.func67, Try.ntmps67
      go_wp2_with (first | ((with_reducible refine gate_callee (f := 20) rfl ?_); refine goesL_ (some 11) rfl rfl Try.func20 (by kernel_rfl) rfl #[.slice A0 l0.length c0] rfl (by (try simp only [List.map_toArray, List.map_cons, List.map_nil]); first | done | rfl | (simp only [List.length_drop, List.length_take]; rfl) | (refine congrArg (fun z_ => #[z_]) (congrArg (Value.int IntKind.u64) (Eq.symm (Go.Proofs.YtjfklfmfeghjnaaAid.wrap_len _ (by omega)))))) ?_; (with_reducible refine (wire_Get.calls k _ _ l0 t107 t108 t109 _ ?side1 ?side2 A3.out).mono ?_); (case side1 => repeat (first | exact HR0.out | (with_reducible refine Kd.C_alloc ?_ _) | (with_reducible refine Kd.C_drewN ?_ _) | (with_reducible refine Kd.C_drew ?_))); (case side2 => exact HC0.out); rintro e w' ⟨rfl, ⟨nd, rfl⟩⟩; refine ⟨_, rfl, ?_⟩))
      go_ret3
      exact ⟨by first | rfl | (simp; done) | (simp [*]; done), by repeat (first | exact Drawn0.refl _ | apply Drawn0.step)⟩
    · rw [if_neg c5] at H
      have c5b0 : decide (a1 < t107) = false := decide_eq_false c5
      clear c5
      simp only [Option.some.injEq, Prod.mk.injEq] at H
      obtain ⟨rfl, rfl, rfl⟩ := H
      go_enter Try.func67, Try.ntmps67
      go_wp2_with (first | ((with_reducible refine gate_callee (f := 20) rfl ?_); refine goesL_ (some 11) rfl rfl Try.func20 (by kernel_rfl) rfl #[.slice A0 l0.length c0] rfl (by (try simp only [List.map_toArray, List.map_cons, List.map_nil]); first | done | rfl | (simp only [List.length_drop, List.length_take]; rfl) | (refine congrArg (fun z_ => #[z_]) (congrArg (Value.int IntKind.u64) (Eq.symm (Go.Proofs.YtjfklfmfeghjnaaAid.wrap_len _ (by omega)))))) ?_; (with_reducible refine (wire_Get.calls k _ _ l0 t107 t108 t109 _ ?side1 ?side2 A3.out).mono ?_); (case side1 => repeat (first | exact HR0.out | (with_reducible refine Kd.C_alloc ?_ _) | (with_reducible refine Kd.C_drewN ?_ _) | (with_reducible refine Kd.C_drew ?_))); (case side2 => exact HC0.out); rintro e w' ⟨rfl, ⟨nd, rfl⟩⟩; refine ⟨_, rfl, ?_⟩))
      go_ret3
      exact ⟨by first | rfl | (simp; done) | (simp [*]; done), by repeat (first | exact Drawn0.refl _ | apply Drawn0.step)⟩
  · rw [if_neg c4] at H
    have c4b0 : (t109 == 0) = false := beq_eq_false_iff_ne.mpr c4
    have c4b1 : (t109 != 0) = true := bne_iff_ne.mpr c4
    simp only [Option.some.injEq, Prod.mk.injEq] at H
    obtain ⟨rfl, rfl, rfl⟩ := H
    go_enter Try.func67, Try.ntmps67
    go_wp2_with (first | ((with_reducible refine gate_callee (f := 20) rfl ?_); refine goesL_ (some 11) rfl rfl Try.func20 (by kernel_rfl) rfl #[.slice A0 l0.length c0] rfl (by (try simp only [List.map_toArray, List.map_cons, List.map_nil]); first | done | rfl | (simp only [List.length_drop, List.length_take]; rfl) | (refine congrArg (fun z_ => #[z_]) (congrArg (Value.int IntKind.u64) (Eq.symm (Go.Proofs.YtjfklfmfeghjnaaAid.wrap_len _ (by omega)))))) ?_; (with_reducible refine (wire_Get.calls k _ _ l0 t107 t108 t109 _ ?side1 ?side2 A3.out).mono ?_); (case side1 => repeat (first | exact HR0.out | (with_reducible refine Kd.C_alloc ?_ _) | (with_reducible refine Kd.C_drewN ?_ _) | (with_reducible refine Kd.C_drew ?_))); (case side2 => exact HC0.out); rintro e w' ⟨rfl, ⟨nd, rfl⟩⟩; refine ⟨_, rfl, ?_⟩))
    go_ret3
    exact ⟨by first | rfl | (simp; done) | (simp [*]; done), by repeat (first | exact Drawn0.refl _ | apply Drawn0.step)⟩


def cursor_Cursor_Number.f (k : Nat) (s0_0 : ByteArray) (s0_1 : Int) (s0_2 : Int) (a1 : Int) : Option (Int × ByteArray × Int × Int) := cursor_take_out (0 : Int) s0_0 s0_1 s0_2 (fun y_ => cursor_Cursor_Number_1.f k y_ a1)
theorem cursor_Cursor_Number.mono : ∀ a0 a1 a2 a3 k, LeO (cursor_Cursor_Number.f k a0 a1 a2 a3) (cursor_Cursor_Number.f (k + 1) a0 a1 a2 a3) := by
  intro a0 a1 a2 a3 k
  exact cursor_take_out.le _ _ _ _ (fun y_ => cursor_Cursor_Number_1.mono _ _ k)
set_option maxHeartbeats 8000000 in
set_option maxRecDepth 100000 in
theorem cursor_Cursor_Number.calls (k : Nat) (g : Nat) (s0_0 : ByteArray) (s0_1 : Int) (s0_2 : Int) (a1 : Int) (r1 : Int) (r2 : ByteArray) (r3 : Int) (r4 : Int) (w0 w : World) (hI : IsS102 w0 w g s0_0 s0_1 s0_2) (hB : Below w0.heap.size w0 w) (h : cursor_Cursor_Number.f k s0_0 s0_1 s0_2 a1 = some (r1, r2, r3, r4)) :
    Calls Try.prog 38 #[.pointer (some ⟨g, 0, none⟩), .int .u64 a1] w fun e w' => e = .returned (.int .u64 r1) ∧ IsS102 w0 w' g r2 r3 r4 ∧ Below w0.heap.size w0 w' ∧ KeepBut w w' g none := by
  have HI0 := Aside0.mk hI
  have HK := Aside0.mk (KeepBut.refl w g none)
  have HB := Aside0.mk hB
  clear hB hI
  have H : cursor_take_out (0 : Int) s0_0 s0_1 s0_2 (fun y_ => cursor_Cursor_Number_1.f k y_ a1) = some (r1, r2, r3, r4) := h
  clear h
  go_enter Try.func38, Try.ntmps38
  go_wp2_with (first | ((with_reducible refine gate_dst (N := 3) rfl ?_); refine box_event ?hg (N := 3) ?hd (cs := #[.int .u64 a1]) (t := 22) ?hr ?_; (case hd => rfl); (case hg => rfl); (case hr => first | (go_simp; done) | (go_simp; rfl)); intro gb hg w6 hbox hb; have hgb : gb ≠ g := (by rw [hg]; exact Nat.ne_of_gt (IsS102.lt HI0.out)); have hcb : w6.cell? ⟨gb, 0, none⟩ = some (.int .u64 a1) := (blk_cell hbox 0).trans rfl; have n0_ := Aside0.mk (IsS102.below HI0.out hb); have n1_ := Aside0.mk (KeepBut.trans HK.out (KeepBut.of_below hb g none) (.inl rfl)); have n2_ := Aside0.mk (below_step HB.out hb); clear HI0 HK HB; have HI0 := n0_; have HK := n1_; have HB := n2_; clear n0_ n1_ n2_; clear hb hbox hg) | ((with_reducible refine gate_callee (f := 66) rfl ?_); refine goesL_ (some 7) rfl rfl Try.func66 (by kernel_rfl) rfl #[.pointer (some ⟨g, 0, none⟩), .func (.func 67) #[] #[.pointer (some ⟨gb, 0, none⟩)]] rfl (by (try simp only [List.map_toArray, List.map_cons, List.map_nil]); first | done | rfl) ?_; refine (cursor_take_u64.gen 67 _ Try.func67 (by kernel_rfl) rfl #[.pointer (some ⟨gb, 0, none⟩)] (fun y_ => cursor_Cursor_Number_1.f k y_ a1) g s0_0 s0_1 s0_2 _ _ _ _ w0 _ HI0.out HB.out (fun y_ t_ n_ e_ hy_ A_ c_ w1_ hk_ hr_ hc_ => (show Calls Try.prog 67 #[.slice A_ y_.length c_, .pointer (some ⟨gb, 0, none⟩)] w1_ _ from (cursor_Cursor_Number_1.calls k A_ c_ y_ a1 t_ n_ e_ gb w1_ (keep_cell hk_ hcb hgb) hr_ hc_ hy_).mono (fun x_ w2_ h_ => ⟨h_.1, h_.2.below⟩))) H).mono ?_; rintro e w7 ⟨rfl, hi, hb, hk⟩; refine ⟨_, rfl, ?_⟩; have n0_ := Aside0.mk (KeepBut.trans HK.out hk (.inl rfl)); have n1_ := Aside0.mk hb; have n2_ := Aside0.mk hi; clear HK HB HI0; have HK := n0_; have HB := n1_; have HI0 := n2_; clear n0_ n1_ n2_ hb hk hi))
  go_ret
  exact ⟨rfl, HI0.out, HB.out, HK.out⟩
end

/-! ### tachographref01_Unfold: function 18 -/
def tachographref01_Unfold.f (a0 : Int) : Option (Int) := if (Int.tmod a0 2) = 0 then (some (wrap64 (IntKind.u64.wrap (Int.tdiv a0 2)))) else (some (wrap64 ((wrap64 (-(wrap64 (IntKind.u64.wrap (Int.tdiv a0 2))))) - 1)))
set_option maxHeartbeats 8000000 in
set_option maxRecDepth 100000 in
theorem tachographref01_Unfold.calls (a0 : Int) (r : Int) (w : World) (h : tachographref01_Unfold.f a0 = some r) :
    Calls Try.prog 18 #[.int .u64 a0] w fun e w' => e = .returned (.int .i64 r) ∧ Drawn0 w w' := by
  have H : (if (Int.tmod a0 2) = 0 then (some (wrap64 (IntKind.u64.wrap (Int.tdiv a0 2)))) else (some (wrap64 ((wrap64 (-(wrap64 (IntKind.u64.wrap (Int.tdiv a0 2))))) - 1)))) = some r := h
  clear h
  by_cases c2 : (Int.tmod a0 2) = 0
  · rw [if_pos c2] at H
    have c2b0 : ((Int.tmod a0 2) == 0) = true := beq_iff_eq.mpr c2
    have c2b1 : ((Int.tmod a0 2) != 0) = false := bne_eq_false_iff_eq.mpr c2
    clear c2
    obtain rfl := Option.some.inj H
    go_enter Try.func18, Try.ntmps18
    go_wp2
    go_ret
    exact ⟨by first | rfl | (simp; done) | (simp [*]; done), by repeat (first | exact Drawn0.refl _ | apply Drawn0.step)⟩
  · rw [if_neg c2] at H
    have c2b0 : ((Int.tmod a0 2) == 0) = false := beq_eq_false_iff_ne.mpr c2
    have c2b1 : ((Int.tmod a0 2) != 0) = true := bne_iff_ne.mpr c2
    obtain rfl := Option.some.inj H
    go_enter Try.func18, Try.ntmps18
    go_wp2
    go_ret
    exact ⟨by first | rfl | (simp; done) | (simp [*]; done), by repeat (first | exact Drawn0.refl _ | apply Drawn0.step)⟩

/-! ### tachographref03_Cursor_Signed: function 39 -/
def tachographref03_Cursor_Signed.f (k : Nat) (a0_0 : ByteArray) (a0_1 : Int) (a0_2 : Int) : Option (ByteArray × Int × Int × Int) := (tachographref03_Cursor_Number.f k a0_0 a0_1 a0_2 18446744073709551615).bind fun bt248 => ((tachographref01_Unfold.f bt248.2.2.2).bind fun t253 => (some (bt248.1, bt248.2.1, bt248.2.2.1, t253)))
theorem tachographref03_Cursor_Signed.mono : ∀ a0 a1 a2 k, LeO (tachographref03_Cursor_Signed.f k a0 a1 a2) (tachographref03_Cursor_Signed.f (k + 1) a0 a1 a2) := by
 intro a0 a1 a2 k
 unfold tachographref03_Cursor_Signed.f
 repeat' first
   | (with_reducible exact tachographref03_Cursor_Number.mono _ _ _ _ _)
   | (with_reducible exact LeO.refl _)
   | (with_reducible exact LeO.none _)
   | (with_reducible refine LeO.ite ?_ ?_)
   | (with_reducible refine LeO.bind ?_ (fun _ => ?_))
   | exact tachographref03_Cursor_Number.mono _ _ _ _ _
   | exact LeO.none _
   | refine LeO.ite ?_ ?_
   | refine LeO.bind ?_ (fun _ => ?_)
set_option maxHeartbeats 8000000 in
set_option maxRecDepth 100000 in
theorem tachographref03_Cursor_Signed.calls (k : Nat) (a0_0 : ByteArray) (a0_1 : Int) (a0_2 : Int) (r1 : ByteArray) (r2 : Int) (r3 : Int) (r4 : Int) (w : World) (h : tachographref03_Cursor_Signed.f k a0_0 a0_1 a0_2 = some (r1,r2,r3,r4)) :
  Calls Try.prog 39 #[.agg #[.string a0_0,.int .i64 a0_1,.int .i64 a0_2]] w fun e w' => e = .returned (.tuple #[.agg #[.string r1,.int .i64 r2,.int .i64 r3],.int .i64 r4]) ∧ Below w.heap.size w w':=by
 have hu59:=Try.underlying59
 have HB:=Aside0.mk (Below.refl w.heap.size w)
 have H : ((tachographref03_Cursor_Number.f k a0_0 a0_1 a0_2 18446744073709551615).bind fun bt248 => ((tachographref01_Unfold.f bt248.2.2.2).bind fun t253 => (some (bt248.1,bt248.2.1,bt248.2.2.1,t253)))) = some (r1,r2,r3,r4):=h
 clear h
 replace H:=Option.bind_eq_some_iff.mp H
 obtain ⟨⟨t248,t249,t250,t251⟩,A20,H⟩:=H
 replace H : ((tachographref01_Unfold.f t251).bind fun t253 => (some (t248,t249,t250,t253))) = some (r1,r2,r3,r4):=H
 have A2:=Aside0.mk A20
 clear A20
 replace H:=Option.bind_eq_some_iff.mp H
 obtain ⟨t253,A30,H⟩:=H
 replace H : (some (t248,t249,t250,t253)) = some (r1,r2,r3,r4):=H
 have A3:=Aside0.mk A30
 clear A30
 simp only [Option.some.injEq,Prod.mk.injEq] at H
 obtain ⟨rfl,rfl,rfl,rfl⟩:=H
 go_enter Try.func39,Try.ntmps39
 try go_wp2_with (first | ((with_reducible refine gate_dst (N:=1) rfl ?_);refine box_event ?hg (N:=1) ?hd (cs:=#[.string a0_0,.int .i64 a0_1,.int .i64 a0_2]) (t:=59) ?hr ?_;(case hd => rfl);(case hg => rfl);(case hr => first | (go_simp;done) | (go_simp;rfl));intro gb246 hg w4 hbox hb;have n0_:=Aside0.mk (below_step (by repeat (first | (with_reducible first | exact HB.out | apply below_alloc | apply pw_below_drewN | apply below_drew1) | exact HB.out)) hb);have n1_:=Aside0.mk (hbox);have n2_:=Aside0.mk ((by rw [hg];exact (below_size (by repeat (first | (with_reducible first | exact HB.out | apply below_alloc | apply pw_below_drewN | apply below_drew1) | exact HB.out))) : w.heap.size ≤ gb246));have n3_:=Aside0.mk ((by rw [hg];exact (below_size (by repeat (first | (with_reducible first | exact HB.out | apply below_alloc | apply pw_below_drewN | apply below_drew1) | exact HB.out))) : w.heap.size ≤ gb246));clear HB;have HB:=n0_;have BK246:=n1_;have GW246:=n2_;have GE246:=n3_;clear n0_ n1_ n2_ n3_;clear hb hbox hg) | ((with_reducible refine gate_dst (N:=2) rfl ?_);refine box_event ?hg (N:=2) ?hd (cs:=#[.string (⟨#[]⟩ : ByteArray),.int .i64 0,.int .i64 0]) (t:=59) ?hr ?_;(case hd => rfl);(case hg => rfl);(case hr => first | (go_simp;done) | (go_simp;rfl));intro gb247 hg w5 hbox hb;have n0_:=Aside0.mk (blk_below (g:=gb246) (o:=.cells #[.string a0_0,.int .i64 a0_1,.int .i64 a0_2] 59 (0,0)) (by (with_reducible repeat (first | refine blk_drewN ?_ _ | refine blk_drew ?_ | refine blk_alloc ?_ _));exact BK246.out) hb);have n1_:=Aside0.mk (below_step (by repeat (first | (with_reducible first | exact HB.out | apply below_alloc | apply pw_below_drewN | apply below_drew1 | refine below_set ?_ GE246.out) | exact HB.out)) hb);have n2_:=Aside0.mk (hbox);have n3_:=Aside0.mk ((by rw [hg];exact (below_size (by repeat (first | (with_reducible first | exact HB.out | apply below_alloc | apply pw_below_drewN | apply below_drew1 | refine below_set ?_ GE246.out) | exact HB.out))) : w.heap.size ≤ gb247));have n4_:=Aside0.mk ((by rw [hg];exact (below_size (by repeat (first | (with_reducible first | exact HB.out | apply below_alloc | apply pw_below_drewN | apply below_drew1 | refine below_set ?_ GE246.out) | exact HB.out))) : w.heap.size ≤ gb247));have n5_:=Aside0.mk ((by rw [hg];exact Nat.ne_of_lt (blk_lt (g:=gb246) (o:=.cells #[.string a0_0,.int .i64 a0_1,.int .i64 a0_2] 59 (0,0)) (by (with_reducible repeat (first | refine blk_drewN ?_ _ | refine blk_drew ?_ | refine blk_alloc ?_ _));exact BK246.out)) : gb246 ≠ gb247));have n6_:=Aside0.mk ((by rw [hg];exact Nat.ne_of_gt (blk_lt (g:=gb246) (o:=.cells #[.string a0_0,.int .i64 a0_1,.int .i64 a0_2] 59 (0,0)) (by (with_reducible repeat (first | refine blk_drewN ?_ _ | refine blk_drew ?_ | refine blk_alloc ?_ _));exact BK246.out)) : gb247 ≠ gb246));clear BK246;clear HB;have BK246:=n0_;have HB:=n1_;have BK247:=n2_;have GW247:=n3_;have GE247:=n4_;have NB246_247:=n5_;have NB247_246:=n6_;clear n0_ n1_ n2_ n3_ n4_ n5_ n6_;clear hb hbox hg;have hnb6:=NB246_247.out;have hnc6:=NB247_246.out;have hcz7_0 : w5.cell? ⟨gb246,0,none⟩ = some (.string a0_0):=(blk_cell BK246.out 0).trans rfl;have hcz7_1 : w5.cell? ⟨gb246,1,none⟩ = some (.int .i64 a0_1):=(blk_cell BK246.out 1).trans rfl;have hcz7_2 : w5.cell? ⟨gb246,2,none⟩ = some (.int .i64 a0_2):=(blk_cell BK246.out 2).trans rfl;have hfz7_0:=blk_frozen BK246.out 0;have hfz7_1:=blk_frozen BK246.out 1;have hfz7_2:=blk_frozen BK246.out 2) | ((with_reducible refine gate_callee (f:=37) rfl ?_);refine goesL_ (some 8) rfl rfl Try.func37 (by kernel_rfl) rfl #[.agg #[.string a0_0,.int .i64 a0_1,.int .i64 a0_2],.int .u64 18446744073709551615] rfl (by (try simp only [List.map_toArray,List.map_cons,List.map_nil]);first | done | rfl | (simp only [List.length_drop,List.length_take];rfl)) ?_;(with_reducible refine (tachographref03_Cursor_Number.calls k a0_0 a0_1 a0_2 18446744073709551615 t248 t249 t250 t251 _ A2.out).mono ?_);rintro e w8 ⟨rfl,hb⟩;refine ⟨_,rfl,?_⟩;have n0_:=Aside0.mk (blk_below (g:=gb246) (o:=.cells #[.string a0_0,.int .i64 a0_1,.int .i64 a0_2] 59 (0,0)) (by (with_reducible repeat (first | refine blk_drewN ?_ _ | refine blk_drew ?_ | refine blk_alloc ?_ _));exact BK246.out) hb);have n1_:=Aside0.mk (blk_below (g:=gb247) (o:=.cells #[.string (⟨#[]⟩ : ByteArray),.int .i64 0,.int .i64 0] 59 (0,0)) (by (with_reducible repeat (first | refine blk_drewN ?_ _ | refine blk_drew ?_ | refine blk_alloc ?_ _));exact BK247.out) hb);have n2_:=Aside0.mk (below_step (by repeat (first | (with_reducible first | exact HB.out | apply below_alloc | apply pw_below_drewN | apply below_drew1 | refine below_set ?_ GE246.out | refine below_set ?_ GE247.out) | exact HB.out)) hb);clear BK246;clear BK247;clear HB;have BK246:=n0_;have BK247:=n1_;have HB:=n2_;clear n0_ n1_ n2_;(try clear hb);(try clear hb2);(try clear hk);(try clear hi)) | ((with_reducible refine gate_dst (N:=4) rfl ?_);refine box_event ?hg (N:=4) ?hd (cs:=#[.string (⟨#[]⟩ : ByteArray),.int .i64 0,.int .i64 0]) (t:=59) ?hr ?_;(case hd => rfl);(case hg => rfl);(case hr => first | (go_simp;done) | (go_simp;rfl));intro gb252 hg w9 hbox hb;have n0_:=Aside0.mk (blk_below (g:=gb246) (o:=.cells #[.string a0_0,.int .i64 a0_1,.int .i64 a0_2] 59 (0,0)) (by (with_reducible repeat (first | refine blk_drewN ?_ _ | refine blk_drew ?_ | refine blk_alloc ?_ _));exact BK246.out) hb);have n1_:=Aside0.mk (blk_below (g:=gb247) (o:=.cells #[.string (⟨#[]⟩ : ByteArray),.int .i64 0,.int .i64 0] 59 (0,0)) (by (with_reducible repeat (first | refine blk_drewN ?_ _ | refine blk_drew ?_ | refine blk_alloc ?_ _));exact BK247.out) hb);have n2_:=Aside0.mk (below_step (by repeat (first | (with_reducible first | exact HB.out | apply below_alloc | apply pw_below_drewN | apply below_drew1 | refine below_set ?_ GE246.out | refine below_set ?_ GE247.out) | exact HB.out)) hb);have n3_:=Aside0.mk (hbox);have n4_:=Aside0.mk ((by rw [hg];exact (below_size (by repeat (first | (with_reducible first | exact HB.out | apply below_alloc | apply pw_below_drewN | apply below_drew1 | refine below_set ?_ GE246.out | refine below_set ?_ GE247.out) | exact HB.out))) : w.heap.size ≤ gb252));have n5_:=Aside0.mk ((by rw [hg];exact (below_size (by repeat (first | (with_reducible first | exact HB.out | apply below_alloc | apply pw_below_drewN | apply below_drew1 | refine below_set ?_ GE246.out | refine below_set ?_ GE247.out) | exact HB.out))) : w.heap.size ≤ gb252));have n6_:=Aside0.mk ((by rw [hg];exact Nat.ne_of_lt (blk_lt (g:=gb246) (o:=.cells #[.string a0_0,.int .i64 a0_1,.int .i64 a0_2] 59 (0,0)) (by (with_reducible repeat (first | refine blk_drewN ?_ _ | refine blk_drew ?_ | refine blk_alloc ?_ _));exact BK246.out)) : gb246 ≠ gb252));have n7_:=Aside0.mk ((by rw [hg];exact Nat.ne_of_gt (blk_lt (g:=gb246) (o:=.cells #[.string a0_0,.int .i64 a0_1,.int .i64 a0_2] 59 (0,0)) (by (with_reducible repeat (first | refine blk_drewN ?_ _ | refine blk_drew ?_ | refine blk_alloc ?_ _));exact BK246.out)) : gb252 ≠ gb246));have n8_:=Aside0.mk ((by rw [hg];exact Nat.ne_of_lt (blk_lt (g:=gb247) (o:=.cells #[.string (⟨#[]⟩ : ByteArray),.int .i64 0,.int .i64 0] 59 (0,0)) (by (with_reducible repeat (first | refine blk_drewN ?_ _ | refine blk_drew ?_ | refine blk_alloc ?_ _));exact BK247.out)) : gb247 ≠ gb252));have n9_:=Aside0.mk ((by rw [hg];exact Nat.ne_of_gt (blk_lt (g:=gb247) (o:=.cells #[.string (⟨#[]⟩ : ByteArray),.int .i64 0,.int .i64 0] 59 (0,0)) (by (with_reducible repeat (first | refine blk_drewN ?_ _ | refine blk_drew ?_ | refine blk_alloc ?_ _));exact BK247.out)) : gb252 ≠ gb247));clear BK246;clear BK247;clear HB;have BK246:=n0_;have BK247:=n1_;have HB:=n2_;have BK252:=n3_;have GW252:=n4_;have GE252:=n5_;have NB246_252:=n6_;have NB252_246:=n7_;have NB247_252:=n8_;have NB252_247:=n9_;clear n0_ n1_ n2_ n3_ n4_ n5_ n6_ n7_ n8_ n9_;clear hb hbox hg;have hnb10:=NB252_246.out;have hnc10:=NB246_252.out;have hnb11:=NB252_247.out;have hnc11:=NB247_252.out;have hcz12_0 : w9.cell? ⟨gb252,0,none⟩ = some (.string (⟨#[]⟩ : ByteArray)):=(blk_cell BK252.out 0).trans rfl;have hcz12_1 : w9.cell? ⟨gb252,1,none⟩ = some (.int .i64 0):=(blk_cell BK252.out 1).trans rfl;have hcz12_2 : w9.cell? ⟨gb252,2,none⟩ = some (.int .i64 0):=(blk_cell BK252.out 2).trans rfl;have hfz12_0:=blk_frozen BK252.out 0;have hfz12_1:=blk_frozen BK252.out 1;have hfz12_2:=blk_frozen BK252.out 2))
 have n0_ : Aside0 ((((w9.setCell ⟨gb252,0,none⟩ (.string t248)).setCell ⟨gb252,1,none⟩ (.int .i64 t249)).setCell ⟨gb252,2,none⟩ (.int .i64 t250)).heap[gb246]? = some (.cells #[.string a0_0,.int .i64 a0_1,.int .i64 a0_2] 59 (0,0))):=⟨by (with_reducible repeat (first | refine blk_drewN ?_ _ | refine blk_drew ?_ | refine blk_alloc ?_ _));refine blk_far ?_ NB246_252.out _;(with_reducible repeat (first | refine blk_drewN ?_ _ | refine blk_drew ?_ | refine blk_alloc ?_ _));refine blk_far ?_ NB246_252.out _;(with_reducible repeat (first | refine blk_drewN ?_ _ | refine blk_drew ?_ | refine blk_alloc ?_ _));refine blk_far ?_ NB246_252.out _;(with_reducible repeat (first | refine blk_drewN ?_ _ | refine blk_drew ?_ | refine blk_alloc ?_ _));exact BK246.out⟩
 have n1_ : Aside0 ((((w9.setCell ⟨gb252,0,none⟩ (.string t248)).setCell ⟨gb252,1,none⟩ (.int .i64 t249)).setCell ⟨gb252,2,none⟩ (.int .i64 t250)).heap[gb247]? = some (.cells #[.string (⟨#[]⟩ : ByteArray),.int .i64 0,.int .i64 0] 59 (0,0))):=⟨by (with_reducible repeat (first | refine blk_drewN ?_ _ | refine blk_drew ?_ | refine blk_alloc ?_ _));refine blk_far ?_ NB247_252.out _;(with_reducible repeat (first | refine blk_drewN ?_ _ | refine blk_drew ?_ | refine blk_alloc ?_ _));refine blk_far ?_ NB247_252.out _;(with_reducible repeat (first | refine blk_drewN ?_ _ | refine blk_drew ?_ | refine blk_alloc ?_ _));refine blk_far ?_ NB247_252.out _;(with_reducible repeat (first | refine blk_drewN ?_ _ | refine blk_drew ?_ | refine blk_alloc ?_ _));exact BK247.out⟩
 have n2_ : Aside0 ((((w9.setCell ⟨gb252,0,none⟩ (.string t248)).setCell ⟨gb252,1,none⟩ (.int .i64 t249)).setCell ⟨gb252,2,none⟩ (.int .i64 t250)).heap[gb252]? = some (.cells #[.string t248,.int .i64 t249,.int .i64 t250] 59 (0,0))):=⟨by (with_reducible repeat (first | refine blk_drewN ?_ _ | refine blk_drew ?_ | refine blk_alloc ?_ _));refine blk_put (cs:=#[.string t248,.int .i64 t249,.int .i64 0]) ?_ 2 _ rfl;(with_reducible repeat (first | refine blk_drewN ?_ _ | refine blk_drew ?_ | refine blk_alloc ?_ _));refine blk_put (cs:=#[.string t248,.int .i64 0,.int .i64 0]) ?_ 1 _ rfl;(with_reducible repeat (first | refine blk_drewN ?_ _ | refine blk_drew ?_ | refine blk_alloc ?_ _));refine blk_put (cs:=#[.string (⟨#[]⟩ : ByteArray),.int .i64 0,.int .i64 0]) ?_ 0 _ rfl;(with_reducible repeat (first | refine blk_drewN ?_ _ | refine blk_drew ?_ | refine blk_alloc ?_ _));exact BK252.out⟩
 have n3_ : Aside0 (Below w.heap.size w (((w9.setCell ⟨gb252,0,none⟩ (.string t248)).setCell ⟨gb252,1,none⟩ (.int .i64 t249)).setCell ⟨gb252,2,none⟩ (.int .i64 t250))):=⟨by repeat (first | (with_reducible first | exact HB.out | apply below_alloc | apply pw_below_drewN | apply below_drew1 | refine below_set ?_ GE246.out | refine below_set ?_ GE247.out | refine below_set ?_ GE252.out) | exact HB.out)⟩
 (try clear BK246)
 (try clear BK247)
 (try clear BK252)
 (try clear HB)
 generalize (((w9.setCell ⟨gb252,0,none⟩ (.string t248)).setCell ⟨gb252,1,none⟩ (.int .i64 t249)).setCell ⟨gb252,2,none⟩ (.int .i64 t250)) = w13 at n0_ n1_ n2_ n3_ ⊢
 have BK246:=n0_
 have BK247:=n1_
 have BK252:=n2_
 have HB:=n3_
 clear n0_ n1_ n2_ n3_
 have n0_:=Aside0.mk (blk_drew BK246.out)
 have n1_:=Aside0.mk (blk_drew BK247.out)
 have n2_:=Aside0.mk (blk_drew BK252.out)
 have n3_:=Aside0.mk (below_drew1 HB.out)
 clear BK246
 clear BK247
 clear BK252
 clear HB
 have BK246:=n0_
 have BK247:=n1_
 have BK252:=n2_
 have HB:=n3_
 clear n0_ n1_ n2_ n3_
 refine start_ (n:=5) (S:=fun w' => w'.cell? ⟨gb252,0,none⟩ = some (.string t248) ∧ w'.cell? ⟨gb252,1,none⟩ = some (.int .i64 t249) ∧ w'.cell? ⟨gb252,2,none⟩ = some (.int .i64 t250)) (ds:=[]) #[n_,n_,n_,n_,n_] (by kernel_rfl) rfl rfl ⟨(blk_cell BK252.out 0).trans rfl,(blk_cell BK252.out 1).trans rfl,(blk_cell BK252.out 2).trans rfl⟩ (fun hHeld => ?_)
 generalize w13.drew = w14 at BK246 BK247 BK252 HB hHeld ⊢
 refine pure_ (i:=1) (N:=some 12) (v:=?_) (a':=?_) #[n_,y_,n_,n_,n_] rfl rfl (by kernel_rfl) (fun _ _ _ h => h) (Or.inl ⟨by rfl,?_⟩) ?_ ?_
 rotate_left
 ·intro w'
  go_simp
  with_reducible rfl
 rotate_left
 ·simp only [Act.put,sA_,sB_,sC_,i64_w,i32_w]
  rfl
 refine take_ (i:=0) (N:=some 11) (v:=?_) (a':=?_) #[y_,y_,n_,n_,n_] rfl rfl (by kernel_rfl) (fun _ _ _ h => h) (Or.inl ⟨by rfl,?_⟩) hHeld ?_ ?_
 rotate_left
 ·rintro w' ⟨s0,s1,s2⟩
  go_simp
  with_reducible rfl
 rotate_left
 ·simp only [Act.put,sA_,sB_,sC_,i64_w,i32_w]
  rfl
 refine one_ (i:=2) (N:=some 13) #[y_,y_,y_,n_,n_] rfl rfl (by kernel_rfl) (by decide) (fun K hK => ?_)
 refine goes_ Try.func18 (by kernel_rfl) rfl #[.int .u64 t251] (by rfl) rfl rfl (by (try simp only [List.map_toArray,List.map_cons,List.map_nil]);first | done | rfl | (simp only [List.length_drop,List.length_take];rfl)) ?_
 with_reducible refine (tachographref01_Unfold.calls t251 t253 _ A3.out).mono ?_
 rintro e w' ⟨rfl,⟨nd,rfl⟩⟩
 refine ⟨_,rfl,?_⟩
 refine hK.out _ _ ⟨(blk_cell BK252.out 0).trans rfl,(blk_cell BK252.out 1).trans rfl,(blk_cell BK252.out 2).trans rfl⟩ (fun hHeld => ?_)
 clear hK K
 refine norm_ (a':=?_) ?_ ?_
 rotate_left
 ·show Act.put _ (some 13) _ = _
  simp only [Act.put,sA_,sB_,sC_,i64_w,i32_w]
  rfl
 refine one_ (i:=3) (N:=none) #[y_,y_,y_,y_,n_] rfl rfl (by kernel_rfl) (by decide) (fun K hK => ?_)
 have hs15 : w14.cell? ⟨gb247,0,none⟩ = some (.string (⟨#[]⟩ : ByteArray)):=(blk_cell BK247.out 0).trans rfl
 have hfs15:=blk_frozen BK247.out 0
 have hns15_0:=NB246_247.out
 have hns15_2:=NB252_247.out
 have hms15_0:=NB247_246.out
 have hms15_2:=NB247_252.out
 have hs16 : w14.cell? ⟨gb247,1,none⟩ = some (.int .i64 0):=(blk_cell BK247.out 1).trans rfl
 have hfs16:=blk_frozen BK247.out 1
 have hns16_0:=NB246_247.out
 have hns16_2:=NB252_247.out
 have hms16_0:=NB247_246.out
 have hms16_2:=NB247_252.out
 have hs17 : w14.cell? ⟨gb247,2,none⟩ = some (.int .i64 0):=(blk_cell BK247.out 2).trans rfl
 have hfs17:=blk_frozen BK247.out 2
 have hns17_0:=NB246_247.out
 have hns17_2:=NB252_247.out
 have hms17_0:=NB247_246.out
 have hms17_2:=NB247_252.out
 refine skip_ (w1:=?_) (by rfl) rfl ?_ ?_
 rotate_left
 ·go_simp
  rfl
 refine hK.out _ _ ⟨((cell_far (p:=⟨gb247,_,none⟩) NB252_247.out _).trans (((cell_far (p:=⟨gb247,_,none⟩) NB252_247.out _).trans (((cell_far (p:=⟨gb247,_,none⟩) NB252_247.out _).trans (hHeld.1)))))),((cell_far (p:=⟨gb247,_,none⟩) NB252_247.out _).trans (((cell_far (p:=⟨gb247,_,none⟩) NB252_247.out _).trans (((cell_far (p:=⟨gb247,_,none⟩) NB252_247.out _).trans (hHeld.2.1)))))),((cell_far (p:=⟨gb247,_,none⟩) NB252_247.out _).trans (((cell_far (p:=⟨gb247,_,none⟩) NB252_247.out _).trans (((cell_far (p:=⟨gb247,_,none⟩) NB252_247.out _).trans (hHeld.2.2))))))⟩ (fun hHeld => ?_)
 clear hK K
 refine pure_ (i:=4) (N:=some 3) (v:=?_) (a':=?_) #[y_,y_,y_,y_,y_] rfl rfl (by kernel_rfl) (fun _ _ _ h => h) (Or.inl ⟨by rfl,?_⟩) ?_ ?_
 rotate_left
 ·intro w'
  go_simp
  with_reducible rfl
 rotate_left
 ·simp only [Act.put,sA_,sB_,sC_,i64_w,i32_w]
  rfl
 refine done_ (by kernel_rfl) ?_
 try go_wp2
 refine bodyPost_ret (results_ct rfl _ _ gb247 59 #[.string t248,.int .i64 t249,.int .i64 t250] (0,0) _ rfl (by (with_reducible repeat (first | refine blk_drewN ?_ _ | refine blk_drew ?_ | refine blk_alloc ?_ _));refine blk_put (cs:=#[.string t248,.int .i64 t249,.int .i64 0]) ?_ 2 _ rfl;(with_reducible repeat (first | refine blk_drewN ?_ _ | refine blk_drew ?_ | refine blk_alloc ?_ _));refine blk_put (cs:=#[.string t248,.int .i64 0,.int .i64 0]) ?_ 1 _ rfl;(with_reducible repeat (first | refine blk_drewN ?_ _ | refine blk_drew ?_ | refine blk_alloc ?_ _));refine blk_put (cs:=#[.string (⟨#[]⟩ : ByteArray),.int .i64 0,.int .i64 0]) ?_ 0 _ rfl;(with_reducible repeat (first | refine blk_drewN ?_ _ | refine blk_drew ?_ | refine blk_alloc ?_ _));exact BK247.out) Try.underlying59 rfl (by kernel_rfl)) rfl ?_
 exact ⟨by first | rfl | (simp [errW_none,errW_some] <;> rfl) | (simp [*,errW_none,errW_some] <;> rfl),by repeat (first | (with_reducible first | exact HB.out | apply below_alloc | apply pw_below_drewN | apply below_drew1 | refine below_set ?_ GE246.out | refine below_set ?_ GE247.out | refine below_set ?_ GE252.out) | exact HB.out)⟩

/-! ### wire_Unfold: function 16 -/
def wire_Unfold.f (a0 : Int) : Option (Int) := some (Go.bits .xor .i64 (wrap64 (a0 / 2)) (wrap64 (-(wrap64 (Go.bits .and .u64 a0 1)))))
set_option maxHeartbeats 8000000 in
set_option maxRecDepth 100000 in
theorem wire_Unfold.calls (a0 : Int) (r : Int) (w : World) (h : wire_Unfold.f a0 = some r) :
    Calls Try.prog 16 #[.int .u64 a0] w fun e w' => e = .returned (.int .i64 r) ∧ Drawn0 w w' := by
  have H : (some (Go.bits .xor .i64 (wrap64 (a0 / 2)) (wrap64 (-(wrap64 (Go.bits .and .u64 a0 1)))))) = some r := h
  clear h
  obtain rfl := Option.some.inj H
  go_enter Try.func16, Try.ntmps16
  go_wp2
  go_ret
  exact ⟨by first | rfl | (simp; done) | (simp [*]; done), by repeat (first | exact Drawn0.refl _ | apply Drawn0.step)⟩

/-! ### cursor_Cursor_Signed: function 40 -/
section
open Go.Proofs.YtjfklfmfeghjnaaAid

def cursor_Cursor_Signed.f (k : Nat) (s0_0 : ByteArray) (s0_1 : Int) (s0_2 : Int) : Option (Int × ByteArray × Int × Int) := (cursor_take_out (0 : Int) s0_0 s0_1 s0_2 (fun y_ => wire_Get.f k y_)).bind fun bt => (wire_Unfold.f bt.1).bind fun u => some (u, bt.2.1, bt.2.2.1, bt.2.2.2)
theorem cursor_Cursor_Signed.mono : ∀ a0 a1 a2 k, LeO (cursor_Cursor_Signed.f k a0 a1 a2) (cursor_Cursor_Signed.f (k + 1) a0 a1 a2) := by
  intro a0 a1 a2 k
  unfold cursor_Cursor_Signed.f
  exact LeO.bind (cursor_take_out.le _ _ _ _ (fun y_ => wire_Get.mono _ k)) (fun _ => LeO.refl _)
set_option maxHeartbeats 8000000 in
set_option maxRecDepth 100000 in
theorem cursor_Cursor_Signed.calls (k : Nat) (g : Nat) (s0_0 : ByteArray) (s0_1 : Int) (s0_2 : Int) (r1 : Int) (r2 : ByteArray) (r3 : Int) (r4 : Int) (w0 w : World) (hI : IsS102 w0 w g s0_0 s0_1 s0_2) (hB : Below w0.heap.size w0 w) (h : cursor_Cursor_Signed.f k s0_0 s0_1 s0_2 = some (r1, r2, r3, r4)) :
    Calls Try.prog 40 #[.pointer (some ⟨g, 0, none⟩)] w fun e w' => e = .returned (.int .i64 r1) ∧ IsS102 w0 w' g r2 r3 r4 ∧ Below w0.heap.size w0 w' ∧ KeepBut w w' g none := by
  have HI0 := Aside0.mk hI
  have HK := Aside0.mk (KeepBut.refl w g none)
  have HB := Aside0.mk hB
  clear hB hI
  replace h := Option.bind_eq_some_iff.mp h
  obtain ⟨⟨t1, t2, t3, t4⟩, H, h⟩ := h
  replace h := Option.bind_eq_some_iff.mp h
  obtain ⟨u, HU, h⟩ := h
  simp only [Option.some.injEq, Prod.mk.injEq] at h
  obtain ⟨rfl, rfl, rfl, rfl⟩ := h
  go_enter Try.func40, Try.ntmps40
  go_wp2_with (first | ((with_reducible refine gate_callee (f := 66) rfl ?_); refine goesL_ (some 4) rfl rfl Try.func66 (by kernel_rfl) rfl #[.pointer (some ⟨g, 0, none⟩), .func (.func 20) #[] #[]] rfl (by (try simp only [List.map_toArray, List.map_cons, List.map_nil]); first | done | rfl) ?_; refine (cursor_take_u64.gen 20 _ Try.func20 (by kernel_rfl) rfl #[] (fun y_ => wire_Get.f k y_) g s0_0 s0_1 s0_2 _ _ _ _ w0 _ HI0.out HB.out (fun y_ t_ n_ e_ hy_ A_ c_ w1_ hk_ hr_ hc_ => (show Calls Try.prog 20 #[.slice A_ y_.length c_] w1_ _ from (wire_Get.calls k A_ c_ y_ t_ n_ e_ w1_ hr_ hc_ hy_).mono (fun x_ w2_ h_ => ⟨h_.1, h_.2.below⟩))) H).mono ?_; rintro e w7 ⟨rfl, hi, hb, hk⟩; refine ⟨_, rfl, ?_⟩; have n0_ := Aside0.mk (KeepBut.trans HK.out hk (.inl rfl)); have n1_ := Aside0.mk hb; have n2_ := Aside0.mk hi; clear HK HB HI0; have HK := n0_; have HB := n1_; have HI0 := n2_; clear n0_ n1_ n2_ hb hk hi) | ((with_reducible refine gate_callee (f := 16) rfl ?_); refine goesL_ (some 5) rfl rfl Try.func16 (by kernel_rfl) rfl #[.int .u64 t1] rfl (by (try simp only [List.map_toArray, List.map_cons, List.map_nil]); first | done | rfl) ?_; refine (wire_Unfold.calls t1 u _ HU).mono ?_; rintro e w8 ⟨rfl, hd⟩; have hb := hd.below; refine ⟨_, rfl, ?_⟩; have n0_ := Aside0.mk (IsS102.below HI0.out hb); have n1_ := Aside0.mk (KeepBut.trans HK.out (KeepBut.of_below hb g none) (.inl rfl)); have n2_ := Aside0.mk (below_step HB.out hb); clear HI0 HK HB; have HI0 := n0_; have HK := n1_; have HB := n2_; clear n0_ n1_ n2_; clear hb hd))
  go_ret
  exact ⟨rfl, HI0.out, HB.out, HK.out⟩
end

/-! ### tachographref03_Cursor_Text: function 41 -/
def tachographref03_Cursor_Text.f (k : Nat) (a0_0 : ByteArray) (a0_1 : Int) (a0_2 : Int) (a1 : Int) : Option (ByteArray × Int × Int × ByteArray) := if a0_2 = 0 then ((tachographref02_Get.f k a0_0 a1).bind fun bt256 => ((tachographref03_Cursor_on.f a0_0 a0_1 a0_2 bt256.2.1 bt256.2.2).bind fun bt259 => (some (bt259.1, bt259.2.1, bt259.2.2, bt256.1)))) else (some (a0_0, a0_1, a0_2, (⟨#[]⟩ : ByteArray)))
theorem tachographref03_Cursor_Text.mono : ∀ a0 a1 a2 a3 k, LeO (tachographref03_Cursor_Text.f k a0 a1 a2 a3) (tachographref03_Cursor_Text.f (k + 1) a0 a1 a2 a3) := by
 intro a0 a1 a2 a3 k
 unfold tachographref03_Cursor_Text.f
 repeat' first
   | (with_reducible exact tachographref02_Get.mono _ _ _)
   | (with_reducible exact LeO.refl _)
   | (with_reducible exact LeO.none _)
   | (with_reducible refine LeO.ite ?_ ?_)
   | (with_reducible refine LeO.bind ?_ (fun _ => ?_))
   | exact tachographref02_Get.mono _ _ _
   | exact LeO.none _
   | refine LeO.ite ?_ ?_
   | refine LeO.bind ?_ (fun _ => ?_)
set_option maxHeartbeats 8000000 in
set_option maxRecDepth 100000 in
theorem tachographref03_Cursor_Text.calls (k : Nat) (a0_0 : ByteArray) (a0_1 : Int) (a0_2 : Int) (a1 : Int) (r1 : ByteArray) (r2 : Int) (r3 : Int) (r4 : ByteArray) (w : World) (h : tachographref03_Cursor_Text.f k a0_0 a0_1 a0_2 a1 = some (r1,r2,r3,r4)) :
  Calls Try.prog 41 #[.agg #[.string a0_0,.int .i64 a0_1,.int .i64 a0_2],.int .i64 a1] w fun e w' => e = .returned (.tuple #[.agg #[.string r1,.int .i64 r2,.int .i64 r3],.string r4]) ∧ Below w.heap.size w w':=by
 have hu59:=Try.underlying59
 have HB:=Aside0.mk (Below.refl w.heap.size w)
 have H : (if a0_2 = 0 then ((tachographref02_Get.f k a0_0 a1).bind fun bt256 => ((tachographref03_Cursor_on.f a0_0 a0_1 a0_2 bt256.2.1 bt256.2.2).bind fun bt259 => (some (bt259.1,bt259.2.1,bt259.2.2,bt256.1)))) else (some (a0_0,a0_1,a0_2,(⟨#[]⟩ : ByteArray)))) = some (r1,r2,r3,r4):=h
 clear h
 by_cases c3 : a0_2 = 0
 ·rw [if_pos c3] at H
  have c3b0 : (a0_2 == 0) = true:=beq_iff_eq.mpr c3
  have c3b1 : (a0_2 != 0) = false:=bne_eq_false_iff_eq.mpr c3
  clear c3
  replace H:=Option.bind_eq_some_iff.mp H
  obtain ⟨⟨t256,t257,t258⟩,A40,H⟩:=H
  replace H : ((tachographref03_Cursor_on.f a0_0 a0_1 a0_2 t257 t258).bind fun bt259 => (some (bt259.1,bt259.2.1,bt259.2.2,t256))) = some (r1,r2,r3,r4):=H
  have A4:=Aside0.mk A40
  clear A40
  replace H:=Option.bind_eq_some_iff.mp H
  obtain ⟨⟨t259,t260,t261⟩,A50,H⟩:=H
  replace H : (some (t259,t260,t261,t256)) = some (r1,r2,r3,r4):=H
  have A5:=Aside0.mk A50
  clear A50
  simp only [Option.some.injEq,Prod.mk.injEq] at H
  obtain ⟨rfl,rfl,rfl,rfl⟩:=H
  go_enter Try.func41,Try.ntmps41
  go_wp2_with (first | ((with_reducible refine gate_dst (N:=2) rfl ?_);refine box_event ?hg (N:=2) ?hd (cs:=#[.string a0_0,.int .i64 a0_1,.int .i64 a0_2]) (t:=59) ?hr ?_;(case hd => rfl);(case hg => rfl);(case hr => first | (go_simp;done) | (go_simp;rfl));intro gb254 hg w6 hbox hb;have n0_:=Aside0.mk (below_step (by repeat (first | (with_reducible first | exact HB.out | apply below_alloc | apply pw_below_drewN | apply below_drew1) | exact HB.out)) hb);have n1_:=Aside0.mk (hbox);have n2_:=Aside0.mk ((by rw [hg];exact (below_size (by repeat (first | (with_reducible first | exact HB.out | apply below_alloc | apply pw_below_drewN | apply below_drew1) | exact HB.out))) : w.heap.size ≤ gb254));have n3_:=Aside0.mk ((by rw [hg];exact (below_size (by repeat (first | (with_reducible first | exact HB.out | apply below_alloc | apply pw_below_drewN | apply below_drew1) | exact HB.out))) : w.heap.size ≤ gb254));clear HB;have HB:=n0_;have BK254:=n1_;have GW254:=n2_;have GE254:=n3_;clear n0_ n1_ n2_ n3_;clear hb hbox hg) | ((with_reducible refine gate_dst (N:=4) rfl ?_);refine box_event ?hg (N:=4) ?hd (cs:=#[.string (⟨#[]⟩ : ByteArray),.int .i64 0,.int .i64 0]) (t:=59) ?hr ?_;(case hd => rfl);(case hg => rfl);(case hr => first | (go_simp;done) | (go_simp;rfl));intro gb255 hg w7 hbox hb;have n0_:=Aside0.mk (blk_below (g:=gb254) (o:=.cells #[.string a0_0,.int .i64 a0_1,.int .i64 a0_2] 59 (0,0)) (by (with_reducible repeat (first | refine blk_drewN ?_ _ | refine blk_drew ?_ | refine blk_alloc ?_ _));exact BK254.out) hb);have n1_:=Aside0.mk (below_step (by repeat (first | (with_reducible first | exact HB.out | apply below_alloc | apply pw_below_drewN | apply below_drew1 | refine below_set ?_ GE254.out) | exact HB.out)) hb);have n2_:=Aside0.mk (hbox);have n3_:=Aside0.mk ((by rw [hg];exact (below_size (by repeat (first | (with_reducible first | exact HB.out | apply below_alloc | apply pw_below_drewN | apply below_drew1 | refine below_set ?_ GE254.out) | exact HB.out))) : w.heap.size ≤ gb255));have n4_:=Aside0.mk ((by rw [hg];exact (below_size (by repeat (first | (with_reducible first | exact HB.out | apply below_alloc | apply pw_below_drewN | apply below_drew1 | refine below_set ?_ GE254.out) | exact HB.out))) : w.heap.size ≤ gb255));have n5_:=Aside0.mk ((by rw [hg];exact Nat.ne_of_lt (blk_lt (g:=gb254) (o:=.cells #[.string a0_0,.int .i64 a0_1,.int .i64 a0_2] 59 (0,0)) (by (with_reducible repeat (first | refine blk_drewN ?_ _ | refine blk_drew ?_ | refine blk_alloc ?_ _));exact BK254.out)) : gb254 ≠ gb255));have n6_:=Aside0.mk ((by rw [hg];exact Nat.ne_of_gt (blk_lt (g:=gb254) (o:=.cells #[.string a0_0,.int .i64 a0_1,.int .i64 a0_2] 59 (0,0)) (by (with_reducible repeat (first | refine blk_drewN ?_ _ | refine blk_drew ?_ | refine blk_alloc ?_ _));exact BK254.out)) : gb255 ≠ gb254));clear BK254;clear HB;have BK254:=n0_;have HB:=n1_;have BK255:=n2_;have GW255:=n3_;have GE255:=n4_;have NB254_255:=n5_;have NB255_254:=n6_;clear n0_ n1_ n2_ n3_ n4_ n5_ n6_;clear hb hbox hg;have hnb8:=NB254_255.out;have hnc8:=NB255_254.out;have hcz9_0 : w7.cell? ⟨gb254,0,none⟩ = some (.string a0_0):=(blk_cell BK254.out 0).trans rfl;have hcz9_1 : w7.cell? ⟨gb254,1,none⟩ = some (.int .i64 a0_1):=(blk_cell BK254.out 1).trans rfl;have hcz9_2 : w7.cell? ⟨gb254,2,none⟩ = some (.int .i64 a0_2):=(blk_cell BK254.out 2).trans rfl;have hfz9_0:=blk_frozen BK254.out 0;have hfz9_1:=blk_frozen BK254.out 1;have hfz9_2:=blk_frozen BK254.out 2) | ((with_reducible refine gate_callee (f:=29) rfl ?_);refine goesL_ (some 17) rfl rfl Try.func29 (by kernel_rfl) rfl #[.string a0_0,.int .i64 a1] rfl (by (try simp only [List.map_toArray,List.map_cons,List.map_nil]);first | done | rfl | (simp only [List.length_drop,List.length_take];rfl)) ?_;(with_reducible refine (tachographref02_Get.calls k a0_0 a1 t256 t257 t258 _ A4.out).mono ?_);rintro e w' ⟨rfl,⟨nd,rfl⟩⟩;refine ⟨_,rfl,?_⟩;(try (rw [drewN_self w7];generalize hq_ : World.drewN w7 _ = w7;have n0_ : Aside0 (w7.heap[gb254]? = some (.cells #[.string a0_0,.int .i64 a0_1,.int .i64 a0_2] 59 (0,0))):=⟨by rw [← hq_];exact (by (with_reducible repeat (first | refine blk_drewN ?_ _ | refine blk_drew ?_ | refine blk_alloc ?_ _));exact BK254.out)⟩;have n1_ : Aside0 (w7.heap[gb255]? = some (.cells #[.string (⟨#[]⟩ : ByteArray),.int .i64 0,.int .i64 0] 59 (0,0))):=⟨by rw [← hq_];exact (by (with_reducible repeat (first | refine blk_drewN ?_ _ | refine blk_drew ?_ | refine blk_alloc ?_ _));exact BK255.out)⟩;have n2_ : Aside0 (Below w.heap.size w w7):=⟨by rw [← hq_];exact (by repeat (first | (with_reducible first | exact HB.out | apply below_alloc | apply pw_below_drewN | apply below_drew1 | refine below_set ?_ GE254.out | refine below_set ?_ GE255.out) | exact HB.out))⟩;clear BK254 BK255 HB hq_;have BK254:=n0_;have BK255:=n1_;have HB:=n2_;clear n0_ n1_ n2_));(try (have hczU254_0 : w7.cell? ⟨gb254,0,none⟩ = some (.string a0_0):=(blk_cell BK254.out 0).trans rfl));(try (have hczU254_1 : w7.cell? ⟨gb254,1,none⟩ = some (.int .i64 a0_1):=(blk_cell BK254.out 1).trans rfl));(try (have hczU254_2 : w7.cell? ⟨gb254,2,none⟩ = some (.int .i64 a0_2):=(blk_cell BK254.out 2).trans rfl));(try (have hczU255_0 : w7.cell? ⟨gb255,0,none⟩ = some (.string (⟨#[]⟩ : ByteArray)):=(blk_cell BK255.out 0).trans rfl));(try (have hczU255_1 : w7.cell? ⟨gb255,1,none⟩ = some (.int .i64 0):=(blk_cell BK255.out 1).trans rfl));(try (have hczU255_2 : w7.cell? ⟨gb255,2,none⟩ = some (.int .i64 0):=(blk_cell BK255.out 2).trans rfl))) | ((with_reducible refine gate_callee (f:=63) rfl ?_);refine goesL_ (some 24) rfl rfl Try.func63 (by kernel_rfl) rfl #[.agg #[.string a0_0,.int .i64 a0_1,.int .i64 a0_2],.int .i64 t257,.int .i64 t258] rfl (by (try simp only [List.map_toArray,List.map_cons,List.map_nil]);first | done | rfl | (simp only [List.length_drop,List.length_take];rfl)) ?_;(with_reducible refine (tachographref03_Cursor_on.calls a0_0 a0_1 a0_2 t257 t258 t259 t260 t261 _ A5.out).mono ?_);rintro e w10 ⟨rfl,hb⟩;refine ⟨_,rfl,?_⟩;have n0_:=Aside0.mk (blk_below (g:=gb254) (o:=.cells #[.string a0_0,.int .i64 a0_1,.int .i64 a0_2] 59 (0,0)) (by (with_reducible repeat (first | refine blk_drewN ?_ _ | refine blk_drew ?_ | refine blk_alloc ?_ _));exact BK254.out) hb);have n1_:=Aside0.mk (blk_below (g:=gb255) (o:=.cells #[.string (⟨#[]⟩ : ByteArray),.int .i64 0,.int .i64 0] 59 (0,0)) (by (with_reducible repeat (first | refine blk_drewN ?_ _ | refine blk_drew ?_ | refine blk_alloc ?_ _));exact BK255.out) hb);have n2_:=Aside0.mk (below_step (by repeat (first | (with_reducible first | exact HB.out | apply below_alloc | apply pw_below_drewN | apply below_drew1 | refine below_set ?_ GE254.out | refine below_set ?_ GE255.out) | exact HB.out)) hb);clear BK254;clear BK255;clear HB;have BK254:=n0_;have BK255:=n1_;have HB:=n2_;clear n0_ n1_ n2_;(try clear hb);(try clear hb2);(try clear hk);(try clear hi);have hcz11_0 : w10.cell? ⟨gb255,0,none⟩ = some (.string (⟨#[]⟩ : ByteArray)):=(blk_cell BK255.out 0).trans rfl;have hcz11_1 : w10.cell? ⟨gb255,1,none⟩ = some (.int .i64 0):=(blk_cell BK255.out 1).trans rfl;have hcz11_2 : w10.cell? ⟨gb255,2,none⟩ = some (.int .i64 0):=(blk_cell BK255.out 2).trans rfl;have hfz11_0:=blk_frozen BK255.out 0;have hfz11_1:=blk_frozen BK255.out 1;have hfz11_2:=blk_frozen BK255.out 2))
  refine bodyPost_ret (results_ct rfl _ _ gb255 59 #[.string t259,.int .i64 t260,.int .i64 t261] (0,0) _ rfl (by (with_reducible repeat (first | refine blk_drewN ?_ _ | refine blk_drew ?_ | refine blk_alloc ?_ _));refine blk_put (cs:=#[.string t259,.int .i64 t260,.int .i64 0]) ?_ 2 _ rfl;(with_reducible repeat (first | refine blk_drewN ?_ _ | refine blk_drew ?_ | refine blk_alloc ?_ _));refine blk_put (cs:=#[.string t259,.int .i64 0,.int .i64 0]) ?_ 1 _ rfl;(with_reducible repeat (first | refine blk_drewN ?_ _ | refine blk_drew ?_ | refine blk_alloc ?_ _));refine blk_put (cs:=#[.string (⟨#[]⟩ : ByteArray),.int .i64 0,.int .i64 0]) ?_ 0 _ rfl;(with_reducible repeat (first | refine blk_drewN ?_ _ | refine blk_drew ?_ | refine blk_alloc ?_ _));exact BK255.out) Try.underlying59 rfl (by kernel_rfl)) rfl ?_
  exact ⟨by first | rfl | (simp [errW_none,errW_some] <;> rfl) | (simp [*,errW_none,errW_some] <;> rfl),by repeat (first | (with_reducible first | exact HB.out | apply below_alloc | apply pw_below_drewN | apply below_drew1 | refine below_set ?_ GE254.out | refine below_set ?_ GE255.out) | exact HB.out)⟩
 ·rw [if_neg c3] at H
  have c3b0 : (a0_2 == 0) = false:=beq_eq_false_iff_ne.mpr c3
  have c3b1 : (a0_2 != 0) = true:=bne_iff_ne.mpr c3
  simp only [Option.some.injEq,Prod.mk.injEq] at H
  obtain ⟨rfl,rfl,rfl,rfl⟩:=H
  go_enter Try.func41,Try.ntmps41
  go_wp2_with (first | ((with_reducible refine gate_dst (N:=2) rfl ?_);refine box_event ?hg (N:=2) ?hd (cs:=#[.string a0_0,.int .i64 a0_1,.int .i64 a0_2]) (t:=59) ?hr ?_;(case hd => rfl);(case hg => rfl);(case hr => first | (go_simp;done) | (go_simp;rfl));intro gb254 hg w12 hbox hb;have n0_:=Aside0.mk (below_step (by repeat (first | (with_reducible first | exact HB.out | apply below_alloc | apply pw_below_drewN | apply below_drew1) | exact HB.out)) hb);have n1_:=Aside0.mk (hbox);have n2_:=Aside0.mk ((by rw [hg];exact (below_size (by repeat (first | (with_reducible first | exact HB.out | apply below_alloc | apply pw_below_drewN | apply below_drew1) | exact HB.out))) : w.heap.size ≤ gb254));have n3_:=Aside0.mk ((by rw [hg];exact (below_size (by repeat (first | (with_reducible first | exact HB.out | apply below_alloc | apply pw_below_drewN | apply below_drew1) | exact HB.out))) : w.heap.size ≤ gb254));clear HB;have HB:=n0_;have BK254:=n1_;have GW254:=n2_;have GE254:=n3_;clear n0_ n1_ n2_ n3_;clear hb hbox hg) | ((with_reducible refine gate_dst (N:=4) rfl ?_);refine box_event ?hg (N:=4) ?hd (cs:=#[.string (⟨#[]⟩ : ByteArray),.int .i64 0,.int .i64 0]) (t:=59) ?hr ?_;(case hd => rfl);(case hg => rfl);(case hr => first | (go_simp;done) | (go_simp;rfl));intro gb255 hg w13 hbox hb;have n0_:=Aside0.mk (blk_below (g:=gb254) (o:=.cells #[.string a0_0,.int .i64 a0_1,.int .i64 a0_2] 59 (0,0)) (by (with_reducible repeat (first | refine blk_drewN ?_ _ | refine blk_drew ?_ | refine blk_alloc ?_ _));exact BK254.out) hb);have n1_:=Aside0.mk (below_step (by repeat (first | (with_reducible first | exact HB.out | apply below_alloc | apply pw_below_drewN | apply below_drew1 | refine below_set ?_ GE254.out) | exact HB.out)) hb);have n2_:=Aside0.mk (hbox);have n3_:=Aside0.mk ((by rw [hg];exact (below_size (by repeat (first | (with_reducible first | exact HB.out | apply below_alloc | apply pw_below_drewN | apply below_drew1 | refine below_set ?_ GE254.out) | exact HB.out))) : w.heap.size ≤ gb255));have n4_:=Aside0.mk ((by rw [hg];exact (below_size (by repeat (first | (with_reducible first | exact HB.out | apply below_alloc | apply pw_below_drewN | apply below_drew1 | refine below_set ?_ GE254.out) | exact HB.out))) : w.heap.size ≤ gb255));have n5_:=Aside0.mk ((by rw [hg];exact Nat.ne_of_lt (blk_lt (g:=gb254) (o:=.cells #[.string a0_0,.int .i64 a0_1,.int .i64 a0_2] 59 (0,0)) (by (with_reducible repeat (first | refine blk_drewN ?_ _ | refine blk_drew ?_ | refine blk_alloc ?_ _));exact BK254.out)) : gb254 ≠ gb255));have n6_:=Aside0.mk ((by rw [hg];exact Nat.ne_of_gt (blk_lt (g:=gb254) (o:=.cells #[.string a0_0,.int .i64 a0_1,.int .i64 a0_2] 59 (0,0)) (by (with_reducible repeat (first | refine blk_drewN ?_ _ | refine blk_drew ?_ | refine blk_alloc ?_ _));exact BK254.out)) : gb255 ≠ gb254));clear BK254;clear HB;have BK254:=n0_;have HB:=n1_;have BK255:=n2_;have GW255:=n3_;have GE255:=n4_;have NB254_255:=n5_;have NB255_254:=n6_;clear n0_ n1_ n2_ n3_ n4_ n5_ n6_;clear hb hbox hg;have hnb14:=NB254_255.out;have hnc14:=NB255_254.out;have hcz15_0 : w13.cell? ⟨gb254,0,none⟩ = some (.string a0_0):=(blk_cell BK254.out 0).trans rfl;have hcz15_1 : w13.cell? ⟨gb254,1,none⟩ = some (.int .i64 a0_1):=(blk_cell BK254.out 1).trans rfl;have hcz15_2 : w13.cell? ⟨gb254,2,none⟩ = some (.int .i64 a0_2):=(blk_cell BK254.out 2).trans rfl;have hfz15_0:=blk_frozen BK254.out 0;have hfz15_1:=blk_frozen BK254.out 1;have hfz15_2:=blk_frozen BK254.out 2;have hcz16_0 : w13.cell? ⟨gb255,0,none⟩ = some (.string (⟨#[]⟩ : ByteArray)):=(blk_cell BK255.out 0).trans rfl;have hcz16_1 : w13.cell? ⟨gb255,1,none⟩ = some (.int .i64 0):=(blk_cell BK255.out 1).trans rfl;have hcz16_2 : w13.cell? ⟨gb255,2,none⟩ = some (.int .i64 0):=(blk_cell BK255.out 2).trans rfl;have hfz16_0:=blk_frozen BK255.out 0;have hfz16_1:=blk_frozen BK255.out 1;have hfz16_2:=blk_frozen BK255.out 2))
  refine bodyPost_ret (results_ct rfl _ _ gb255 59 #[.string a0_0,.int .i64 a0_1,.int .i64 a0_2] (0,0) _ rfl (by (with_reducible repeat (first | refine blk_drewN ?_ _ | refine blk_drew ?_ | refine blk_alloc ?_ _));refine blk_put (cs:=#[.string a0_0,.int .i64 a0_1,.int .i64 0]) ?_ 2 _ rfl;(with_reducible repeat (first | refine blk_drewN ?_ _ | refine blk_drew ?_ | refine blk_alloc ?_ _));refine blk_put (cs:=#[.string a0_0,.int .i64 0,.int .i64 0]) ?_ 1 _ rfl;(with_reducible repeat (first | refine blk_drewN ?_ _ | refine blk_drew ?_ | refine blk_alloc ?_ _));refine blk_put (cs:=#[.string (⟨#[]⟩ : ByteArray),.int .i64 0,.int .i64 0]) ?_ 0 _ rfl;(with_reducible repeat (first | refine blk_drewN ?_ _ | refine blk_drew ?_ | refine blk_alloc ?_ _));exact BK255.out) Try.underlying59 rfl (by kernel_rfl)) rfl ?_
  exact ⟨by first | rfl | (simp [errW_none,errW_some] <;> rfl) | (simp [*,errW_none,errW_some] <;> rfl),by repeat (first | (with_reducible first | exact HB.out | apply below_alloc | apply pw_below_drewN | apply below_drew1 | refine below_set ?_ GE254.out | refine below_set ?_ GE255.out) | exact HB.out)⟩

/-! ### tachographref03_Cursor_Done: function 43 -/
def tachographref03_Cursor_Done.f (a0_0 : ByteArray) (a0_1 : Int) (a0_2 : Int) : Option (ByteArray × Int × Int × Bool) := if a0_2 = 0 then (if a0_0.toList = ([] : List UInt8) then (some (a0_0, a0_1, a0_2, (a0_2 == 0))) else ((tachographref03_Cursor_on.f a0_0 a0_1 a0_2 0 4).bind fun bt264 => (some (bt264.1, bt264.2.1, bt264.2.2, false)))) else (some (a0_0, a0_1, a0_2, (a0_2 == 0)))
set_option maxHeartbeats 8000000 in
set_option maxRecDepth 100000 in
theorem tachographref03_Cursor_Done.calls (a0_0 : ByteArray) (a0_1 : Int) (a0_2 : Int) (r1 : ByteArray) (r2 : Int) (r3 : Int) (r4 : Bool) (w : World) (h : tachographref03_Cursor_Done.f a0_0 a0_1 a0_2 = some (r1,r2,r3,r4)) :
  Calls Try.prog 43 #[.agg #[.string a0_0,.int .i64 a0_1,.int .i64 a0_2]] w fun e w' => e = .returned (.tuple #[.agg #[.string r1,.int .i64 r2,.int .i64 r3],.bool r4]) ∧ Below w.heap.size w w':=by
 have hu59:=Try.underlying59
 have HB:=Aside0.mk (Below.refl w.heap.size w)
 have H : (if a0_2 = 0 then (if a0_0.toList = ([] : List UInt8) then (some (a0_0,a0_1,a0_2,(a0_2 == 0))) else ((tachographref03_Cursor_on.f a0_0 a0_1 a0_2 0 4).bind fun bt264 => (some (bt264.1,bt264.2.1,bt264.2.2,false)))) else (some (a0_0,a0_1,a0_2,(a0_2 == 0)))) = some (r1,r2,r3,r4):=h
 clear h
 by_cases c2 : a0_2 = 0
 ·rw [if_pos c2] at H
  have c2b0 : (a0_2 == 0) = true:=beq_iff_eq.mpr c2
  have c2b1 : (a0_2 != 0) = false:=bne_eq_false_iff_eq.mpr c2
  clear c2
  by_cases c3 : a0_0.toList = ([] : List UInt8)
  ·rw [if_pos c3] at H
   have c3b0 : (a0_0.toList == ([] : List UInt8)) = true:=beq_iff_eq.mpr c3
   have c3b1 : (a0_0.toList != ([] : List UInt8)) = false:=bne_eq_false_iff_eq.mpr c3
   clear c3
   simp only [Option.some.injEq,Prod.mk.injEq] at H
   obtain ⟨rfl,rfl,rfl,rfl⟩:=H
   go_enter Try.func43,Try.ntmps43
   try go_wp2_with (first | ((with_reducible refine gate_dst (N:=1) rfl ?_);refine box_event ?hg (N:=1) ?hd (cs:=#[.string a0_0,.int .i64 a0_1,.int .i64 a0_2]) (t:=59) ?hr ?_;(case hd => rfl);(case hg => rfl);(case hr => first | (go_simp;done) | (go_simp;rfl));intro gb262 hg w4 hbox hb;have n0_:=Aside0.mk (below_step (by repeat (first | (with_reducible first | exact HB.out | apply below_alloc | apply pw_below_drewN | apply below_drew1) | exact HB.out)) hb);have n1_:=Aside0.mk (hbox);have n2_:=Aside0.mk ((by rw [hg];exact (below_size (by repeat (first | (with_reducible first | exact HB.out | apply below_alloc | apply pw_below_drewN | apply below_drew1) | exact HB.out))) : w.heap.size ≤ gb262));have n3_:=Aside0.mk ((by rw [hg];exact (below_size (by repeat (first | (with_reducible first | exact HB.out | apply below_alloc | apply pw_below_drewN | apply below_drew1) | exact HB.out))) : w.heap.size ≤ gb262));clear HB;have HB:=n0_;have BK262:=n1_;have GW262:=n2_;have GE262:=n3_;clear n0_ n1_ n2_ n3_;clear hb hbox hg) | ((with_reducible refine gate_dst (N:=2) rfl ?_);refine box_event ?hg (N:=2) ?hd (cs:=#[.string (⟨#[]⟩ : ByteArray),.int .i64 0,.int .i64 0]) (t:=59) ?hr ?_;(case hd => rfl);(case hg => rfl);(case hr => first | (go_simp;done) | (go_simp;rfl));intro gb263 hg w5 hbox hb;have n0_:=Aside0.mk (blk_below (g:=gb262) (o:=.cells #[.string a0_0,.int .i64 a0_1,.int .i64 a0_2] 59 (0,0)) (by (with_reducible repeat (first | refine blk_drewN ?_ _ | refine blk_drew ?_ | refine blk_alloc ?_ _));exact BK262.out) hb);have n1_:=Aside0.mk (below_step (by repeat (first | (with_reducible first | exact HB.out | apply below_alloc | apply pw_below_drewN | apply below_drew1 | refine below_set ?_ GE262.out) | exact HB.out)) hb);have n2_:=Aside0.mk (hbox);have n3_:=Aside0.mk ((by rw [hg];exact (below_size (by repeat (first | (with_reducible first | exact HB.out | apply below_alloc | apply pw_below_drewN | apply below_drew1 | refine below_set ?_ GE262.out) | exact HB.out))) : w.heap.size ≤ gb263));have n4_:=Aside0.mk ((by rw [hg];exact (below_size (by repeat (first | (with_reducible first | exact HB.out | apply below_alloc | apply pw_below_drewN | apply below_drew1 | refine below_set ?_ GE262.out) | exact HB.out))) : w.heap.size ≤ gb263));have n5_:=Aside0.mk ((by rw [hg];exact Nat.ne_of_lt (blk_lt (g:=gb262) (o:=.cells #[.string a0_0,.int .i64 a0_1,.int .i64 a0_2] 59 (0,0)) (by (with_reducible repeat (first | refine blk_drewN ?_ _ | refine blk_drew ?_ | refine blk_alloc ?_ _));exact BK262.out)) : gb262 ≠ gb263));have n6_:=Aside0.mk ((by rw [hg];exact Nat.ne_of_gt (blk_lt (g:=gb262) (o:=.cells #[.string a0_0,.int .i64 a0_1,.int .i64 a0_2] 59 (0,0)) (by (with_reducible repeat (first | refine blk_drewN ?_ _ | refine blk_drew ?_ | refine blk_alloc ?_ _));exact BK262.out)) : gb263 ≠ gb262));clear BK262;clear HB;have BK262:=n0_;have HB:=n1_;have BK263:=n2_;have GW263:=n3_;have GE263:=n4_;have NB262_263:=n5_;have NB263_262:=n6_;clear n0_ n1_ n2_ n3_ n4_ n5_ n6_;clear hb hbox hg;have hnb6:=NB262_263.out;have hnc6:=NB263_262.out;have hcz7_0 : w5.cell? ⟨gb262,0,none⟩ = some (.string a0_0):=(blk_cell BK262.out 0).trans rfl;have hcz7_1 : w5.cell? ⟨gb262,1,none⟩ = some (.int .i64 a0_1):=(blk_cell BK262.out 1).trans rfl;have hcz7_2 : w5.cell? ⟨gb262,2,none⟩ = some (.int .i64 a0_2):=(blk_cell BK262.out 2).trans rfl;have hfz7_0:=blk_frozen BK262.out 0;have hfz7_1:=blk_frozen BK262.out 1;have hfz7_2:=blk_frozen BK262.out 2))
   have n0_:=Aside0.mk (blk_drew BK262.out)
   have n1_:=Aside0.mk (blk_drew BK263.out)
   have n2_:=Aside0.mk (below_drew1 HB.out)
   clear BK262
   clear BK263
   clear HB
   have BK262:=n0_
   have BK263:=n1_
   have HB:=n2_
   clear n0_ n1_ n2_
   refine start_ (n:=6) (S:=fun w' => w'.cell? ⟨gb262,0,none⟩ = some (.string a0_0) ∧ w'.cell? ⟨gb262,1,none⟩ = some (.int .i64 a0_1) ∧ w'.cell? ⟨gb262,2,none⟩ = some (.int .i64 a0_2)) (ds:=[]) #[n_,n_,n_,n_,n_,n_] (by kernel_rfl) rfl rfl ⟨(blk_cell BK262.out 0).trans rfl,(blk_cell BK262.out 1).trans rfl,(blk_cell BK262.out 2).trans rfl⟩ (fun hHeld => ?_)
   generalize w5.drew = w8 at BK262 BK263 HB hHeld ⊢
   refine pure_ (i:=1) (N:=some 15) (v:=?_) (a':=?_) #[n_,y_,n_,n_,n_,n_] rfl rfl (by kernel_rfl) (fun _ _ _ h => h) (Or.inl ⟨by rfl,?_⟩) ?_ ?_
   rotate_left
   ·intro w'
    go_simp
    with_reducible rfl
   rotate_left
   ·simp only [Act.put,sA_,sB_,sC_,i64_w,i32_w]
    rfl
   refine take_ (i:=0) (N:=some 14) (v:=?_) (a':=?_) #[y_,y_,n_,n_,n_,n_] rfl rfl (by kernel_rfl) (fun _ _ _ h => h) (Or.inl ⟨by rfl,?_⟩) hHeld ?_ ?_
   rotate_left
   ·rintro w' ⟨s0,s1,s2⟩
    go_simp
    with_reducible rfl
   rotate_left
   ·simp only [Act.put,sA_,sB_,sC_,i64_w,i32_w]
    rfl
   refine take_ (i:=2) (N:=some 16) (v:=?_) (a':=?_) #[y_,y_,y_,n_,n_,n_] rfl rfl (by kernel_rfl) (fun _ _ _ h => h) (Or.inl ⟨by rfl,?_⟩) hHeld ?_ ?_
   rotate_left
   ·rintro w' ⟨s0,s1,s2⟩
    go_simp
    with_reducible rfl
   rotate_left
   ·simp only [Act.put,sA_,sB_,sC_,i64_w,i32_w]
    rfl
   refine pure_ (i:=3) (N:=some 17) (v:=?_) (a':=?_) #[y_,y_,y_,y_,n_,n_] rfl rfl (by kernel_rfl) (fun _ _ _ h => h) (Or.inl ⟨by rfl,?_⟩) ?_ ?_
   rotate_left
   ·intro w'
    go_simp
    with_reducible rfl
   rotate_left
   ·simp only [Act.put,sA_,sB_,sC_,i64_w,i32_w]
    rfl
   refine one_ (i:=4) (N:=none) #[y_,y_,y_,y_,y_,n_] rfl rfl (by kernel_rfl) (by decide) (fun K hK => ?_)
   have hs9 : w8.cell? ⟨gb263,0,none⟩ = some (.string (⟨#[]⟩ : ByteArray)):=(blk_cell BK263.out 0).trans rfl
   have hfs9:=blk_frozen BK263.out 0
   have hns9_0:=NB262_263.out
   have hms9_0:=NB263_262.out
   have hs10 : w8.cell? ⟨gb263,1,none⟩ = some (.int .i64 0):=(blk_cell BK263.out 1).trans rfl
   have hfs10:=blk_frozen BK263.out 1
   have hns10_0:=NB262_263.out
   have hms10_0:=NB263_262.out
   have hs11 : w8.cell? ⟨gb263,2,none⟩ = some (.int .i64 0):=(blk_cell BK263.out 2).trans rfl
   have hfs11:=blk_frozen BK263.out 2
   have hns11_0:=NB262_263.out
   have hms11_0:=NB263_262.out
   refine skip_ (w1:=?_) (by rfl) rfl ?_ ?_
   rotate_left
   ·go_simp
    rfl
   refine hK.out _ _ ⟨((cell_far (p:=⟨gb263,_,none⟩) NB262_263.out _).trans (((cell_far (p:=⟨gb263,_,none⟩) NB262_263.out _).trans (((cell_far (p:=⟨gb263,_,none⟩) NB262_263.out _).trans (hHeld.1)))))),((cell_far (p:=⟨gb263,_,none⟩) NB262_263.out _).trans (((cell_far (p:=⟨gb263,_,none⟩) NB262_263.out _).trans (((cell_far (p:=⟨gb263,_,none⟩) NB262_263.out _).trans (hHeld.2.1)))))),((cell_far (p:=⟨gb263,_,none⟩) NB262_263.out _).trans (((cell_far (p:=⟨gb263,_,none⟩) NB262_263.out _).trans (((cell_far (p:=⟨gb263,_,none⟩) NB262_263.out _).trans (hHeld.2.2))))))⟩ (fun hHeld => ?_)
   clear hK K
   refine pure_ (i:=5) (N:=some 3) (v:=?_) (a':=?_) #[y_,y_,y_,y_,y_,y_] rfl rfl (by kernel_rfl) (fun _ _ _ h => h) (Or.inl ⟨by rfl,?_⟩) ?_ ?_
   rotate_left
   ·intro w'
    go_simp
    with_reducible rfl
   rotate_left
   ·simp only [Act.put,sA_,sB_,sC_,i64_w,i32_w]
    rfl
   refine done_ (by kernel_rfl) ?_
   try go_wp2
   refine bodyPost_ret (results_ct rfl _ _ gb263 59 #[.string a0_0,.int .i64 a0_1,.int .i64 a0_2] (0,0) _ rfl (by (with_reducible repeat (first | refine blk_drewN ?_ _ | refine blk_drew ?_ | refine blk_alloc ?_ _));refine blk_put (cs:=#[.string a0_0,.int .i64 a0_1,.int .i64 0]) ?_ 2 _ rfl;(with_reducible repeat (first | refine blk_drewN ?_ _ | refine blk_drew ?_ | refine blk_alloc ?_ _));refine blk_put (cs:=#[.string a0_0,.int .i64 0,.int .i64 0]) ?_ 1 _ rfl;(with_reducible repeat (first | refine blk_drewN ?_ _ | refine blk_drew ?_ | refine blk_alloc ?_ _));refine blk_put (cs:=#[.string (⟨#[]⟩ : ByteArray),.int .i64 0,.int .i64 0]) ?_ 0 _ rfl;(with_reducible repeat (first | refine blk_drewN ?_ _ | refine blk_drew ?_ | refine blk_alloc ?_ _));exact BK263.out) Try.underlying59 rfl (by kernel_rfl)) rfl ?_
   exact ⟨by first | rfl | (simp [errW_none,errW_some] <;> rfl) | (simp [*,errW_none,errW_some] <;> rfl),by repeat (first | (with_reducible first | exact HB.out | apply below_alloc | apply pw_below_drewN | apply below_drew1 | refine below_set ?_ GE262.out | refine below_set ?_ GE263.out) | exact HB.out)⟩
  ·rw [if_neg c3] at H
   have c3b0 : (a0_0.toList == ([] : List UInt8)) = false:=beq_eq_false_iff_ne.mpr c3
   have c3b1 : (a0_0.toList != ([] : List UInt8)) = true:=bne_iff_ne.mpr c3
   replace H:=Option.bind_eq_some_iff.mp H
   obtain ⟨⟨t264,t265,t266⟩,A120,H⟩:=H
   replace H : (some (t264,t265,t266,false)) = some (r1,r2,r3,r4):=H
   have A12:=Aside0.mk A120
   clear A120
   simp only [Option.some.injEq,Prod.mk.injEq] at H
   obtain ⟨rfl,rfl,rfl,rfl⟩:=H
   go_enter Try.func43,Try.ntmps43
   go_wp2_with (first | ((with_reducible refine gate_dst (N:=1) rfl ?_);refine box_event ?hg (N:=1) ?hd (cs:=#[.string a0_0,.int .i64 a0_1,.int .i64 a0_2]) (t:=59) ?hr ?_;(case hd => rfl);(case hg => rfl);(case hr => first | (go_simp;done) | (go_simp;rfl));intro gb262 hg w13 hbox hb;have n0_:=Aside0.mk (below_step (by repeat (first | (with_reducible first | exact HB.out | apply below_alloc | apply pw_below_drewN | apply below_drew1) | exact HB.out)) hb);have n1_:=Aside0.mk (hbox);have n2_:=Aside0.mk ((by rw [hg];exact (below_size (by repeat (first | (with_reducible first | exact HB.out | apply below_alloc | apply pw_below_drewN | apply below_drew1) | exact HB.out))) : w.heap.size ≤ gb262));have n3_:=Aside0.mk ((by rw [hg];exact (below_size (by repeat (first | (with_reducible first | exact HB.out | apply below_alloc | apply pw_below_drewN | apply below_drew1) | exact HB.out))) : w.heap.size ≤ gb262));clear HB;have HB:=n0_;have BK262:=n1_;have GW262:=n2_;have GE262:=n3_;clear n0_ n1_ n2_ n3_;clear hb hbox hg) | ((with_reducible refine gate_dst (N:=2) rfl ?_);refine box_event ?hg (N:=2) ?hd (cs:=#[.string (⟨#[]⟩ : ByteArray),.int .i64 0,.int .i64 0]) (t:=59) ?hr ?_;(case hd => rfl);(case hg => rfl);(case hr => first | (go_simp;done) | (go_simp;rfl));intro gb263 hg w14 hbox hb;have n0_:=Aside0.mk (blk_below (g:=gb262) (o:=.cells #[.string a0_0,.int .i64 a0_1,.int .i64 a0_2] 59 (0,0)) (by (with_reducible repeat (first | refine blk_drewN ?_ _ | refine blk_drew ?_ | refine blk_alloc ?_ _));exact BK262.out) hb);have n1_:=Aside0.mk (below_step (by repeat (first | (with_reducible first | exact HB.out | apply below_alloc | apply pw_below_drewN | apply below_drew1 | refine below_set ?_ GE262.out) | exact HB.out)) hb);have n2_:=Aside0.mk (hbox);have n3_:=Aside0.mk ((by rw [hg];exact (below_size (by repeat (first | (with_reducible first | exact HB.out | apply below_alloc | apply pw_below_drewN | apply below_drew1 | refine below_set ?_ GE262.out) | exact HB.out))) : w.heap.size ≤ gb263));have n4_:=Aside0.mk ((by rw [hg];exact (below_size (by repeat (first | (with_reducible first | exact HB.out | apply below_alloc | apply pw_below_drewN | apply below_drew1 | refine below_set ?_ GE262.out) | exact HB.out))) : w.heap.size ≤ gb263));have n5_:=Aside0.mk ((by rw [hg];exact Nat.ne_of_lt (blk_lt (g:=gb262) (o:=.cells #[.string a0_0,.int .i64 a0_1,.int .i64 a0_2] 59 (0,0)) (by (with_reducible repeat (first | refine blk_drewN ?_ _ | refine blk_drew ?_ | refine blk_alloc ?_ _));exact BK262.out)) : gb262 ≠ gb263));have n6_:=Aside0.mk ((by rw [hg];exact Nat.ne_of_gt (blk_lt (g:=gb262) (o:=.cells #[.string a0_0,.int .i64 a0_1,.int .i64 a0_2] 59 (0,0)) (by (with_reducible repeat (first | refine blk_drewN ?_ _ | refine blk_drew ?_ | refine blk_alloc ?_ _));exact BK262.out)) : gb263 ≠ gb262));clear BK262;clear HB;have BK262:=n0_;have HB:=n1_;have BK263:=n2_;have GW263:=n3_;have GE263:=n4_;have NB262_263:=n5_;have NB263_262:=n6_;clear n0_ n1_ n2_ n3_ n4_ n5_ n6_;clear hb hbox hg;have hnb15:=NB262_263.out;have hnc15:=NB263_262.out;have hcz16_0 : w14.cell? ⟨gb262,0,none⟩ = some (.string a0_0):=(blk_cell BK262.out 0).trans rfl;have hcz16_1 : w14.cell? ⟨gb262,1,none⟩ = some (.int .i64 a0_1):=(blk_cell BK262.out 1).trans rfl;have hcz16_2 : w14.cell? ⟨gb262,2,none⟩ = some (.int .i64 a0_2):=(blk_cell BK262.out 2).trans rfl;have hfz16_0:=blk_frozen BK262.out 0;have hfz16_1:=blk_frozen BK262.out 1;have hfz16_2:=blk_frozen BK262.out 2) | ((with_reducible refine gate_callee (f:=63) rfl ?_);refine goesL_ (some 13) rfl rfl Try.func63 (by kernel_rfl) rfl #[.agg #[.string a0_0,.int .i64 a0_1,.int .i64 a0_2],.int .i64 0,.int .i64 4] rfl (by (try simp only [List.map_toArray,List.map_cons,List.map_nil]);first | done | rfl | (simp only [List.length_drop,List.length_take];rfl)) ?_;(with_reducible refine (tachographref03_Cursor_on.calls a0_0 a0_1 a0_2 0 4 t264 t265 t266 _ A12.out).mono ?_);rintro e w17 ⟨rfl,hb⟩;refine ⟨_,rfl,?_⟩;have n0_:=Aside0.mk (blk_below (g:=gb262) (o:=.cells #[.string a0_0,.int .i64 a0_1,.int .i64 a0_2] 59 (0,0)) (by (with_reducible repeat (first | refine blk_drewN ?_ _ | refine blk_drew ?_ | refine blk_alloc ?_ _));exact BK262.out) hb);have n1_:=Aside0.mk (blk_below (g:=gb263) (o:=.cells #[.string (⟨#[]⟩ : ByteArray),.int .i64 0,.int .i64 0] 59 (0,0)) (by (with_reducible repeat (first | refine blk_drewN ?_ _ | refine blk_drew ?_ | refine blk_alloc ?_ _));exact BK263.out) hb);have n2_:=Aside0.mk (below_step (by repeat (first | (with_reducible first | exact HB.out | apply below_alloc | apply pw_below_drewN | apply below_drew1 | refine below_set ?_ GE262.out | refine below_set ?_ GE263.out) | exact HB.out)) hb);clear BK262;clear BK263;clear HB;have BK262:=n0_;have BK263:=n1_;have HB:=n2_;clear n0_ n1_ n2_;(try clear hb);(try clear hb2);(try clear hk);(try clear hi);have hcz18_0 : w17.cell? ⟨gb263,0,none⟩ = some (.string (⟨#[]⟩ : ByteArray)):=(blk_cell BK263.out 0).trans rfl;have hcz18_1 : w17.cell? ⟨gb263,1,none⟩ = some (.int .i64 0):=(blk_cell BK263.out 1).trans rfl;have hcz18_2 : w17.cell? ⟨gb263,2,none⟩ = some (.int .i64 0):=(blk_cell BK263.out 2).trans rfl;have hfz18_0:=blk_frozen BK263.out 0;have hfz18_1:=blk_frozen BK263.out 1;have hfz18_2:=blk_frozen BK263.out 2))
   refine bodyPost_ret (results_ct rfl _ _ gb263 59 #[.string t264,.int .i64 t265,.int .i64 t266] (0,0) _ rfl (by (with_reducible repeat (first | refine blk_drewN ?_ _ | refine blk_drew ?_ | refine blk_alloc ?_ _));refine blk_put (cs:=#[.string t264,.int .i64 t265,.int .i64 0]) ?_ 2 _ rfl;(with_reducible repeat (first | refine blk_drewN ?_ _ | refine blk_drew ?_ | refine blk_alloc ?_ _));refine blk_put (cs:=#[.string t264,.int .i64 0,.int .i64 0]) ?_ 1 _ rfl;(with_reducible repeat (first | refine blk_drewN ?_ _ | refine blk_drew ?_ | refine blk_alloc ?_ _));refine blk_put (cs:=#[.string (⟨#[]⟩ : ByteArray),.int .i64 0,.int .i64 0]) ?_ 0 _ rfl;(with_reducible repeat (first | refine blk_drewN ?_ _ | refine blk_drew ?_ | refine blk_alloc ?_ _));exact BK263.out) Try.underlying59 rfl (by kernel_rfl)) rfl ?_
   exact ⟨by first | rfl | (simp [errW_none,errW_some] <;> rfl) | (simp [*,errW_none,errW_some] <;> rfl),by repeat (first | (with_reducible first | exact HB.out | apply below_alloc | apply pw_below_drewN | apply below_drew1 | refine below_set ?_ GE262.out | refine below_set ?_ GE263.out) | exact HB.out)⟩
 ·rw [if_neg c2] at H
  have c2b0 : (a0_2 == 0) = false:=beq_eq_false_iff_ne.mpr c2
  have c2b1 : (a0_2 != 0) = true:=bne_iff_ne.mpr c2
  simp only [Option.some.injEq,Prod.mk.injEq] at H
  obtain ⟨rfl,rfl,rfl,rfl⟩:=H
  go_enter Try.func43,Try.ntmps43
  try go_wp2_with (first | ((with_reducible refine gate_dst (N:=1) rfl ?_);refine box_event ?hg (N:=1) ?hd (cs:=#[.string a0_0,.int .i64 a0_1,.int .i64 a0_2]) (t:=59) ?hr ?_;(case hd => rfl);(case hg => rfl);(case hr => first | (go_simp;done) | (go_simp;rfl));intro gb262 hg w19 hbox hb;have n0_:=Aside0.mk (below_step (by repeat (first | (with_reducible first | exact HB.out | apply below_alloc | apply pw_below_drewN | apply below_drew1) | exact HB.out)) hb);have n1_:=Aside0.mk (hbox);have n2_:=Aside0.mk ((by rw [hg];exact (below_size (by repeat (first | (with_reducible first | exact HB.out | apply below_alloc | apply pw_below_drewN | apply below_drew1) | exact HB.out))) : w.heap.size ≤ gb262));have n3_:=Aside0.mk ((by rw [hg];exact (below_size (by repeat (first | (with_reducible first | exact HB.out | apply below_alloc | apply pw_below_drewN | apply below_drew1) | exact HB.out))) : w.heap.size ≤ gb262));clear HB;have HB:=n0_;have BK262:=n1_;have GW262:=n2_;have GE262:=n3_;clear n0_ n1_ n2_ n3_;clear hb hbox hg) | ((with_reducible refine gate_dst (N:=2) rfl ?_);refine box_event ?hg (N:=2) ?hd (cs:=#[.string (⟨#[]⟩ : ByteArray),.int .i64 0,.int .i64 0]) (t:=59) ?hr ?_;(case hd => rfl);(case hg => rfl);(case hr => first | (go_simp;done) | (go_simp;rfl));intro gb263 hg w20 hbox hb;have n0_:=Aside0.mk (blk_below (g:=gb262) (o:=.cells #[.string a0_0,.int .i64 a0_1,.int .i64 a0_2] 59 (0,0)) (by (with_reducible repeat (first | refine blk_drewN ?_ _ | refine blk_drew ?_ | refine blk_alloc ?_ _));exact BK262.out) hb);have n1_:=Aside0.mk (below_step (by repeat (first | (with_reducible first | exact HB.out | apply below_alloc | apply pw_below_drewN | apply below_drew1 | refine below_set ?_ GE262.out) | exact HB.out)) hb);have n2_:=Aside0.mk (hbox);have n3_:=Aside0.mk ((by rw [hg];exact (below_size (by repeat (first | (with_reducible first | exact HB.out | apply below_alloc | apply pw_below_drewN | apply below_drew1 | refine below_set ?_ GE262.out) | exact HB.out))) : w.heap.size ≤ gb263));have n4_:=Aside0.mk ((by rw [hg];exact (below_size (by repeat (first | (with_reducible first | exact HB.out | apply below_alloc | apply pw_below_drewN | apply below_drew1 | refine below_set ?_ GE262.out) | exact HB.out))) : w.heap.size ≤ gb263));have n5_:=Aside0.mk ((by rw [hg];exact Nat.ne_of_lt (blk_lt (g:=gb262) (o:=.cells #[.string a0_0,.int .i64 a0_1,.int .i64 a0_2] 59 (0,0)) (by (with_reducible repeat (first | refine blk_drewN ?_ _ | refine blk_drew ?_ | refine blk_alloc ?_ _));exact BK262.out)) : gb262 ≠ gb263));have n6_:=Aside0.mk ((by rw [hg];exact Nat.ne_of_gt (blk_lt (g:=gb262) (o:=.cells #[.string a0_0,.int .i64 a0_1,.int .i64 a0_2] 59 (0,0)) (by (with_reducible repeat (first | refine blk_drewN ?_ _ | refine blk_drew ?_ | refine blk_alloc ?_ _));exact BK262.out)) : gb263 ≠ gb262));clear BK262;clear HB;have BK262:=n0_;have HB:=n1_;have BK263:=n2_;have GW263:=n3_;have GE263:=n4_;have NB262_263:=n5_;have NB263_262:=n6_;clear n0_ n1_ n2_ n3_ n4_ n5_ n6_;clear hb hbox hg;have hnb21:=NB262_263.out;have hnc21:=NB263_262.out;have hcz22_0 : w20.cell? ⟨gb262,0,none⟩ = some (.string a0_0):=(blk_cell BK262.out 0).trans rfl;have hcz22_1 : w20.cell? ⟨gb262,1,none⟩ = some (.int .i64 a0_1):=(blk_cell BK262.out 1).trans rfl;have hcz22_2 : w20.cell? ⟨gb262,2,none⟩ = some (.int .i64 a0_2):=(blk_cell BK262.out 2).trans rfl;have hfz22_0:=blk_frozen BK262.out 0;have hfz22_1:=blk_frozen BK262.out 1;have hfz22_2:=blk_frozen BK262.out 2))
  have n0_:=Aside0.mk (blk_drew BK262.out)
  have n1_:=Aside0.mk (blk_drew BK263.out)
  have n2_:=Aside0.mk (below_drew1 HB.out)
  clear BK262
  clear BK263
  clear HB
  have BK262:=n0_
  have BK263:=n1_
  have HB:=n2_
  clear n0_ n1_ n2_
  refine start_ (n:=6) (S:=fun w' => w'.cell? ⟨gb262,0,none⟩ = some (.string a0_0) ∧ w'.cell? ⟨gb262,1,none⟩ = some (.int .i64 a0_1) ∧ w'.cell? ⟨gb262,2,none⟩ = some (.int .i64 a0_2)) (ds:=[]) #[n_,n_,n_,n_,n_,n_] (by kernel_rfl) rfl rfl ⟨(blk_cell BK262.out 0).trans rfl,(blk_cell BK262.out 1).trans rfl,(blk_cell BK262.out 2).trans rfl⟩ (fun hHeld => ?_)
  generalize w20.drew = w23 at BK262 BK263 HB hHeld ⊢
  refine pure_ (i:=1) (N:=some 15) (v:=?_) (a':=?_) #[n_,y_,n_,n_,n_,n_] rfl rfl (by kernel_rfl) (fun _ _ _ h => h) (Or.inl ⟨by rfl,?_⟩) ?_ ?_
  rotate_left
  ·intro w'
   go_simp
   with_reducible rfl
  rotate_left
  ·simp only [Act.put,sA_,sB_,sC_,i64_w,i32_w]
   rfl
  refine take_ (i:=0) (N:=some 14) (v:=?_) (a':=?_) #[y_,y_,n_,n_,n_,n_] rfl rfl (by kernel_rfl) (fun _ _ _ h => h) (Or.inl ⟨by rfl,?_⟩) hHeld ?_ ?_
  rotate_left
  ·rintro w' ⟨s0,s1,s2⟩
   go_simp
   with_reducible rfl
  rotate_left
  ·simp only [Act.put,sA_,sB_,sC_,i64_w,i32_w]
   rfl
  refine take_ (i:=2) (N:=some 16) (v:=?_) (a':=?_) #[y_,y_,y_,n_,n_,n_] rfl rfl (by kernel_rfl) (fun _ _ _ h => h) (Or.inl ⟨by rfl,?_⟩) hHeld ?_ ?_
  rotate_left
  ·rintro w' ⟨s0,s1,s2⟩
   go_simp
   with_reducible rfl
  rotate_left
  ·simp only [Act.put,sA_,sB_,sC_,i64_w,i32_w]
   rfl
  refine pure_ (i:=3) (N:=some 17) (v:=?_) (a':=?_) #[y_,y_,y_,y_,n_,n_] rfl rfl (by kernel_rfl) (fun _ _ _ h => h) (Or.inl ⟨by rfl,?_⟩) ?_ ?_
  rotate_left
  ·intro w'
   go_simp
   with_reducible rfl
  rotate_left
  ·simp only [Act.put,sA_,sB_,sC_,i64_w,i32_w]
   rfl
  refine one_ (i:=4) (N:=none) #[y_,y_,y_,y_,y_,n_] rfl rfl (by kernel_rfl) (by decide) (fun K hK => ?_)
  have hs24 : w23.cell? ⟨gb263,0,none⟩ = some (.string (⟨#[]⟩ : ByteArray)):=(blk_cell BK263.out 0).trans rfl
  have hfs24:=blk_frozen BK263.out 0
  have hns24_0:=NB262_263.out
  have hms24_0:=NB263_262.out
  have hs25 : w23.cell? ⟨gb263,1,none⟩ = some (.int .i64 0):=(blk_cell BK263.out 1).trans rfl
  have hfs25:=blk_frozen BK263.out 1
  have hns25_0:=NB262_263.out
  have hms25_0:=NB263_262.out
  have hs26 : w23.cell? ⟨gb263,2,none⟩ = some (.int .i64 0):=(blk_cell BK263.out 2).trans rfl
  have hfs26:=blk_frozen BK263.out 2
  have hns26_0:=NB262_263.out
  have hms26_0:=NB263_262.out
  refine skip_ (w1:=?_) (by rfl) rfl ?_ ?_
  rotate_left
  ·go_simp
   rfl
  refine hK.out _ _ ⟨((cell_far (p:=⟨gb263,_,none⟩) NB262_263.out _).trans (((cell_far (p:=⟨gb263,_,none⟩) NB262_263.out _).trans (((cell_far (p:=⟨gb263,_,none⟩) NB262_263.out _).trans (hHeld.1)))))),((cell_far (p:=⟨gb263,_,none⟩) NB262_263.out _).trans (((cell_far (p:=⟨gb263,_,none⟩) NB262_263.out _).trans (((cell_far (p:=⟨gb263,_,none⟩) NB262_263.out _).trans (hHeld.2.1)))))),((cell_far (p:=⟨gb263,_,none⟩) NB262_263.out _).trans (((cell_far (p:=⟨gb263,_,none⟩) NB262_263.out _).trans (((cell_far (p:=⟨gb263,_,none⟩) NB262_263.out _).trans (hHeld.2.2))))))⟩ (fun hHeld => ?_)
  clear hK K
  refine pure_ (i:=5) (N:=some 3) (v:=?_) (a':=?_) #[y_,y_,y_,y_,y_,y_] rfl rfl (by kernel_rfl) (fun _ _ _ h => h) (Or.inl ⟨by rfl,?_⟩) ?_ ?_
  rotate_left
  ·intro w'
   go_simp
   with_reducible rfl
  rotate_left
  ·simp only [Act.put,sA_,sB_,sC_,i64_w,i32_w]
   rfl
  refine done_ (by kernel_rfl) ?_
  try go_wp2
  refine bodyPost_ret (results_ct rfl _ _ gb263 59 #[.string a0_0,.int .i64 a0_1,.int .i64 a0_2] (0,0) _ rfl (by (with_reducible repeat (first | refine blk_drewN ?_ _ | refine blk_drew ?_ | refine blk_alloc ?_ _));refine blk_put (cs:=#[.string a0_0,.int .i64 a0_1,.int .i64 0]) ?_ 2 _ rfl;(with_reducible repeat (first | refine blk_drewN ?_ _ | refine blk_drew ?_ | refine blk_alloc ?_ _));refine blk_put (cs:=#[.string a0_0,.int .i64 0,.int .i64 0]) ?_ 1 _ rfl;(with_reducible repeat (first | refine blk_drewN ?_ _ | refine blk_drew ?_ | refine blk_alloc ?_ _));refine blk_put (cs:=#[.string (⟨#[]⟩ : ByteArray),.int .i64 0,.int .i64 0]) ?_ 0 _ rfl;(with_reducible repeat (first | refine blk_drewN ?_ _ | refine blk_drew ?_ | refine blk_alloc ?_ _));exact BK263.out) Try.underlying59 rfl (by kernel_rfl)) rfl ?_
  exact ⟨by first | rfl | (simp [errW_none,errW_some] <;> rfl) | (simp [*,errW_none,errW_some] <;> rfl),by repeat (first | (with_reducible first | exact HB.out | apply below_alloc | apply pw_below_drewN | apply below_drew1 | refine below_set ?_ GE262.out | refine below_set ?_ GE263.out) | exact HB.out)⟩

/-! ### tachographref03_Cursor_Stop: function 46 -/
def tachographref03_Cursor_Stop.f (a0_0 : ByteArray) (a0_1 : Int) (a0_2 : Int) (a1 : Int) : Option (ByteArray × Int × Int) := if a0_2 = 0 then (if a1 = 0 then (some (a0_0, a0_1, a0_2)) else ((tachographref03_Cursor_on.f a0_0 a0_1 a0_2 0 a1).bind fun bt269 => (some (bt269.1, bt269.2.1, bt269.2.2)))) else (some (a0_0, a0_1, a0_2))
set_option maxHeartbeats 8000000 in
set_option maxRecDepth 100000 in
theorem tachographref03_Cursor_Stop.calls (a0_0 : ByteArray) (a0_1 : Int) (a0_2 : Int) (a1 : Int) (r1 : ByteArray) (r2 : Int) (r3 : Int) (w : World) (h : tachographref03_Cursor_Stop.f a0_0 a0_1 a0_2 a1 = some (r1,r2,r3)) :
  Calls Try.prog 46 #[.agg #[.string a0_0,.int .i64 a0_1,.int .i64 a0_2],.int .i64 a1] w fun e w' => e = .returned (.agg #[.string r1,.int .i64 r2,.int .i64 r3]) ∧ Below w.heap.size w w':=by
 have hu59:=Try.underlying59
 have HB:=Aside0.mk (Below.refl w.heap.size w)
 have H : (if a0_2 = 0 then (if a1 = 0 then (some (a0_0,a0_1,a0_2)) else ((tachographref03_Cursor_on.f a0_0 a0_1 a0_2 0 a1).bind fun bt269 => (some (bt269.1,bt269.2.1,bt269.2.2)))) else (some (a0_0,a0_1,a0_2))) = some (r1,r2,r3):=h
 clear h
 by_cases c3 : a0_2 = 0
 ·rw [if_pos c3] at H
  have c3b0 : (a0_2 == 0) = true:=beq_iff_eq.mpr c3
  have c3b1 : (a0_2 != 0) = false:=bne_eq_false_iff_eq.mpr c3
  clear c3
  by_cases c4 : a1 = 0
  ·rw [if_pos c4] at H
   have c4b0 : (a1 == 0) = true:=beq_iff_eq.mpr c4
   have c4b1 : (a1 != 0) = false:=bne_eq_false_iff_eq.mpr c4
   clear c4
   simp only [Option.some.injEq,Prod.mk.injEq] at H
   obtain ⟨rfl,rfl,rfl⟩:=H
   go_enter Try.func46,Try.ntmps46
   go_wp2_with (first | ((with_reducible refine gate_dst (N:=2) rfl ?_);refine box_event ?hg (N:=2) ?hd (cs:=#[.string a0_0,.int .i64 a0_1,.int .i64 a0_2]) (t:=59) ?hr ?_;(case hd => rfl);(case hg => rfl);(case hr => first | (go_simp;done) | (go_simp;rfl));intro gb267 hg w5 hbox hb;have n0_:=Aside0.mk (below_step (by repeat (first | (with_reducible first | exact HB.out | apply below_alloc | apply pw_below_drewN | apply below_drew1) | exact HB.out)) hb);have n1_:=Aside0.mk (hbox);have n2_:=Aside0.mk ((by rw [hg];exact (below_size (by repeat (first | (with_reducible first | exact HB.out | apply below_alloc | apply pw_below_drewN | apply below_drew1) | exact HB.out))) : w.heap.size ≤ gb267));have n3_:=Aside0.mk ((by rw [hg];exact (below_size (by repeat (first | (with_reducible first | exact HB.out | apply below_alloc | apply pw_below_drewN | apply below_drew1) | exact HB.out))) : w.heap.size ≤ gb267));clear HB;have HB:=n0_;have BK267:=n1_;have GW267:=n2_;have GE267:=n3_;clear n0_ n1_ n2_ n3_;clear hb hbox hg) | ((with_reducible refine gate_dst (N:=4) rfl ?_);refine box_event ?hg (N:=4) ?hd (cs:=#[.string (⟨#[]⟩ : ByteArray),.int .i64 0,.int .i64 0]) (t:=59) ?hr ?_;(case hd => rfl);(case hg => rfl);(case hr => first | (go_simp;done) | (go_simp;rfl));intro gb268 hg w6 hbox hb;have n0_:=Aside0.mk (blk_below (g:=gb267) (o:=.cells #[.string a0_0,.int .i64 a0_1,.int .i64 a0_2] 59 (0,0)) (by (with_reducible repeat (first | refine blk_drewN ?_ _ | refine blk_drew ?_ | refine blk_alloc ?_ _));exact BK267.out) hb);have n1_:=Aside0.mk (below_step (by repeat (first | (with_reducible first | exact HB.out | apply below_alloc | apply pw_below_drewN | apply below_drew1 | refine below_set ?_ GE267.out) | exact HB.out)) hb);have n2_:=Aside0.mk (hbox);have n3_:=Aside0.mk ((by rw [hg];exact (below_size (by repeat (first | (with_reducible first | exact HB.out | apply below_alloc | apply pw_below_drewN | apply below_drew1 | refine below_set ?_ GE267.out) | exact HB.out))) : w.heap.size ≤ gb268));have n4_:=Aside0.mk ((by rw [hg];exact (below_size (by repeat (first | (with_reducible first | exact HB.out | apply below_alloc | apply pw_below_drewN | apply below_drew1 | refine below_set ?_ GE267.out) | exact HB.out))) : w.heap.size ≤ gb268));have n5_:=Aside0.mk ((by rw [hg];exact Nat.ne_of_lt (blk_lt (g:=gb267) (o:=.cells #[.string a0_0,.int .i64 a0_1,.int .i64 a0_2] 59 (0,0)) (by (with_reducible repeat (first | refine blk_drewN ?_ _ | refine blk_drew ?_ | refine blk_alloc ?_ _));exact BK267.out)) : gb267 ≠ gb268));have n6_:=Aside0.mk ((by rw [hg];exact Nat.ne_of_gt (blk_lt (g:=gb267) (o:=.cells #[.string a0_0,.int .i64 a0_1,.int .i64 a0_2] 59 (0,0)) (by (with_reducible repeat (first | refine blk_drewN ?_ _ | refine blk_drew ?_ | refine blk_alloc ?_ _));exact BK267.out)) : gb268 ≠ gb267));clear BK267;clear HB;have BK267:=n0_;have HB:=n1_;have BK268:=n2_;have GW268:=n3_;have GE268:=n4_;have NB267_268:=n5_;have NB268_267:=n6_;clear n0_ n1_ n2_ n3_ n4_ n5_ n6_;clear hb hbox hg;have hnb7:=NB267_268.out;have hnc7:=NB268_267.out;have hcz8_0 : w6.cell? ⟨gb267,0,none⟩ = some (.string a0_0):=(blk_cell BK267.out 0).trans rfl;have hcz8_1 : w6.cell? ⟨gb267,1,none⟩ = some (.int .i64 a0_1):=(blk_cell BK267.out 1).trans rfl;have hcz8_2 : w6.cell? ⟨gb267,2,none⟩ = some (.int .i64 a0_2):=(blk_cell BK267.out 2).trans rfl;have hfz8_0:=blk_frozen BK267.out 0;have hfz8_1:=blk_frozen BK267.out 1;have hfz8_2:=blk_frozen BK267.out 2;have hcz9_0 : w6.cell? ⟨gb268,0,none⟩ = some (.string (⟨#[]⟩ : ByteArray)):=(blk_cell BK268.out 0).trans rfl;have hcz9_1 : w6.cell? ⟨gb268,1,none⟩ = some (.int .i64 0):=(blk_cell BK268.out 1).trans rfl;have hcz9_2 : w6.cell? ⟨gb268,2,none⟩ = some (.int .i64 0):=(blk_cell BK268.out 2).trans rfl;have hfz9_0:=blk_frozen BK268.out 0;have hfz9_1:=blk_frozen BK268.out 1;have hfz9_2:=blk_frozen BK268.out 2))
   refine bodyPost_ret (results_cell_row rfl _ _ gb268 59 #[.string a0_0,.int .i64 a0_1,.int .i64 a0_2] (0,0) _ rfl (by (with_reducible repeat (first | refine blk_drewN ?_ _ | refine blk_drew ?_ | refine blk_alloc ?_ _));refine blk_put (cs:=#[.string a0_0,.int .i64 a0_1,.int .i64 0]) ?_ 2 _ rfl;(with_reducible repeat (first | refine blk_drewN ?_ _ | refine blk_drew ?_ | refine blk_alloc ?_ _));refine blk_put (cs:=#[.string a0_0,.int .i64 0,.int .i64 0]) ?_ 1 _ rfl;(with_reducible repeat (first | refine blk_drewN ?_ _ | refine blk_drew ?_ | refine blk_alloc ?_ _));refine blk_put (cs:=#[.string (⟨#[]⟩ : ByteArray),.int .i64 0,.int .i64 0]) ?_ 0 _ rfl;(with_reducible repeat (first | refine blk_drewN ?_ _ | refine blk_drew ?_ | refine blk_alloc ?_ _));exact BK268.out) Try.underlying59 rfl (by kernel_rfl)) rfl ?_
   exact ⟨by first | rfl | (simp [errW_none,errW_some] <;> rfl) | (simp [*,errW_none,errW_some] <;> rfl),by repeat (first | (with_reducible first | exact HB.out | apply below_alloc | apply pw_below_drewN | apply below_drew1 | refine below_set ?_ GE267.out | refine below_set ?_ GE268.out) | exact HB.out)⟩
  ·rw [if_neg c4] at H
   have c4b0 : (a1 == 0) = false:=beq_eq_false_iff_ne.mpr c4
   have c4b1 : (a1 != 0) = true:=bne_iff_ne.mpr c4
   replace H:=Option.bind_eq_some_iff.mp H
   obtain ⟨⟨t269,t270,t271⟩,A100,H⟩:=H
   replace H : (some (t269,t270,t271)) = some (r1,r2,r3):=H
   have A10:=Aside0.mk A100
   clear A100
   simp only [Option.some.injEq,Prod.mk.injEq] at H
   obtain ⟨rfl,rfl,rfl⟩:=H
   go_enter Try.func46,Try.ntmps46
   go_wp2_with (first | ((with_reducible refine gate_dst (N:=2) rfl ?_);refine box_event ?hg (N:=2) ?hd (cs:=#[.string a0_0,.int .i64 a0_1,.int .i64 a0_2]) (t:=59) ?hr ?_;(case hd => rfl);(case hg => rfl);(case hr => first | (go_simp;done) | (go_simp;rfl));intro gb267 hg w11 hbox hb;have n0_:=Aside0.mk (below_step (by repeat (first | (with_reducible first | exact HB.out | apply below_alloc | apply pw_below_drewN | apply below_drew1) | exact HB.out)) hb);have n1_:=Aside0.mk (hbox);have n2_:=Aside0.mk ((by rw [hg];exact (below_size (by repeat (first | (with_reducible first | exact HB.out | apply below_alloc | apply pw_below_drewN | apply below_drew1) | exact HB.out))) : w.heap.size ≤ gb267));have n3_:=Aside0.mk ((by rw [hg];exact (below_size (by repeat (first | (with_reducible first | exact HB.out | apply below_alloc | apply pw_below_drewN | apply below_drew1) | exact HB.out))) : w.heap.size ≤ gb267));clear HB;have HB:=n0_;have BK267:=n1_;have GW267:=n2_;have GE267:=n3_;clear n0_ n1_ n2_ n3_;clear hb hbox hg) | ((with_reducible refine gate_dst (N:=4) rfl ?_);refine box_event ?hg (N:=4) ?hd (cs:=#[.string (⟨#[]⟩ : ByteArray),.int .i64 0,.int .i64 0]) (t:=59) ?hr ?_;(case hd => rfl);(case hg => rfl);(case hr => first | (go_simp;done) | (go_simp;rfl));intro gb268 hg w12 hbox hb;have n0_:=Aside0.mk (blk_below (g:=gb267) (o:=.cells #[.string a0_0,.int .i64 a0_1,.int .i64 a0_2] 59 (0,0)) (by (with_reducible repeat (first | refine blk_drewN ?_ _ | refine blk_drew ?_ | refine blk_alloc ?_ _));exact BK267.out) hb);have n1_:=Aside0.mk (below_step (by repeat (first | (with_reducible first | exact HB.out | apply below_alloc | apply pw_below_drewN | apply below_drew1 | refine below_set ?_ GE267.out) | exact HB.out)) hb);have n2_:=Aside0.mk (hbox);have n3_:=Aside0.mk ((by rw [hg];exact (below_size (by repeat (first | (with_reducible first | exact HB.out | apply below_alloc | apply pw_below_drewN | apply below_drew1 | refine below_set ?_ GE267.out) | exact HB.out))) : w.heap.size ≤ gb268));have n4_:=Aside0.mk ((by rw [hg];exact (below_size (by repeat (first | (with_reducible first | exact HB.out | apply below_alloc | apply pw_below_drewN | apply below_drew1 | refine below_set ?_ GE267.out) | exact HB.out))) : w.heap.size ≤ gb268));have n5_:=Aside0.mk ((by rw [hg];exact Nat.ne_of_lt (blk_lt (g:=gb267) (o:=.cells #[.string a0_0,.int .i64 a0_1,.int .i64 a0_2] 59 (0,0)) (by (with_reducible repeat (first | refine blk_drewN ?_ _ | refine blk_drew ?_ | refine blk_alloc ?_ _));exact BK267.out)) : gb267 ≠ gb268));have n6_:=Aside0.mk ((by rw [hg];exact Nat.ne_of_gt (blk_lt (g:=gb267) (o:=.cells #[.string a0_0,.int .i64 a0_1,.int .i64 a0_2] 59 (0,0)) (by (with_reducible repeat (first | refine blk_drewN ?_ _ | refine blk_drew ?_ | refine blk_alloc ?_ _));exact BK267.out)) : gb268 ≠ gb267));clear BK267;clear HB;have BK267:=n0_;have HB:=n1_;have BK268:=n2_;have GW268:=n3_;have GE268:=n4_;have NB267_268:=n5_;have NB268_267:=n6_;clear n0_ n1_ n2_ n3_ n4_ n5_ n6_;clear hb hbox hg;have hnb13:=NB267_268.out;have hnc13:=NB268_267.out;have hcz14_0 : w12.cell? ⟨gb267,0,none⟩ = some (.string a0_0):=(blk_cell BK267.out 0).trans rfl;have hcz14_1 : w12.cell? ⟨gb267,1,none⟩ = some (.int .i64 a0_1):=(blk_cell BK267.out 1).trans rfl;have hcz14_2 : w12.cell? ⟨gb267,2,none⟩ = some (.int .i64 a0_2):=(blk_cell BK267.out 2).trans rfl;have hfz14_0:=blk_frozen BK267.out 0;have hfz14_1:=blk_frozen BK267.out 1;have hfz14_2:=blk_frozen BK267.out 2) | ((with_reducible refine gate_callee (f:=63) rfl ?_);refine goesL_ (some 14) rfl rfl Try.func63 (by kernel_rfl) rfl #[.agg #[.string a0_0,.int .i64 a0_1,.int .i64 a0_2],.int .i64 0,.int .i64 a1] rfl (by (try simp only [List.map_toArray,List.map_cons,List.map_nil]);first | done | rfl | (simp only [List.length_drop,List.length_take];rfl)) ?_;(with_reducible refine (tachographref03_Cursor_on.calls a0_0 a0_1 a0_2 0 a1 t269 t270 t271 _ A10.out).mono ?_);rintro e w15 ⟨rfl,hb⟩;refine ⟨_,rfl,?_⟩;have n0_:=Aside0.mk (blk_below (g:=gb267) (o:=.cells #[.string a0_0,.int .i64 a0_1,.int .i64 a0_2] 59 (0,0)) (by (with_reducible repeat (first | refine blk_drewN ?_ _ | refine blk_drew ?_ | refine blk_alloc ?_ _));exact BK267.out) hb);have n1_:=Aside0.mk (blk_below (g:=gb268) (o:=.cells #[.string (⟨#[]⟩ : ByteArray),.int .i64 0,.int .i64 0] 59 (0,0)) (by (with_reducible repeat (first | refine blk_drewN ?_ _ | refine blk_drew ?_ | refine blk_alloc ?_ _));exact BK268.out) hb);have n2_:=Aside0.mk (below_step (by repeat (first | (with_reducible first | exact HB.out | apply below_alloc | apply pw_below_drewN | apply below_drew1 | refine below_set ?_ GE267.out | refine below_set ?_ GE268.out) | exact HB.out)) hb);clear BK267;clear BK268;clear HB;have BK267:=n0_;have BK268:=n1_;have HB:=n2_;clear n0_ n1_ n2_;(try clear hb);(try clear hb2);(try clear hk);(try clear hi);have hcz16_0 : w15.cell? ⟨gb268,0,none⟩ = some (.string (⟨#[]⟩ : ByteArray)):=(blk_cell BK268.out 0).trans rfl;have hcz16_1 : w15.cell? ⟨gb268,1,none⟩ = some (.int .i64 0):=(blk_cell BK268.out 1).trans rfl;have hcz16_2 : w15.cell? ⟨gb268,2,none⟩ = some (.int .i64 0):=(blk_cell BK268.out 2).trans rfl;have hfz16_0:=blk_frozen BK268.out 0;have hfz16_1:=blk_frozen BK268.out 1;have hfz16_2:=blk_frozen BK268.out 2))
   refine bodyPost_ret (results_cell_row rfl _ _ gb268 59 #[.string t269,.int .i64 t270,.int .i64 t271] (0,0) _ rfl (by (with_reducible repeat (first | refine blk_drewN ?_ _ | refine blk_drew ?_ | refine blk_alloc ?_ _));refine blk_put (cs:=#[.string t269,.int .i64 t270,.int .i64 0]) ?_ 2 _ rfl;(with_reducible repeat (first | refine blk_drewN ?_ _ | refine blk_drew ?_ | refine blk_alloc ?_ _));refine blk_put (cs:=#[.string t269,.int .i64 0,.int .i64 0]) ?_ 1 _ rfl;(with_reducible repeat (first | refine blk_drewN ?_ _ | refine blk_drew ?_ | refine blk_alloc ?_ _));refine blk_put (cs:=#[.string (⟨#[]⟩ : ByteArray),.int .i64 0,.int .i64 0]) ?_ 0 _ rfl;(with_reducible repeat (first | refine blk_drewN ?_ _ | refine blk_drew ?_ | refine blk_alloc ?_ _));exact BK268.out) Try.underlying59 rfl (by kernel_rfl)) rfl ?_
   exact ⟨by first | rfl | (simp [errW_none,errW_some] <;> rfl) | (simp [*,errW_none,errW_some] <;> rfl),by repeat (first | (with_reducible first | exact HB.out | apply below_alloc | apply pw_below_drewN | apply below_drew1 | refine below_set ?_ GE267.out | refine below_set ?_ GE268.out) | exact HB.out)⟩
 ·rw [if_neg c3] at H
  have c3b0 : (a0_2 == 0) = false:=beq_eq_false_iff_ne.mpr c3
  have c3b1 : (a0_2 != 0) = true:=bne_iff_ne.mpr c3
  simp only [Option.some.injEq,Prod.mk.injEq] at H
  obtain ⟨rfl,rfl,rfl⟩:=H
  go_enter Try.func46,Try.ntmps46
  go_wp2_with (first | ((with_reducible refine gate_dst (N:=2) rfl ?_);refine box_event ?hg (N:=2) ?hd (cs:=#[.string a0_0,.int .i64 a0_1,.int .i64 a0_2]) (t:=59) ?hr ?_;(case hd => rfl);(case hg => rfl);(case hr => first | (go_simp;done) | (go_simp;rfl));intro gb267 hg w17 hbox hb;have n0_:=Aside0.mk (below_step (by repeat (first | (with_reducible first | exact HB.out | apply below_alloc | apply pw_below_drewN | apply below_drew1) | exact HB.out)) hb);have n1_:=Aside0.mk (hbox);have n2_:=Aside0.mk ((by rw [hg];exact (below_size (by repeat (first | (with_reducible first | exact HB.out | apply below_alloc | apply pw_below_drewN | apply below_drew1) | exact HB.out))) : w.heap.size ≤ gb267));have n3_:=Aside0.mk ((by rw [hg];exact (below_size (by repeat (first | (with_reducible first | exact HB.out | apply below_alloc | apply pw_below_drewN | apply below_drew1) | exact HB.out))) : w.heap.size ≤ gb267));clear HB;have HB:=n0_;have BK267:=n1_;have GW267:=n2_;have GE267:=n3_;clear n0_ n1_ n2_ n3_;clear hb hbox hg) | ((with_reducible refine gate_dst (N:=4) rfl ?_);refine box_event ?hg (N:=4) ?hd (cs:=#[.string (⟨#[]⟩ : ByteArray),.int .i64 0,.int .i64 0]) (t:=59) ?hr ?_;(case hd => rfl);(case hg => rfl);(case hr => first | (go_simp;done) | (go_simp;rfl));intro gb268 hg w18 hbox hb;have n0_:=Aside0.mk (blk_below (g:=gb267) (o:=.cells #[.string a0_0,.int .i64 a0_1,.int .i64 a0_2] 59 (0,0)) (by (with_reducible repeat (first | refine blk_drewN ?_ _ | refine blk_drew ?_ | refine blk_alloc ?_ _));exact BK267.out) hb);have n1_:=Aside0.mk (below_step (by repeat (first | (with_reducible first | exact HB.out | apply below_alloc | apply pw_below_drewN | apply below_drew1 | refine below_set ?_ GE267.out) | exact HB.out)) hb);have n2_:=Aside0.mk (hbox);have n3_:=Aside0.mk ((by rw [hg];exact (below_size (by repeat (first | (with_reducible first | exact HB.out | apply below_alloc | apply pw_below_drewN | apply below_drew1 | refine below_set ?_ GE267.out) | exact HB.out))) : w.heap.size ≤ gb268));have n4_:=Aside0.mk ((by rw [hg];exact (below_size (by repeat (first | (with_reducible first | exact HB.out | apply below_alloc | apply pw_below_drewN | apply below_drew1 | refine below_set ?_ GE267.out) | exact HB.out))) : w.heap.size ≤ gb268));have n5_:=Aside0.mk ((by rw [hg];exact Nat.ne_of_lt (blk_lt (g:=gb267) (o:=.cells #[.string a0_0,.int .i64 a0_1,.int .i64 a0_2] 59 (0,0)) (by (with_reducible repeat (first | refine blk_drewN ?_ _ | refine blk_drew ?_ | refine blk_alloc ?_ _));exact BK267.out)) : gb267 ≠ gb268));have n6_:=Aside0.mk ((by rw [hg];exact Nat.ne_of_gt (blk_lt (g:=gb267) (o:=.cells #[.string a0_0,.int .i64 a0_1,.int .i64 a0_2] 59 (0,0)) (by (with_reducible repeat (first | refine blk_drewN ?_ _ | refine blk_drew ?_ | refine blk_alloc ?_ _));exact BK267.out)) : gb268 ≠ gb267));clear BK267;clear HB;have BK267:=n0_;have HB:=n1_;have BK268:=n2_;have GW268:=n3_;have GE268:=n4_;have NB267_268:=n5_;have NB268_267:=n6_;clear n0_ n1_ n2_ n3_ n4_ n5_ n6_;clear hb hbox hg;have hnb19:=NB267_268.out;have hnc19:=NB268_267.out;have hcz20_0 : w18.cell? ⟨gb267,0,none⟩ = some (.string a0_0):=(blk_cell BK267.out 0).trans rfl;have hcz20_1 : w18.cell? ⟨gb267,1,none⟩ = some (.int .i64 a0_1):=(blk_cell BK267.out 1).trans rfl;have hcz20_2 : w18.cell? ⟨gb267,2,none⟩ = some (.int .i64 a0_2):=(blk_cell BK267.out 2).trans rfl;have hfz20_0:=blk_frozen BK267.out 0;have hfz20_1:=blk_frozen BK267.out 1;have hfz20_2:=blk_frozen BK267.out 2;have hcz21_0 : w18.cell? ⟨gb268,0,none⟩ = some (.string (⟨#[]⟩ : ByteArray)):=(blk_cell BK268.out 0).trans rfl;have hcz21_1 : w18.cell? ⟨gb268,1,none⟩ = some (.int .i64 0):=(blk_cell BK268.out 1).trans rfl;have hcz21_2 : w18.cell? ⟨gb268,2,none⟩ = some (.int .i64 0):=(blk_cell BK268.out 2).trans rfl;have hfz21_0:=blk_frozen BK268.out 0;have hfz21_1:=blk_frozen BK268.out 1;have hfz21_2:=blk_frozen BK268.out 2))
  refine bodyPost_ret (results_cell_row rfl _ _ gb268 59 #[.string a0_0,.int .i64 a0_1,.int .i64 a0_2] (0,0) _ rfl (by (with_reducible repeat (first | refine blk_drewN ?_ _ | refine blk_drew ?_ | refine blk_alloc ?_ _));refine blk_put (cs:=#[.string a0_0,.int .i64 a0_1,.int .i64 0]) ?_ 2 _ rfl;(with_reducible repeat (first | refine blk_drewN ?_ _ | refine blk_drew ?_ | refine blk_alloc ?_ _));refine blk_put (cs:=#[.string a0_0,.int .i64 0,.int .i64 0]) ?_ 1 _ rfl;(with_reducible repeat (first | refine blk_drewN ?_ _ | refine blk_drew ?_ | refine blk_alloc ?_ _));refine blk_put (cs:=#[.string (⟨#[]⟩ : ByteArray),.int .i64 0,.int .i64 0]) ?_ 0 _ rfl;(with_reducible repeat (first | refine blk_drewN ?_ _ | refine blk_drew ?_ | refine blk_alloc ?_ _));exact BK268.out) Try.underlying59 rfl (by kernel_rfl)) rfl ?_
  exact ⟨by first | rfl | (simp [errW_none,errW_some] <;> rfl) | (simp [*,errW_none,errW_some] <;> rfl),by repeat (first | (with_reducible first | exact HB.out | apply below_alloc | apply pw_below_drewN | apply below_drew1 | refine below_set ?_ GE267.out | refine below_set ?_ GE268.out) | exact HB.out)⟩

/-! ### cursor_Cursor_At: function 47 -/
def cursor_Cursor_At.f (s0_0 : ByteArray) (s0_1 : Int) (s0_2 : Int) : Option (Int × ByteArray × Int × Int) := some (s0_1, s0_0, s0_1, s0_2)
set_option maxHeartbeats 8000000 in
set_option maxRecDepth 100000 in
theorem cursor_Cursor_At.calls (g : Nat) (s0_0 : ByteArray) (s0_1 : Int) (s0_2 : Int) (r1 : Int) (r2 : ByteArray) (r3 : Int) (r4 : Int) (w0 w : World) (hI : IsS102 w0 w g s0_0 s0_1 s0_2) (hB : Below w0.heap.size w0 w) (h : cursor_Cursor_At.f s0_0 s0_1 s0_2 = some (r1, r2, r3, r4)) :
    Calls Try.prog 47 #[.pointer (some ⟨g, 0, none⟩)] w fun e w' => e = .returned (.int .i64 r1) ∧ IsS102 w0 w' g r2 r3 r4 ∧ Below w0.heap.size w0 w' ∧ KeepBut w w' g none := by
  have HI0 := Aside0.mk hI
  have HK := Aside0.mk (KeepBut.refl w g none)
  have HL := Aside0.mk hB.size
  clear hI
  have HW0 := Aside0.mk hB.size
  have HB := Aside0.mk hB
  clear hB
  have H : (some (s0_1, s0_0, s0_1, s0_2)) = some (r1, r2, r3, r4) := h
  clear h
  simp only [Option.some.injEq, Prod.mk.injEq] at H
  obtain ⟨rfl, rfl, rfl, rfl⟩ := H
  obtain ⟨HGz2, hgz2⟩ := HI0.out
  have hcz2_0 := cellS102_0 HGz2
  have hcz2_1 := cellS102_1 HGz2
  have hcz2_2 := cellS102_2 HGz2
  have hfz2_0 := blk_frozen HGz2 0
  have hfz2_1 := blk_frozen HGz2 1
  have hfz2_2 := blk_frozen HGz2 2
  clear HGz2 hgz2
  go_enter Try.func47, Try.ntmps47
  go_wp2
  go_ret
  exact ⟨by first | rfl | (simp [errW_none, errW_some] <;> rfl) | (simp [*, errW_none, errW_some] <;> rfl), by repeat (first | (with_reducible first | exact HI0.out | apply IsS102.alloc | apply IsS102.drewN | apply IsS102.drew | apply IsS102.set_0 | apply IsS102.set_1 | apply IsS102.set_2) | exact HI0.out), by repeat (first | (with_reducible first | exact HB.out | apply below_alloc | apply pw_below_drewN | apply below_drew1 | refine below_set ?_ (IsS102.ge HI0.out)) | exact HB.out), by repeat (first | (with_reducible first | exact HK.out | apply KeepBut.set_ | apply keep_drewN | apply keep_drew | apply keep_alloc) | exact HK.out)⟩

/-! ### cursor_Cursor_Err: function 49 -/
def cursor_Cursor_Err.f (s0_0 : ByteArray) (s0_1 : Int) (s0_2 : Int) : Option (Int × ByteArray × Int × Int) := some (s0_2, s0_0, s0_1, s0_2)
set_option maxHeartbeats 8000000 in
set_option maxRecDepth 100000 in
theorem cursor_Cursor_Err.calls (g : Nat) (s0_0 : ByteArray) (s0_1 : Int) (s0_2 : Int) (r1 : Int) (r2 : ByteArray) (r3 : Int) (r4 : Int) (w0 w : World) (hI : IsS102 w0 w g s0_0 s0_1 s0_2) (hB : Below w0.heap.size w0 w) (h : cursor_Cursor_Err.f s0_0 s0_1 s0_2 = some (r1, r2, r3, r4)) :
    Calls Try.prog 49 #[.pointer (some ⟨g, 0, none⟩)] w fun e w' => e = .returned (.int .i64 r1) ∧ IsS102 w0 w' g r2 r3 r4 ∧ Below w0.heap.size w0 w' ∧ KeepBut w w' g none := by
  have HI0 := Aside0.mk hI
  have HK := Aside0.mk (KeepBut.refl w g none)
  have HL := Aside0.mk hB.size
  clear hI
  have HW0 := Aside0.mk hB.size
  have HB := Aside0.mk hB
  clear hB
  have H : (some (s0_2, s0_0, s0_1, s0_2)) = some (r1, r2, r3, r4) := h
  clear h
  simp only [Option.some.injEq, Prod.mk.injEq] at H
  obtain ⟨rfl, rfl, rfl, rfl⟩ := H
  obtain ⟨HGz2, hgz2⟩ := HI0.out
  have hcz2_0 := cellS102_0 HGz2
  have hcz2_1 := cellS102_1 HGz2
  have hcz2_2 := cellS102_2 HGz2
  have hfz2_0 := blk_frozen HGz2 0
  have hfz2_1 := blk_frozen HGz2 1
  have hfz2_2 := blk_frozen HGz2 2
  clear HGz2 hgz2
  go_enter Try.func49, Try.ntmps49
  go_wp2
  go_ret
  exact ⟨by first | rfl | (simp [errW_none, errW_some] <;> rfl) | (simp [*, errW_none, errW_some] <;> rfl), by repeat (first | (with_reducible first | exact HI0.out | apply IsS102.alloc | apply IsS102.drewN | apply IsS102.drew | apply IsS102.set_0 | apply IsS102.set_1 | apply IsS102.set_2) | exact HI0.out), by repeat (first | (with_reducible first | exact HB.out | apply below_alloc | apply pw_below_drewN | apply below_drew1 | refine below_set ?_ (IsS102.ge HI0.out)) | exact HB.out), by repeat (first | (with_reducible first | exact HK.out | apply KeepBut.set_ | apply keep_drewN | apply keep_drew | apply keep_alloc) | exact HK.out)⟩

end Go.Proofs.Ytjfklfmfeghjnaa.PA
