-- Contracts of Go functions, each with its plain Lean function: written by wip/tools/myprint.py of this work (the kit's print, with contracts proved by hand spliced in).
import Derived.Test.YtjfklfmfeghjnabPGx0
import Derived.Test.YtjfklfmfeghjnabPGx1
import Derived.Test.YtjfklfmfeghjnabPGx2
import Derived.Test.YtjfklfmfeghjnabPGx3
import Derived.Test.YtjfklfmfeghjnabPGx4
namespace Go.Proofs.Ytjfklfmfeghjnab.PG
open Go.RowKit Go.Proofs.YtjfklfmfeghjnabW.PrintWords Go.Proofs.YtjfklfmfeghjnabW.PrintLast Go.Proofs.YtjfklfmfeghjnabW.PrintMore
attribute [local go_sem] max2_int min2_int max_two min_two max_three min_three max_four min_four   -- for this text's walks alone
set_option linter.unusedVariables false
set_option linter.unusedSimpArgs false

/-! ### sigbin_reader_pred: function 70 -/
def sigbin_reader_pred.l0 : Nat → Int → Int → ByteArray → Int → Int → ByteArray → List Int → Option (ByteArray × List Int × ByteArray × Int × Int)
 | 0, _, _, _, _, _, _, _ => none
 | k + 1, x13, x14, x1000, x1001, x1002, x146000, x146001 => if x14 < x13 then ((cursor_Cursor_Byte.f x1000 x1001 x1002).bind fun bt150 => (if x146001.length < 17592186044416 then (sigbin_reader_pred.l0 k x13 (wrap64 (x14 + 1)) bt150.2.1 bt150.2.2.1 bt150.2.2.2 x146000 (x146001 ++ [wrap64 (bt150.1)])) else (none))) else (some (x146000, x146001, x1000, x1001, x1002))
def sigbin_reader_pred.f (k : Nat) (s0_0 : ByteArray) (s0_1 : Int) (s0_2 : Int) (a1_0 : Int) : Option (ByteArray × List Int × ByteArray × Int × Int) := (cursor_Cursor_Text.f k s0_0 s0_1 s0_2 32).bind fun bt141 => ((cursor_Cursor_Number.f k bt141.2.1 bt141.2.2.1 bt141.2.2.2 8).bind fun bt146 => (sigbin_reader_pred.l0 k (wrap64 (bt146.1)) 0 bt146.2.1 bt146.2.2.1 bt146.2.2.2 bt141.1 ([] : List Int)))
theorem sigbin_reader_pred.mono_l : ∀ k, (∀ y0 y1 y2 y3 y4 y5 y6, LeO (sigbin_reader_pred.l0 k y0 y1 y2 y3 y4 y5 y6) (sigbin_reader_pred.l0 (k + 1) y0 y1 y2 y3 y4 y5 y6))
 | 0 => fun _ _ _ _ _ _ _ r h => by simp [sigbin_reader_pred.l0] at h
 | k + 1 => by
  have ih0 := sigbin_reader_pred.mono_l k
  ·intro y0 y1 y2 y3 y4 y5 y6
   unfold sigbin_reader_pred.l0
   repeat' first
   | (with_reducible exact ih0 _ _ _ _ _ _ _)
   | (with_reducible exact cursor_Cursor_Number.mono _ _ _ _ _)
   | (with_reducible exact cursor_Cursor_Text.mono _ _ _ _ _)
   | (with_reducible exact LeO.refl _)
   | (with_reducible exact LeO.none _)
   | (with_reducible refine LeO.ite ?_ ?_)
   | (with_reducible refine LeO.bind ?_ (fun _ => ?_))
   | exact ih0 _ _ _ _ _ _ _
   | exact cursor_Cursor_Number.mono _ _ _ _ _
   | exact cursor_Cursor_Text.mono _ _ _ _ _
   | exact LeO.none _
   | refine LeO.ite ?_ ?_
   | refine LeO.bind ?_ (fun _ => ?_)
theorem sigbin_reader_pred.mono : ∀ a0 a1 a2 a3 k, LeO (sigbin_reader_pred.f k a0 a1 a2 a3) (sigbin_reader_pred.f (k + 1) a0 a1 a2 a3) := by
 intro a0 a1 a2 a3 k
 have ih0 := sigbin_reader_pred.mono_l k
 unfold sigbin_reader_pred.f
 repeat' first
   | (with_reducible exact ih0 _ _ _ _ _ _ _)
   | (with_reducible exact cursor_Cursor_Number.mono _ _ _ _ _)
   | (with_reducible exact cursor_Cursor_Text.mono _ _ _ _ _)
   | (with_reducible exact LeO.refl _)
   | (with_reducible exact LeO.none _)
   | (with_reducible refine LeO.ite ?_ ?_)
   | (with_reducible refine LeO.bind ?_ (fun _ => ?_))
   | exact ih0 _ _ _ _ _ _ _
   | exact cursor_Cursor_Number.mono _ _ _ _ _
   | exact cursor_Cursor_Text.mono _ _ _ _ _
   | exact LeO.none _
   | refine LeO.ite ?_ ?_
   | refine LeO.bind ?_ (fun _ => ?_)
def sigbin_reader_pred.T5 : Bool × List (List Nat × List Nat) := (true, [([], []), ([0], [0]), ([], []), ([2], [2]), ([3], [3]), ([4], [4]), ([5], [5]), ([1, 6, 4], [1, 6]), ([0, 1, 2, 3, 4, 5, 6, 7], []), ([8, 7, 7, 0, 1, 2, 3, 4, 5, 6, 7], [7, 8])])
def sigbin_reader_pred.B5 : List Nat := [0, 1, 0, 4, 12, 28, 60, 127, 255, 511]
theorem sigbin_reader_pred.tab5 : rtab .any (opsOf Try.f70 5) = sigbin_reader_pred.T5 := by kernel_rfl
theorem sigbin_reader_pred.bits5 : waitsOk sigbin_reader_pred.T5.2 sigbin_reader_pred.B5 = true := by kernel_rfl
set_option maxHeartbeats 8000000 in
set_option maxRecDepth 100000 in
theorem sigbin_reader_pred.calls (k : Nat) (g : Nat) (s0_0 : ByteArray) (s0_1 : Int) (s0_2 : Int) (a1_0 : Int) (r1 : ByteArray) (r2 : List Int) (r3 : ByteArray) (r4 : Int) (r5 : Int) (w0 w : World) (hI : IsS157 w0 w g s0_0 s0_1 s0_2) (hB : Below w0.heap.size w0 w) (h : sigbin_reader_pred.f k s0_0 s0_1 s0_2 a1_0 = some (r1,r2,r3,r4,r5)) :
  Calls Try.prog 70 #[.agg #[.pointer (some ⟨g,0,none⟩)]] w fun e w' => ∃ v1_ : Value,e = .returned (.agg #[.string r1,v1_]) ∧ Kd.R (Kd.int .i64) 3 w' w.heap.size (fun _ => True) v1_ r2 ∧ IsS157 w0 w' g r3 r4 r5 ∧ Below w0.heap.size w0 w' ∧ KeepBut w w' g none:=by
 have hu123:=Try.underlying123
 have hu106:=Try.underlying106
 have HI0:=Aside0.mk hI
 have HK:=Aside0.mk (KeepBut.refl w g none)
 have HL:=Aside0.mk hB.size
 clear hI
 have HW0:=Aside0.mk hB.size
 have HB:=Aside0.mk hB
 clear hB
 have H : ((cursor_Cursor_Text.f k s0_0 s0_1 s0_2 32).bind fun bt141 => ((cursor_Cursor_Number.f k bt141.2.1 bt141.2.2.1 bt141.2.2.2 8).bind fun bt146 => (sigbin_reader_pred.l0 k (wrap64 (bt146.1)) 0 bt146.2.1 bt146.2.2.1 bt146.2.2.2 bt141.1 ([] : List Int)))) = some (r1,r2,r3,r4,r5):=h
 clear h
 replace H:=Option.bind_eq_some_iff.mp H
 obtain ⟨⟨t141,t142,t143,t144⟩,A30,H⟩:=H
 replace H : ((cursor_Cursor_Number.f k t142 t143 t144 8).bind fun bt146 => (sigbin_reader_pred.l0 k (wrap64 (bt146.1)) 0 bt146.2.1 bt146.2.2.1 bt146.2.2.2 t141 ([] : List Int))) = some (r1,r2,r3,r4,r5):=H
 have A3:=Aside0.mk A30
 clear A30
 replace H:=Option.bind_eq_some_iff.mp H
 obtain ⟨⟨t146,t147,t148,t149⟩,A40,H⟩:=H
 replace H : (sigbin_reader_pred.l0 k (wrap64 (t146)) 0 t147 t148 t149 t141 ([] : List Int)) = some (r1,r2,r3,r4,r5):=H
 have A4:=Aside0.mk A40
 clear A40
 have H':=Aside0.mk H
 clear H
 go_enter Try.func70,Try.ntmps70
 go_wp2_with (first | ((with_reducible refine gate_dst (N:=1) rfl ?_);refine box_event ?hg (N:=1) ?hd (cs:=#[.pointer (some ⟨g,0,none⟩)]) (t:=123) ?hr ?_;(case hd => rfl);(case hg => rfl);(case hr => first | (go_simp;done) | (go_simp;rfl));intro gb139 hg w5 hbox hb;have n0_:=Aside0.mk (IsS157.below (by repeat (first | (with_reducible first | exact HI0.out | apply IsS157.alloc | apply IsS157.drewN | apply IsS157.drew | apply IsS157.set_0 | apply IsS157.set_1 | apply IsS157.set_2) | exact HI0.out)) hb);have n1_:=Aside0.mk (KeepBut.trans (by repeat (first | (with_reducible first | exact HK.out | apply KeepBut.set_ | apply keep_drewN | apply keep_drew | apply keep_alloc) | exact HK.out)) (KeepBut.of_below hb g none) (.inl rfl));have n2_:=Aside0.mk (below_step (by repeat (first | (with_reducible first | exact HB.out | apply below_alloc | apply pw_below_drewN | apply below_drew1 | refine below_set ?_ (IsS157.ge HI0.out)) | exact HB.out)) hb);have n3_:=Aside0.mk (hbox);have n4_:=Aside0.mk ((by rw [hg];exact (keep_size (w:=w) (g:=g) (row:=none) (by repeat (first | (with_reducible first | exact HK.out | apply KeepBut.set_ | apply keep_drewN | apply keep_drew | apply keep_alloc) | exact HK.out))) : w.heap.size ≤ gb139));have n5_:=Aside0.mk ((Nat.le_trans HW0.out (by rw [hg];exact (keep_size (w:=w) (g:=g) (row:=none) (by repeat (first | (with_reducible first | exact HK.out | apply KeepBut.set_ | apply keep_drewN | apply keep_drew | apply keep_alloc) | exact HK.out))) : w.heap.size ≤ gb139) : w0.heap.size ≤ gb139));have n6_:=Aside0.mk ((by rw [hg];exact Nat.ne_of_lt (IsS157.lt (show IsS157 w0 _ g s0_0 s0_1 s0_2 from by repeat (first | (with_reducible first | exact HI0.out | apply IsS157.alloc | apply IsS157.drewN | apply IsS157.drew | apply IsS157.set_0 | apply IsS157.set_1 | apply IsS157.set_2) | exact HI0.out))) : g ≠ gb139));have n7_:=Aside0.mk ((by rw [hg];exact Nat.ne_of_gt (IsS157.lt (show IsS157 w0 _ g s0_0 s0_1 s0_2 from by repeat (first | (with_reducible first | exact HI0.out | apply IsS157.alloc | apply IsS157.drewN | apply IsS157.drew | apply IsS157.set_0 | apply IsS157.set_1 | apply IsS157.set_2) | exact HI0.out))) : gb139 ≠ g));clear HI0;clear HK;clear HB;have HI0:=n0_;have HK:=n1_;have HB:=n2_;have BK139:=n3_;have GW139:=n4_;have GE139:=n5_;have NB0_139:=n6_;have NB139_0:=n7_;clear n0_ n1_ n2_ n3_ n4_ n5_ n6_ n7_;clear hb hbox hg) | ((with_reducible refine gate_dst (N:=2) rfl ?_);refine box_event ?hg (N:=2) ?hd (cs:=#[.string (⟨#[]⟩ : ByteArray),.slice none 0 0]) (t:=106) ?hr ?_;(case hd => rfl);(case hg => rfl);(case hr => first | (go_simp;done) | (go_simp;rfl));intro gb140 hg w6 hbox hb;have n0_:=Aside0.mk (IsS157.below (by repeat (first | (with_reducible first | exact HI0.out | apply IsS157.alloc | apply IsS157.drewN | apply IsS157.drew | apply IsS157.set_0 | apply IsS157.set_1 | apply IsS157.set_2 | refine IsS157.far ?_ NB0_139.out _) | exact HI0.out)) hb);have n1_:=Aside0.mk (blk_below (g:=gb139) (o:=.cells #[.pointer (some ⟨g,0,none⟩)] 123 (0,0)) (by (with_reducible repeat (first | refine blk_drewN ?_ _ | refine blk_drew ?_ | refine blk_alloc ?_ _));exact BK139.out) hb);have n2_:=Aside0.mk (KeepBut.trans (by repeat (first | (with_reducible first | exact HK.out | apply KeepBut.set_ | apply keep_drewN | apply keep_drew | apply keep_alloc | refine keep_far ?_ GW139.out _) | exact HK.out)) (KeepBut.of_below hb g none) (.inl rfl));have n3_:=Aside0.mk (below_step (by repeat (first | (with_reducible first | exact HB.out | apply below_alloc | apply pw_below_drewN | apply below_drew1 | refine below_set ?_ (IsS157.ge HI0.out) | refine below_set ?_ GE139.out) | exact HB.out)) hb);have n4_:=Aside0.mk (hbox);have n5_:=Aside0.mk ((by rw [hg];exact (keep_size (w:=w) (g:=g) (row:=none) (by repeat (first | (with_reducible first | exact HK.out | apply KeepBut.set_ | apply keep_drewN | apply keep_drew | apply keep_alloc | refine keep_far ?_ GW139.out _) | exact HK.out))) : w.heap.size ≤ gb140));have n6_:=Aside0.mk ((Nat.le_trans HW0.out (by rw [hg];exact (keep_size (w:=w) (g:=g) (row:=none) (by repeat (first | (with_reducible first | exact HK.out | apply KeepBut.set_ | apply keep_drewN | apply keep_drew | apply keep_alloc | refine keep_far ?_ GW139.out _) | exact HK.out))) : w.heap.size ≤ gb140) : w0.heap.size ≤ gb140));have n7_:=Aside0.mk ((by rw [hg];exact Nat.ne_of_lt (blk_lt (g:=gb139) (o:=.cells #[.pointer (some ⟨g,0,none⟩)] 123 (0,0)) (by (with_reducible repeat (first | refine blk_drewN ?_ _ | refine blk_drew ?_ | refine blk_alloc ?_ _));exact BK139.out)) : gb139 ≠ gb140));have n8_:=Aside0.mk ((by rw [hg];exact Nat.ne_of_gt (blk_lt (g:=gb139) (o:=.cells #[.pointer (some ⟨g,0,none⟩)] 123 (0,0)) (by (with_reducible repeat (first | refine blk_drewN ?_ _ | refine blk_drew ?_ | refine blk_alloc ?_ _));exact BK139.out)) : gb140 ≠ gb139));have n9_:=Aside0.mk ((by rw [hg];exact Nat.ne_of_lt (IsS157.lt (show IsS157 w0 _ g s0_0 s0_1 s0_2 from by repeat (first | (with_reducible first | exact HI0.out | apply IsS157.alloc | apply IsS157.drewN | apply IsS157.drew | apply IsS157.set_0 | apply IsS157.set_1 | apply IsS157.set_2 | refine IsS157.far ?_ NB0_139.out _) | exact HI0.out))) : g ≠ gb140));have n10_:=Aside0.mk ((by rw [hg];exact Nat.ne_of_gt (IsS157.lt (show IsS157 w0 _ g s0_0 s0_1 s0_2 from by repeat (first | (with_reducible first | exact HI0.out | apply IsS157.alloc | apply IsS157.drewN | apply IsS157.drew | apply IsS157.set_0 | apply IsS157.set_1 | apply IsS157.set_2 | refine IsS157.far ?_ NB0_139.out _) | exact HI0.out))) : gb140 ≠ g));clear HI0;clear BK139;clear HK;clear HB;have HI0:=n0_;have BK139:=n1_;have HK:=n2_;have HB:=n3_;have BK140:=n4_;have GW140:=n5_;have GE140:=n6_;have NB139_140:=n7_;have NB140_139:=n8_;have NB0_140:=n9_;have NB140_0:=n10_;clear n0_ n1_ n2_ n3_ n4_ n5_ n6_ n7_ n8_ n9_ n10_;clear hb hbox hg;have hnb7:=NB139_140.out;have hnc7:=NB140_139.out;have hnb8:=NB139_0.out;have hnc8:=NB0_139.out;have hcz9_0 : w6.cell? ⟨gb139,0,none⟩ = some (.pointer (some ⟨g,0,none⟩)):=(blk_cell BK139.out 0).trans rfl;have hfz9_0:=blk_frozen BK139.out 0) | ((with_reducible refine gate_callee (f:=94) rfl ?_);refine goesL_ (some 7) rfl rfl Try.func94 (by kernel_rfl) rfl #[.pointer (some ⟨g,0,none⟩),.int .i64 32] rfl (by (try simp only [List.map_toArray,List.map_cons,List.map_nil]);first | done | rfl | (simp only [List.length_drop,List.length_take];rfl)) ?_;(with_reducible refine (cursor_Cursor_Text.calls k g s0_0 s0_1 s0_2 32 t141 t142 t143 t144 w0 _ ?side1 ?side2 A3.out).mono ?_);(case side1 => repeat (first | (with_reducible first | exact HI0.out | apply IsS157.alloc | apply IsS157.drewN | apply IsS157.drew | apply IsS157.set_0 | apply IsS157.set_1 | apply IsS157.set_2 | refine IsS157.far ?_ NB0_139.out _ | refine IsS157.far ?_ NB0_140.out _) | exact HI0.out));(case side2 => repeat (first | (with_reducible first | exact HB.out | apply below_alloc | apply pw_below_drewN | apply below_drew1 | refine below_set ?_ (IsS157.ge HI0.out) | refine below_set ?_ GE139.out | refine below_set ?_ GE140.out) | exact HB.out));rintro e w10 ⟨rfl,hi,hb,hk⟩;refine ⟨_,rfl,?_⟩;have n0_:=Aside0.mk (KeepBut.blk hk (g':=gb139) (o:=.cells #[.pointer (some ⟨g,0,none⟩)] 123 (0,0)) (by (with_reducible repeat (first | refine blk_drewN ?_ _ | refine blk_drew ?_ | refine blk_alloc ?_ _));exact BK139.out) NB139_0.out (by simp));have n1_:=Aside0.mk (KeepBut.blk hk (g':=gb140) (o:=.cells #[.string (⟨#[]⟩ : ByteArray),.slice none 0 0] 106 (0,0)) (by (with_reducible repeat (first | refine blk_drewN ?_ _ | refine blk_drew ?_ | refine blk_alloc ?_ _));exact BK140.out) NB140_0.out (by simp));have n2_:=Aside0.mk (KeepBut.trans (by repeat (first | (with_reducible first | exact HK.out | apply KeepBut.set_ | apply keep_drewN | apply keep_drew | apply keep_alloc | refine keep_far ?_ GW139.out _ | refine keep_far ?_ GW140.out _) | exact HK.out)) hk (.inl rfl));have n3_:=Aside0.mk (hb);have n4_:=Aside0.mk (hi);clear BK139;clear BK140;clear HK;clear HB;clear HI0;have BK139:=n0_;have BK140:=n1_;have HK:=n2_;have HB:=n3_;have HI0:=n4_;clear n0_ n1_ n2_ n3_ n4_;(try clear hb);(try clear hb2);(try clear hk);(try clear hi)) | ((with_reducible refine gate_dst (N:=3) rfl ?_);refine box_event ?hg (N:=3) ?hd (cs:=#[.string (⟨#[]⟩ : ByteArray),.slice none 0 0]) (t:=106) ?hr ?_;(case hd => rfl);(case hg => rfl);(case hr => first | (go_simp;done) | (go_simp;rfl));intro gb145 hg w11 hbox hb;have n0_:=Aside0.mk (IsS157.below (by repeat (first | (with_reducible first | exact HI0.out | apply IsS157.alloc | apply IsS157.drewN | apply IsS157.drew | apply IsS157.set_0 | apply IsS157.set_1 | apply IsS157.set_2 | refine IsS157.far ?_ NB0_139.out _ | refine IsS157.far ?_ NB0_140.out _) | exact HI0.out)) hb);have n1_:=Aside0.mk (blk_below (g:=gb139) (o:=.cells #[.pointer (some ⟨g,0,none⟩)] 123 (0,0)) (by (with_reducible repeat (first | refine blk_drewN ?_ _ | refine blk_drew ?_ | refine blk_alloc ?_ _));exact BK139.out) hb);have n2_:=Aside0.mk (blk_below (g:=gb140) (o:=.cells #[.string (⟨#[]⟩ : ByteArray),.slice none 0 0] 106 (0,0)) (by (with_reducible repeat (first | refine blk_drewN ?_ _ | refine blk_drew ?_ | refine blk_alloc ?_ _));exact BK140.out) hb);have n3_:=Aside0.mk (KeepBut.trans (by repeat (first | (with_reducible first | exact HK.out | apply KeepBut.set_ | apply keep_drewN | apply keep_drew | apply keep_alloc | refine keep_far ?_ GW139.out _ | refine keep_far ?_ GW140.out _) | exact HK.out)) (KeepBut.of_below hb g none) (.inl rfl));have n4_:=Aside0.mk (below_step (by repeat (first | (with_reducible first | exact HB.out | apply below_alloc | apply pw_below_drewN | apply below_drew1 | refine below_set ?_ (IsS157.ge HI0.out) | refine below_set ?_ GE139.out | refine below_set ?_ GE140.out) | exact HB.out)) hb);have n5_:=Aside0.mk (hbox);have n6_:=Aside0.mk ((by rw [hg];exact (keep_size (w:=w) (g:=g) (row:=none) (by repeat (first | (with_reducible first | exact HK.out | apply KeepBut.set_ | apply keep_drewN | apply keep_drew | apply keep_alloc | refine keep_far ?_ GW139.out _ | refine keep_far ?_ GW140.out _) | exact HK.out))) : w.heap.size ≤ gb145));have n7_:=Aside0.mk ((Nat.le_trans HW0.out (by rw [hg];exact (keep_size (w:=w) (g:=g) (row:=none) (by repeat (first | (with_reducible first | exact HK.out | apply KeepBut.set_ | apply keep_drewN | apply keep_drew | apply keep_alloc | refine keep_far ?_ GW139.out _ | refine keep_far ?_ GW140.out _) | exact HK.out))) : w.heap.size ≤ gb145) : w0.heap.size ≤ gb145));have n8_:=Aside0.mk ((by rw [hg];exact Nat.ne_of_lt (blk_lt (g:=gb139) (o:=.cells #[.pointer (some ⟨g,0,none⟩)] 123 (0,0)) (by (with_reducible repeat (first | refine blk_drewN ?_ _ | refine blk_drew ?_ | refine blk_alloc ?_ _));exact BK139.out)) : gb139 ≠ gb145));have n9_:=Aside0.mk ((by rw [hg];exact Nat.ne_of_gt (blk_lt (g:=gb139) (o:=.cells #[.pointer (some ⟨g,0,none⟩)] 123 (0,0)) (by (with_reducible repeat (first | refine blk_drewN ?_ _ | refine blk_drew ?_ | refine blk_alloc ?_ _));exact BK139.out)) : gb145 ≠ gb139));have n10_:=Aside0.mk ((by rw [hg];exact Nat.ne_of_lt (blk_lt (g:=gb140) (o:=.cells #[.string (⟨#[]⟩ : ByteArray),.slice none 0 0] 106 (0,0)) (by (with_reducible repeat (first | refine blk_drewN ?_ _ | refine blk_drew ?_ | refine blk_alloc ?_ _));exact BK140.out)) : gb140 ≠ gb145));have n11_:=Aside0.mk ((by rw [hg];exact Nat.ne_of_gt (blk_lt (g:=gb140) (o:=.cells #[.string (⟨#[]⟩ : ByteArray),.slice none 0 0] 106 (0,0)) (by (with_reducible repeat (first | refine blk_drewN ?_ _ | refine blk_drew ?_ | refine blk_alloc ?_ _));exact BK140.out)) : gb145 ≠ gb140));have n12_:=Aside0.mk ((by rw [hg];exact Nat.ne_of_lt (IsS157.lt (show IsS157 w0 _ g t142 t143 t144 from by repeat (first | (with_reducible first | exact HI0.out | apply IsS157.alloc | apply IsS157.drewN | apply IsS157.drew | apply IsS157.set_0 | apply IsS157.set_1 | apply IsS157.set_2 | refine IsS157.far ?_ NB0_139.out _ | refine IsS157.far ?_ NB0_140.out _) | exact HI0.out))) : g ≠ gb145));have n13_:=Aside0.mk ((by rw [hg];exact Nat.ne_of_gt (IsS157.lt (show IsS157 w0 _ g t142 t143 t144 from by repeat (first | (with_reducible first | exact HI0.out | apply IsS157.alloc | apply IsS157.drewN | apply IsS157.drew | apply IsS157.set_0 | apply IsS157.set_1 | apply IsS157.set_2 | refine IsS157.far ?_ NB0_139.out _ | refine IsS157.far ?_ NB0_140.out _) | exact HI0.out))) : gb145 ≠ g));clear HI0;clear BK139;clear BK140;clear HK;clear HB;have HI0:=n0_;have BK139:=n1_;have BK140:=n2_;have HK:=n3_;have HB:=n4_;have BK145:=n5_;have GW145:=n6_;have GE145:=n7_;have NB139_145:=n8_;have NB145_139:=n9_;have NB140_145:=n10_;have NB145_140:=n11_;have NB0_145:=n12_;have NB145_0:=n13_;clear n0_ n1_ n2_ n3_ n4_ n5_ n6_ n7_ n8_ n9_ n10_ n11_ n12_ n13_;clear hb hbox hg;have hnb12:=NB145_139.out;have hnc12:=NB139_145.out;have hnb13:=NB145_140.out;have hnc13:=NB140_145.out;have hnb14:=NB145_0.out;have hnc14:=NB0_145.out;have hcz15_0 : w11.cell? ⟨gb145,0,none⟩ = some (.string (⟨#[]⟩ : ByteArray)):=(blk_cell BK145.out 0).trans rfl;have hcz15_1 : w11.cell? ⟨gb145,1,none⟩ = some (.slice none 0 0):=(blk_cell BK145.out 1).trans rfl;have hfz15_0:=blk_frozen BK145.out 0;have hfz15_1:=blk_frozen BK145.out 1;have hcz16_0 : w11.cell? ⟨gb139,0,none⟩ = some (.pointer (some ⟨g,0,none⟩)):=(blk_cell BK139.out 0).trans rfl;have hfz16_0:=blk_frozen BK139.out 0) | ((with_reducible refine gate_callee (f:=69) rfl ?_);refine goesL_ (some 11) rfl rfl Try.func69 (by kernel_rfl) rfl #[.pointer (some ⟨g,0,none⟩),.int .u64 8] rfl (by (try simp only [List.map_toArray,List.map_cons,List.map_nil]);first | done | rfl | (simp only [List.length_drop,List.length_take];rfl)) ?_;(with_reducible refine (cursor_Cursor_Number.calls k g t142 t143 t144 8 t146 t147 t148 t149 w0 _ ?side1 ?side2 A4.out).mono ?_);(case side1 => repeat (first | (with_reducible first | exact HI0.out | apply IsS157.alloc | apply IsS157.drewN | apply IsS157.drew | apply IsS157.set_0 | apply IsS157.set_1 | apply IsS157.set_2 | refine IsS157.far ?_ NB0_139.out _ | refine IsS157.far ?_ NB0_140.out _ | refine IsS157.far ?_ NB0_145.out _) | exact HI0.out));(case side2 => repeat (first | (with_reducible first | exact HB.out | apply below_alloc | apply pw_below_drewN | apply below_drew1 | refine below_set ?_ (IsS157.ge HI0.out) | refine below_set ?_ GE139.out | refine below_set ?_ GE140.out | refine below_set ?_ GE145.out) | exact HB.out));rintro e w17 ⟨rfl,hi,hb,hk⟩;refine ⟨_,rfl,?_⟩;have n0_:=Aside0.mk (KeepBut.blk hk (g':=gb139) (o:=.cells #[.pointer (some ⟨g,0,none⟩)] 123 (0,0)) (by (with_reducible repeat (first | refine blk_drewN ?_ _ | refine blk_drew ?_ | refine blk_alloc ?_ _));refine blk_far ?_ NB139_145.out _;(with_reducible repeat (first | refine blk_drewN ?_ _ | refine blk_drew ?_ | refine blk_alloc ?_ _));refine blk_far ?_ NB139_145.out _;(with_reducible repeat (first | refine blk_drewN ?_ _ | refine blk_drew ?_ | refine blk_alloc ?_ _));exact BK139.out) NB139_0.out (by simp));have n1_:=Aside0.mk (KeepBut.blk hk (g':=gb140) (o:=.cells #[.string (⟨#[]⟩ : ByteArray),.slice none 0 0] 106 (0,0)) (by (with_reducible repeat (first | refine blk_drewN ?_ _ | refine blk_drew ?_ | refine blk_alloc ?_ _));refine blk_far ?_ NB140_145.out _;(with_reducible repeat (first | refine blk_drewN ?_ _ | refine blk_drew ?_ | refine blk_alloc ?_ _));refine blk_far ?_ NB140_145.out _;(with_reducible repeat (first | refine blk_drewN ?_ _ | refine blk_drew ?_ | refine blk_alloc ?_ _));exact BK140.out) NB140_0.out (by simp));have n2_:=Aside0.mk (KeepBut.blk hk (g':=gb145) (o:=.cells #[.string t141,.slice none 0 0] 106 (0,0)) (by (with_reducible repeat (first | refine blk_drewN ?_ _ | refine blk_drew ?_ | refine blk_alloc ?_ _));refine blk_put (cs:=#[.string t141,.slice none 0 0]) ?_ 1 _ rfl;(with_reducible repeat (first | refine blk_drewN ?_ _ | refine blk_drew ?_ | refine blk_alloc ?_ _));refine blk_put (cs:=#[.string (⟨#[]⟩ : ByteArray),.slice none 0 0]) ?_ 0 _ rfl;(with_reducible repeat (first | refine blk_drewN ?_ _ | refine blk_drew ?_ | refine blk_alloc ?_ _));exact BK145.out) NB145_0.out (by simp));have n3_:=Aside0.mk (KeepBut.trans (by repeat (first | (with_reducible first | exact HK.out | apply KeepBut.set_ | apply keep_drewN | apply keep_drew | apply keep_alloc | refine keep_far ?_ GW139.out _ | refine keep_far ?_ GW140.out _ | refine keep_far ?_ GW145.out _) | exact HK.out)) hk (.inl rfl));have n4_:=Aside0.mk (hb);have n5_:=Aside0.mk (hi);clear BK139;clear BK140;clear BK145;clear HK;clear HB;clear HI0;have BK139:=n0_;have BK140:=n1_;have BK145:=n2_;have HK:=n3_;have HB:=n4_;have HI0:=n5_;clear n0_ n1_ n2_ n3_ n4_ n5_;(try clear hb);(try clear hb2);(try clear hk);(try clear hi)))
 go_loopg [14] k (fun kq v14 w' => ∃ (x14_1 : Int) (x1000_1 : ByteArray) (x1001_1 : Int) (x1002_1 : Int) (x146001_1 : List Int) (u146001 : Value),v14 = .int .i64 x14_1 ∧ Aside0 (sigbin_reader_pred.l0 kq (wrap64 (t146)) x14_1 x1000_1 x1001_1 x1002_1 t141 x146001_1 = some (r1,r2,r3,r4,r5)) ∧ Aside0 (kq ≤ k) ∧ Aside0 (Kd.R (Kd.int .i64) 3 w' w.heap.size (fun _ => True) u146001 x146001_1) ∧ Aside0 (w'.heap[gb139]? = some (.cells #[.pointer (some ⟨g,0,none⟩)] 123 (0,0))) ∧ Aside0 (w'.heap[gb140]? = some (.cells #[.string (⟨#[]⟩ : ByteArray),(.slice none 0 0)] 106 (0,0))) ∧ Aside0 (w'.heap[gb145]? = some (.cells #[.string t141,u146001] 106 (0,0))) ∧ Aside0 (IsS157 w0 w' g x1000_1 x1001_1 x1002_1) ∧ Aside0 (KeepBut w w' g none) ∧ Aside0 (Below w0.heap.size w0 w'))
 case atStart => exact ⟨(0),(t147),(t148),(t149),(([] : List Int)),(.slice none 0 0),(by first | rfl | (simp;done) | (simp [*];done)),H',⟨Nat.le_refl _⟩,⟨by first | exact Kd.R_nil _ _ _ _ _ | exact Kd.N_nil _ _ _ _ _ | exact Kd.V_nil _ _ _ _ _ | exact Kd.Q_nil _ _ _ _ _ | exact Kd.S_nil _ _ _ _ _⟩,⟨by (with_reducible repeat (first | refine blk_drewN ?_ _ | refine blk_drew ?_ | refine blk_alloc ?_ _));exact BK139.out⟩,⟨by (with_reducible repeat (first | refine blk_drewN ?_ _ | refine blk_drew ?_ | refine blk_alloc ?_ _));exact BK140.out⟩,⟨by (with_reducible repeat (first | refine blk_drewN ?_ _ | refine blk_drew ?_ | refine blk_alloc ?_ _));exact BK145.out⟩,⟨by repeat (first | (with_reducible first | exact HI0.out | apply IsS157.alloc | apply IsS157.drewN | apply IsS157.drew | apply IsS157.set_0 | apply IsS157.set_1 | apply IsS157.set_2 | refine IsS157.far ?_ NB0_139.out _ | refine IsS157.far ?_ NB0_140.out _ | refine IsS157.far ?_ NB0_145.out _) | exact HI0.out)⟩,⟨by repeat (first | (with_reducible first | exact HK.out | apply KeepBut.set_ | apply keep_drewN | apply keep_drew | apply keep_alloc | refine keep_far ?_ GW139.out _ | refine keep_far ?_ GW140.out _ | refine keep_far ?_ GW145.out _) | exact HK.out)⟩,⟨by repeat (first | (with_reducible first | exact HB.out | apply below_alloc | apply pw_below_drewN | apply below_drew1 | refine below_set ?_ (IsS157.ge HI0.out) | refine below_set ?_ GE139.out | refine below_set ?_ GE140.out | refine below_set ?_ GE145.out) | exact HB.out)⟩⟩
 case round =>
  clear H'
  try clear c1
  try clear p2
  try clear c6
  try clear p6
  try clear c7
  try clear c8
  try clear c9
  try clear c12
  try clear c13
  try clear c14
  try clear hcz15_0
  try clear hcz15_1
  try clear hcz16_0
  try clear hcz9_0
  try clear hfz15_0
  try clear hfz15_1
  try clear hfz16_0
  try clear hfz9_0
  obtain ⟨x14_1,x1000_1,x1001_1,x1002_1,x146001_1,u146001,rfl,HA,HK1,HO_146001,BK139,BK140,BK145,HI0,HK,HB⟩:=hrel
  cases gk with
  | zero => exact absurd HA.out (by simp [sigbin_reader_pred.l0])
  | succ k1 =>
   have H:=HA.out
   clear HA
   simp only [sigbin_reader_pred.l0] at H
   by_cases c18 : x14_1 < (wrap64 (t146))
   ·rw [if_pos c18] at H
    have c18b0 : decide (x14_1 < (wrap64 (t146))) = true:=decide_eq_true c18
    clear c18
    replace H:=Option.bind_eq_some_iff.mp H
    obtain ⟨⟨t150,t151,t152,t153⟩,A190,H⟩:=H
    replace H : (if x146001_1.length < 17592186044416 then (sigbin_reader_pred.l0 k1 (wrap64 (t146)) (wrap64 (x14_1 + 1)) t151 t152 t153 t141 (x146001_1 ++ [wrap64 (t150)])) else (none)) = some (r1,r2,r3,r4,r5):=H
    have A19:=Aside0.mk A190
    clear A190
    by_cases c20 : x146001_1.length < 17592186044416
    ·rw [if_pos c20] at H
     have LMc20:=Aside0.mk c20
     clear c20
     obtain ⟨y154,hy154⟩ : ∃ y_ : List Int,y_ = (x146001_1 ++ [wrap64 (t150)]):=⟨_,rfl⟩
     replace H : (sigbin_reader_pred.l0 k1 (wrap64 (t146)) (wrap64 (x14_1 + 1)) t151 t152 t153 t141 y154) = some (r1,r2,r3,r4,r5):=by first | (rw [hy154];with_reducible exact H) | (have H2_:=(Option.bind_some _ _).symm.trans H;rw [hy154];with_reducible exact H2_) | (have H2_:=(Option.bind_some _ _).symm.trans H;with_reducible exact H2_) | with_reducible exact H | (rw [hy154];exact H) | exact H
     have Ny154:=Aside0.mk hy154
     clear hy154
     have H':=Aside0.mk H
     clear H
     try go_wp2
     have n0_:=Aside0.mk (Kd.R_drew HO_146001.out)
     have n1_:=Aside0.mk (blk_drew BK139.out)
     have n2_:=Aside0.mk (blk_drew BK140.out)
     have n3_:=Aside0.mk (blk_drew BK145.out)
     have n4_:=Aside0.mk (IsS157.drew HI0.out)
     have n5_:=Aside0.mk (keep_drew HK.out)
     have n6_:=Aside0.mk (below_drew1 HB.out)
     clear HO_146001
     clear BK139
     clear BK140
     clear BK145
     clear HI0
     clear HK
     clear HB
     have HO_146001:=n0_
     have BK139:=n1_
     have BK140:=n2_
     have BK145:=n3_
     have HI0:=n4_
     have HK:=n5_
     have HB:=n6_
     clear n0_ n1_ n2_ n3_ n4_ n5_ n6_
     refine start_ (n:=10) (S:=fun w' => w'.cell? ⟨gb145,0,none⟩ = some (.string t141) ∧ w'.cell? ⟨gb145,1,none⟩ = some (u146001) ∧ w'.cell? ⟨gb139,0,none⟩ = some (.pointer (some ⟨g,0,none⟩))) (ds:=[9]) #[n_,n_,n_,n_,n_,n_,n_,n_,n_,n_] (by kernel_rfl) rfl rfl ⟨(blk_cell BK145.out 0).trans rfl,(blk_cell BK145.out 1).trans rfl,(blk_cell BK139.out 0).trans rfl⟩ (fun hHeld => ?_);refine with_tabW sigbin_reader_pred.tab5 sigbin_reader_pred.bits5 (fun HT_ HW_ => ?_)
     generalize wr.drew = w21 at HO_146001 BK139 BK140 BK145 HI0 HK HB hHeld ⊢
     refine pure_ (i:=0) (N:=some 16) (v:=?_) (a':=?_) #[y_,n_,n_,n_,n_,n_,n_,n_,n_,n_] rfl rfl (any_of HT_.out (by kernel_rfl)) (fun _ _ _ h => h) (Or.inl ⟨by rfl,?_⟩) ?_ ?_
     rotate_left
     ·intro w'
      go_simp
      with_reducible rfl
     rotate_left
     ·simp only [Act.put,sA_,sB_,sC_,i64_w,i32_w]
      rfl
     refine pure_ (i:=2) (N:=some 18) (v:=?_) (a':=?_) #[y_,n_,y_,n_,n_,n_,n_,n_,n_,n_] rfl rfl (any_of HT_.out (by kernel_rfl)) (fun _ _ _ h => h) (Or.inl ⟨by rfl,?_⟩) ?_ ?_
     rotate_left
     ·intro w'
      go_simp
      with_reducible rfl
     rotate_left
     ·simp only [Act.put,sA_,sB_,sC_,i64_w,i32_w]
      rfl
     refine take_ (i:=1) (N:=some 17) (v:=?_) (a':=?_) #[y_,y_,y_,n_,n_,n_,n_,n_,n_,n_] rfl rfl (take_ofW HT_.out HW_.out (by kernel_rfl)) (fun _ _ _ h => h) (Or.inl ⟨by rfl,?_⟩) hHeld ?_ ?_
     rotate_left
     ·rintro w' ⟨s0,s1,s2⟩
      go_simp
      with_reducible rfl
     rotate_left
     ·simp only [Act.put,sA_,sB_,sC_,i64_w,i32_w]
      rfl
     refine take_ (i:=3) (N:=some 19) (v:=?_) (a':=?_) #[y_,y_,y_,y_,n_,n_,n_,n_,n_,n_] rfl rfl (take_ofW HT_.out HW_.out (by kernel_rfl)) (fun _ _ _ h => h) (Or.inl ⟨by rfl,?_⟩) hHeld ?_ ?_
     rotate_left
     ·rintro w' ⟨s0,s1,s2⟩
      go_simp
      with_reducible rfl
     rotate_left
     ·simp only [Act.put,sA_,sB_,sC_,i64_w,i32_w]
      rfl
     refine one_ (i:=4) (N:=some 20) #[y_,y_,y_,y_,y_,n_,n_,n_,n_,n_] rfl rfl (one_of HT_.out (by kernel_rfl)) (by decide) (fun K hK => ?_)
     refine goes_ Try.func95 (by kernel_rfl) rfl #[.pointer (some ⟨g,0,none⟩)] (by rfl) rfl rfl (by (try simp only [List.map_toArray,List.map_cons,List.map_nil]);first | done | rfl | (simp only [List.length_drop,List.length_take];rfl)) ?_
     with_reducible refine (cursor_Cursor_Byte.calls g x1000_1 x1001_1 x1002_1 t150 t151 t152 t153 w0 _ ?side1 ?side2 A19.out).mono ?_
     (case side1 => repeat (first | (with_reducible first | exact HI0.out | apply IsS157.alloc | apply IsS157.drewN | apply IsS157.drew | apply IsS157.set_0 | apply IsS157.set_1 | apply IsS157.set_2 | refine IsS157.far ?_ NB0_139.out _ | refine IsS157.far ?_ NB0_140.out _ | refine IsS157.far ?_ NB0_145.out _) | exact HI0.out))
     (case side2 => repeat (first | (with_reducible first | exact HB.out | apply below_alloc | apply pw_below_drewN | apply below_drew1 | refine below_set ?_ (IsS157.ge HI0.out) | refine below_set ?_ GE139.out | refine below_set ?_ GE140.out | refine below_set ?_ GE145.out) | exact HB.out))
     rintro e w22 ⟨rfl,hi,hb,hk⟩
     refine ⟨_,rfl,?_⟩
     have n0_:=Aside0.mk (Kd.R_mono (Kd.R_keep (IsS157.apart (show IsS157 w0 _ g x1000_1 x1001_1 x1002_1 from by repeat (first | (with_reducible first | exact HI0.out | apply IsS157.alloc | apply IsS157.drewN | apply IsS157.drew | apply IsS157.set_0 | apply IsS157.set_1 | apply IsS157.set_2 | refine IsS157.far ?_ NB0_139.out _ | refine IsS157.far ?_ NB0_140.out _ | refine IsS157.far ?_ NB0_145.out _) | exact HI0.out)) (by (with_reducible repeat (first | apply Kd.R_alloc | apply Kd.R_drewN | apply Kd.R_drew));exact HO_146001.out) (by decide)) hk (fun _ h => h.2)) (fun _ h => h.1))
     have n1_:=Aside0.mk (KeepBut.blk hk (g':=gb139) (o:=.cells #[.pointer (some ⟨g,0,none⟩)] 123 (0,0)) (by (with_reducible repeat (first | refine blk_drewN ?_ _ | refine blk_drew ?_ | refine blk_alloc ?_ _));exact BK139.out) NB139_0.out (by simp))
     have n2_:=Aside0.mk (KeepBut.blk hk (g':=gb140) (o:=.cells #[.string (⟨#[]⟩ : ByteArray),.slice none 0 0] 106 (0,0)) (by (with_reducible repeat (first | refine blk_drewN ?_ _ | refine blk_drew ?_ | refine blk_alloc ?_ _));exact BK140.out) NB140_0.out (by simp))
     have n3_:=Aside0.mk (KeepBut.blk hk (g':=gb145) (o:=.cells #[.string t141,u146001] 106 (0,0)) (by (with_reducible repeat (first | refine blk_drewN ?_ _ | refine blk_drew ?_ | refine blk_alloc ?_ _));exact BK145.out) NB145_0.out (by simp))
     have n4_:=Aside0.mk (KeepBut.trans (by repeat (first | (with_reducible first | exact HK.out | apply KeepBut.set_ | apply keep_drewN | apply keep_drew | apply keep_alloc | refine keep_far ?_ GW139.out _ | refine keep_far ?_ GW140.out _ | refine keep_far ?_ GW145.out _) | exact HK.out)) hk (.inl rfl))
     have n5_:=Aside0.mk (hb)
     have n6_:=Aside0.mk (hi)
     clear HO_146001
     clear BK139
     clear BK140
     clear BK145
     clear HK
     clear HB
     clear HI0
     have HO_146001:=n0_
     have BK139:=n1_
     have BK140:=n2_
     have BK145:=n3_
     have HK:=n4_
     have HB:=n5_
     have HI0:=n6_
     clear n0_ n1_ n2_ n3_ n4_ n5_ n6_
     (try clear hb)
     (try clear hb2)
     (try clear hk)
     (try clear hi)
     refine hK.out _ _ ⟨(blk_cell BK145.out 0).trans rfl,(blk_cell BK145.out 1).trans rfl,(blk_cell BK139.out 0).trans rfl⟩ (fun hHeld => ?_)
     clear hK K
     refine norm_ (a':=?_) ?_ ?_
     rotate_left
     ·show Act.put _ (some 20) _ = _
      simp only [Act.put,sA_,sB_,sC_,i64_w,i32_w]
      rfl
     refine pure_ (i:=5) (N:=some 21) (v:=?_) (a':=?_) #[y_,y_,y_,y_,y_,y_,n_,n_,n_,n_] rfl rfl (any_of HT_.out (by kernel_rfl)) (fun _ _ _ h => h) (Or.inl ⟨by rfl,?_⟩) ?_ ?_
     rotate_left
     ·intro w'
      go_simp
      with_reducible rfl
     rotate_left
     ·simp only [Act.put,sA_,sB_,sC_,i64_w,i32_w]
      rfl
     refine one_ (i:=6) (N:=some 22) #[y_,y_,y_,y_,y_,y_,y_,n_,n_,n_] rfl rfl (one_of HT_.out (by kernel_rfl)) (by decide) (fun K hK => ?_)
     refine value_ (w1:=?_) (v:=?_) (by rfl) rfl ?_ ?_
     rotate_left 2
     ·go_simp
      constructor
      ·rfl
      ·rfl
     refine hK.out _ _ ⟨(blk_cell (blk_alloc BK145.out _) 0).trans rfl,(blk_cell (blk_alloc BK145.out _) 1).trans rfl,(blk_cell (blk_alloc BK139.out _) 0).trans rfl⟩ (fun hHeld => ?_)
     clear hK K
     refine norm_ (a':=?_) ?_ ?_
     rotate_left
     ·show Act.put _ (some 22) _ = _
      simp only [Act.put,sA_,sB_,sC_,i64_w,i32_w]
      rfl
     refine one_ (i:=7) (N:=some 23) #[y_,y_,y_,y_,y_,y_,y_,y_,n_,n_] rfl rfl (one_of HT_.out (by kernel_rfl)) (by decide) (fun K hK => ?_)
     refine Kd.R_append_step (Kd.int .i64) w.heap.size (by rfl) (.tmp 17) (.tmp 22) 45 3 (.int .i64 0) 8 rfl Try.underlying45 info3 rfl (by decide) (by omega) u146001 x146001_1 (wrap64 (t150)) [.int .i64 (wrap64 (t150))] (fun _ => True) (fun _ => False) rfl rfl ?aP (fun _ hk => hk.elim) ?aF ?aO (Below.refl _ _) ?aS ?aL ?_
     (case aP => exact rfl)
     (case aF => exact (fun _ _ => trivial))
     (case aO => exact (by (with_reducible repeat (first | apply Kd.R_alloc | apply Kd.R_drewN | apply Kd.R_drew));exact HO_146001.out))
     (case aS => exact (keep_size (w:=w) (g:=g) (row:=none) (by repeat (first | (with_reducible first | exact HK.out | apply KeepBut.set_ | apply keep_drewN | apply keep_drew | apply keep_alloc | refine keep_far ?_ GW139.out _ | refine keep_far ?_ GW140.out _ | refine keep_far ?_ GW145.out _) | exact HK.out))))
     (case aL => have:=LMc20.out;omega)
     intro v155 w23 ho hb hg hat
     rw [← Ny154.out] at ho
     have n0_:=Aside0.mk (blk_grown (g:=gb139) (o:=.cells #[.pointer (some ⟨g,0,none⟩)] 123 (0,0)) (by (with_reducible repeat (first | refine blk_drewN ?_ _ | refine blk_drew ?_ | refine blk_alloc ?_ _));exact BK139.out) hg (Kd.R_ne HO_146001.out BK139.out (by decide)))
     have n1_:=Aside0.mk (blk_grown (g:=gb140) (o:=.cells #[.string (⟨#[]⟩ : ByteArray),.slice none 0 0] 106 (0,0)) (by (with_reducible repeat (first | refine blk_drewN ?_ _ | refine blk_drew ?_ | refine blk_alloc ?_ _));exact BK140.out) hg (Kd.R_ne HO_146001.out BK140.out (by decide)))
     have n2_:=Aside0.mk (blk_grown (g:=gb145) (o:=.cells #[.string t141,u146001] 106 (0,0)) (by (with_reducible repeat (first | refine blk_drewN ?_ _ | refine blk_drew ?_ | refine blk_alloc ?_ _));exact BK145.out) hg (Kd.R_ne HO_146001.out BK145.out (by decide)))
     have n3_:=Aside0.mk (IsS157.grown (by repeat (first | (with_reducible first | exact HI0.out | apply IsS157.alloc | apply IsS157.drewN | apply IsS157.drew | apply IsS157.set_0 | apply IsS157.set_1 | apply IsS157.set_2 | refine IsS157.far ?_ NB0_139.out _ | refine IsS157.far ?_ NB0_140.out _ | refine IsS157.far ?_ NB0_145.out _) | exact HI0.out)) hg (IsS157.own_ne HI0.out HO_146001.out (by decide)))
     have n4_:=Aside0.mk (below_weaken (by repeat (first | (with_reducible first | exact HB.out | apply below_alloc | apply pw_below_drewN | apply below_drew1 | refine below_set ?_ (IsS157.ge HI0.out) | refine below_set ?_ GE139.out | refine below_set ?_ GE140.out | refine below_set ?_ GE145.out) | exact HB.out)) HL.out hb)
     have n5_:=Aside0.mk (KeepBut.trans (by repeat (first | (with_reducible first | exact HK.out | apply KeepBut.set_ | apply keep_drewN | apply keep_drew | apply keep_alloc | refine keep_far ?_ GW139.out _ | refine keep_far ?_ GW140.out _ | refine keep_far ?_ GW145.out _) | exact HK.out)) (KeepBut.of_grown hg g) (Kd.R_base2 HO_146001.out))
     have n6_:=Aside0.mk (ho)
     clear BK139
     clear BK140
     clear BK145
     clear HI0
     clear HB
     clear HK
     clear HO_146001
     have BK139:=n0_
     have BK140:=n1_
     have BK145:=n2_
     have HI0:=n3_
     have HB:=n4_
     have HK:=n5_
     have HO156:=n6_
     clear n0_ n1_ n2_ n3_ n4_ n5_ n6_
     clear ho hb hg hat
     obtain ⟨Ao24,co24,eo24⟩:=Kd.R_slice HO156.out
     (first | subst eo24 | (injection eo24 with f1_ f2_ f3_;have f4_:=f1_.symm;have f5_:=f3_.symm;clear f1_ f2_ f3_;subst f4_;subst f5_))
     refine hK.out _ _ ⟨(blk_cell BK145.out 0).trans rfl,(blk_cell BK145.out 1).trans rfl,(blk_cell BK139.out 0).trans rfl⟩ (fun hHeld => ?_)
     clear hK K
     refine norm_ (a':=?_) ?_ ?_
     rotate_left
     ·show Act.put _ (some 23) _ = _
      simp only [Act.put,sA_,sB_,sC_,i64_w,i32_w]
      rfl
     refine pure_ (i:=8) (N:=some 24) (v:=?_) (a':=?_) #[y_,y_,y_,y_,y_,y_,y_,y_,y_,n_] rfl rfl (any_of HT_.out (by kernel_rfl)) (fun _ _ _ h => h) (Or.inl ⟨by rfl,?_⟩) ?_ ?_
     rotate_left
     ·intro w'
      go_simp
      with_reducible rfl
     rotate_left
     ·simp only [Act.put,sA_,sB_,sC_,i64_w,i32_w]
      rfl
     refine last_ (i:=9) (N:=none) #[y_,y_,y_,y_,y_,y_,y_,y_,y_,y_] rfl rfl (one_of HT_.out (by kernel_rfl)) (by decide) (fun K hK => ?_)
     have hs25 : w23.cell? ⟨gb145,1,none⟩ = some (u146001):=(blk_cell BK145.out 1).trans rfl
     have hfs25:=blk_frozen BK145.out 1
     have hns25_0:=NB139_145.out
     have hns25_1:=NB140_145.out
     have hms25_0:=NB145_139.out
     have hms25_1:=NB145_140.out
     refine skip_ (w1:=?_) (by rfl) rfl ?_ ?_
     rotate_left
     ·go_simp
      rfl
     refine hK.out _ _ ?_
     clear hK K
     refine done_ (done_of HT_.out (by kernel_rfl)) ?_
     try go_wp2
     go_roundg k1
     case measure => have:=HK1.out;omega
     case rel => exact ⟨(wrap64 (x14_1 + 1)),(t151),(t152),(t153),(y154),(.slice Ao24 y154.length co24),(by first | rfl | (simp;done) | (simp [*];done)),H',⟨by have:=HK1.out;omega⟩,⟨by (with_reducible repeat (first | apply Kd.R_alloc | apply Kd.R_drewN | apply Kd.R_drew));exact Kd.R_mono (Kd.R_far (p:=⟨gb145,1,none⟩) (Kd.R_types HO156.out BK145.out (by decide)) (fun _ hk => hk.2) (.slice Ao24 y154.length co24)) (fun _ hk => trivial)⟩,⟨by (with_reducible repeat (first | refine blk_drewN ?_ _ | refine blk_drew ?_ | refine blk_alloc ?_ _));refine blk_far ?_ NB139_145.out _;(with_reducible repeat (first | refine blk_drewN ?_ _ | refine blk_drew ?_ | refine blk_alloc ?_ _));exact BK139.out⟩,⟨by (with_reducible repeat (first | refine blk_drewN ?_ _ | refine blk_drew ?_ | refine blk_alloc ?_ _));refine blk_far ?_ NB140_145.out _;(with_reducible repeat (first | refine blk_drewN ?_ _ | refine blk_drew ?_ | refine blk_alloc ?_ _));exact BK140.out⟩,⟨by (with_reducible repeat (first | refine blk_drewN ?_ _ | refine blk_drew ?_ | refine blk_alloc ?_ _));refine blk_put (cs:=#[.string t141,u146001]) ?_ 1 _ rfl;(with_reducible repeat (first | refine blk_drewN ?_ _ | refine blk_drew ?_ | refine blk_alloc ?_ _));exact BK145.out⟩,⟨by repeat (first | (with_reducible first | exact HI0.out | apply IsS157.alloc | apply IsS157.drewN | apply IsS157.drew | apply IsS157.set_0 | apply IsS157.set_1 | apply IsS157.set_2 | refine IsS157.far ?_ NB0_139.out _ | refine IsS157.far ?_ NB0_140.out _ | refine IsS157.far ?_ NB0_145.out _) | exact HI0.out)⟩,⟨by repeat (first | (with_reducible first | exact HK.out | apply KeepBut.set_ | apply keep_drewN | apply keep_drew | apply keep_alloc | refine keep_far ?_ GW139.out _ | refine keep_far ?_ GW140.out _ | refine keep_far ?_ GW145.out _) | exact HK.out)⟩,⟨by repeat (first | (with_reducible first | exact HB.out | apply below_alloc | apply pw_below_drewN | apply below_drew1 | refine below_set ?_ (IsS157.ge HI0.out) | refine below_set ?_ GE139.out | refine below_set ?_ GE140.out | refine below_set ?_ GE145.out) | exact HB.out)⟩⟩
    ·rw [if_neg c20] at H
     exact absurd H (by simp)
   ·rw [if_neg c18] at H
    have c18b0 : decide (x14_1 < (wrap64 (t146))) = false:=decide_eq_false c18
    clear c18
    simp only [Option.some.injEq,Prod.mk.injEq] at H
    obtain ⟨rfl,rfl,rfl,rfl,rfl⟩:=H
    have hnb26:=NB145_139.out
    have hnc26:=NB139_145.out
    have hnb27:=NB145_140.out
    have hnc27:=NB140_145.out
    have hnb28:=NB145_0.out
    have hnc28:=NB0_145.out
    have hcz29_0 : wr.cell? ⟨gb145,0,none⟩ = some (.string t141):=(blk_cell BK145.out 0).trans rfl
    have hcz29_1 : wr.cell? ⟨gb145,1,none⟩ = some (u146001):=(blk_cell BK145.out 1).trans rfl
    have hfz29_0:=blk_frozen BK145.out 0
    have hfz29_1:=blk_frozen BK145.out 1
    have hnb30:=NB140_139.out
    have hnc30:=NB139_140.out
    have hnb31:=NB140_0.out
    have hnc31:=NB0_140.out
    have hcz32_0 : wr.cell? ⟨gb140,0,none⟩ = some (.string (⟨#[]⟩ : ByteArray)):=(blk_cell BK140.out 0).trans rfl
    have hcz32_1 : wr.cell? ⟨gb140,1,none⟩ = some (.slice none 0 0):=(blk_cell BK140.out 1).trans rfl
    have hfz32_0:=blk_frozen BK140.out 0
    have hfz32_1:=blk_frozen BK140.out 1
    obtain ⟨Ao33,co33,eo33⟩:=Kd.R_slice HO_146001.out
    subst eo33
    go_wp2
    refine bodyPost_ret (results_cell_row rfl _ _ gb140 106 #[.string t141,.slice Ao33 x146001_1.length co33] (0,0) _ rfl (by (with_reducible repeat (first | refine blk_drewN ?_ _ | refine blk_drew ?_ | refine blk_alloc ?_ _));refine blk_put (cs:=#[.string t141,.slice none 0 0]) ?_ 1 _ rfl;(with_reducible repeat (first | refine blk_drewN ?_ _ | refine blk_drew ?_ | refine blk_alloc ?_ _));refine blk_put (cs:=#[.string (⟨#[]⟩ : ByteArray),.slice none 0 0]) ?_ 0 _ rfl;(with_reducible repeat (first | refine blk_drewN ?_ _ | refine blk_drew ?_ | refine blk_alloc ?_ _));exact BK140.out) Try.underlying106 rfl (by kernel_rfl)) rfl ?_
    exact ⟨_,by first | rfl | (simp [errW_none,errW_some] <;> rfl) | (simp [*,errW_none,errW_some] <;> rfl),by (with_reducible repeat (first | apply Kd.R_alloc | apply Kd.R_drewN | apply Kd.R_drew));exact Kd.R_mono (Kd.R_far (p:=⟨gb140,1,none⟩) (Kd.R_far (p:=⟨gb140,0,none⟩) (Kd.R_types HO_146001.out BK140.out (by decide)) (fun _ hk => hk.2) (.string t141)) (fun _ hk => hk.2) (.slice Ao33 x146001_1.length co33)) (fun _ hk => trivial),by repeat (first | (with_reducible first | exact HI0.out | apply IsS157.alloc | apply IsS157.drewN | apply IsS157.drew | apply IsS157.set_0 | apply IsS157.set_1 | apply IsS157.set_2 | refine IsS157.far ?_ NB0_139.out _ | refine IsS157.far ?_ NB0_140.out _ | refine IsS157.far ?_ NB0_145.out _) | exact HI0.out),by repeat (first | (with_reducible first | exact HB.out | apply below_alloc | apply pw_below_drewN | apply below_drew1 | refine below_set ?_ (IsS157.ge HI0.out) | refine below_set ?_ GE139.out | refine below_set ?_ GE140.out | refine below_set ?_ GE145.out) | exact HB.out),by repeat (first | (with_reducible first | exact HK.out | apply KeepBut.set_ | apply keep_drewN | apply keep_drew | apply keep_alloc | refine keep_far ?_ GW139.out _ | refine keep_far ?_ GW140.out _ | refine keep_far ?_ GW145.out _) | exact HK.out)⟩

/-! ### cursor_Cursor_Left: function 96 -/
def cursor_Cursor_Left.f (s0_0 : ByteArray) (s0_1 : Int) (s0_2 : Int) : Option (Int × ByteArray × Int × Int) := some (wrap64 ((s0_0.size : Int) - s0_1), s0_0, s0_1, s0_2)
set_option maxHeartbeats 8000000 in
set_option maxRecDepth 100000 in
theorem cursor_Cursor_Left.calls (g : Nat) (s0_0 : ByteArray) (s0_1 : Int) (s0_2 : Int) (r1 : Int) (r2 : ByteArray) (r3 : Int) (r4 : Int) (w0 w : World) (hI : IsS157 w0 w g s0_0 s0_1 s0_2) (hB : Below w0.heap.size w0 w) (h : cursor_Cursor_Left.f s0_0 s0_1 s0_2 = some (r1, r2, r3, r4)) :
    Calls Try.prog 96 #[.pointer (some ⟨g, 0, none⟩)] w fun e w' => e = .returned (.int .i64 r1) ∧ IsS157 w0 w' g r2 r3 r4 ∧ Below w0.heap.size w0 w' ∧ KeepBut w w' g none := by
  have HI0 := Aside0.mk hI
  have HK := Aside0.mk (KeepBut.refl w g none)
  have HL := Aside0.mk hB.size
  clear hI
  have HW0 := Aside0.mk hB.size
  have HB := Aside0.mk hB
  clear hB
  have H : (some (wrap64 ((s0_0.size : Int) - s0_1), s0_0, s0_1, s0_2)) = some (r1, r2, r3, r4) := h
  clear h
  simp only [Option.some.injEq, Prod.mk.injEq] at H
  obtain ⟨rfl, rfl, rfl, rfl⟩ := H
  obtain ⟨HGz2, hgz2⟩ := HI0.out
  have hcz2_0 := cellS157_0 HGz2
  have hcz2_1 := cellS157_1 HGz2
  have hcz2_2 := cellS157_2 HGz2
  have hfz2_0 := blk_frozen HGz2 0
  have hfz2_1 := blk_frozen HGz2 1
  have hfz2_2 := blk_frozen HGz2 2
  clear HGz2 hgz2
  go_enter Try.func96, Try.ntmps96
  go_wp2
  repeat (go_quiet (fail); try go_wp2)
  go_ret
  exact ⟨by first | rfl | (simp [errW_none, errW_some] <;> rfl) | (simp [*, errW_none, errW_some] <;> rfl), by repeat (first | (with_reducible first | exact HI0.out | apply IsS157.alloc | apply IsS157.drewN | apply IsS157.drew | apply IsS157.set_0 | apply IsS157.set_1 | apply IsS157.set_2) | exact HI0.out), by repeat (first | (with_reducible first | exact HB.out | apply below_alloc | apply pw_below_drewN | apply below_drew1 | refine below_set ?_ (IsS157.ge HI0.out)) | exact HB.out), by repeat (first | (with_reducible first | exact HK.out | apply KeepBut.set_ | apply keep_drewN | apply keep_drew | apply keep_alloc) | exact HK.out)⟩

/-! ### cursor_Cursor_Stop: function 97 -/
def cursor_Cursor_Stop.f (s0_0 : ByteArray) (s0_1 : Int) (s0_2 : Int) (a1 : Int) : Option (ByteArray × Int × Int) := if s0_2 = 0 then (some (s0_0, s0_1, a1)) else (some (s0_0, s0_1, s0_2))
set_option maxHeartbeats 8000000 in
set_option maxRecDepth 100000 in
theorem cursor_Cursor_Stop.calls (g : Nat) (s0_0 : ByteArray) (s0_1 : Int) (s0_2 : Int) (a1 : Int) (r1 : ByteArray) (r2 : Int) (r3 : Int) (w0 w : World) (hI : IsS157 w0 w g s0_0 s0_1 s0_2) (hB : Below w0.heap.size w0 w) (h : cursor_Cursor_Stop.f s0_0 s0_1 s0_2 a1 = some (r1, r2, r3)) :
    Calls Try.prog 97 #[.pointer (some ⟨g, 0, none⟩), .int .i64 a1] w fun e w' => e = .returned (.tuple #[]) ∧ IsS157 w0 w' g r1 r2 r3 ∧ Below w0.heap.size w0 w' ∧ KeepBut w w' g none := by
  have HI0 := Aside0.mk hI
  have HK := Aside0.mk (KeepBut.refl w g none)
  have HL := Aside0.mk hB.size
  clear hI
  have HW0 := Aside0.mk hB.size
  have HB := Aside0.mk hB
  clear hB
  have H : (if s0_2 = 0 then (some (s0_0, s0_1, a1)) else (some (s0_0, s0_1, s0_2))) = some (r1, r2, r3) := h
  clear h
  by_cases c3 : s0_2 = 0
  · rw [if_pos c3] at H
    have c3b0 : (s0_2 == 0) = true := beq_iff_eq.mpr c3
    have c3b1 : (s0_2 != 0) = false := bne_eq_false_iff_eq.mpr c3
    clear c3
    simp only [Option.some.injEq, Prod.mk.injEq] at H
    obtain ⟨rfl, rfl, rfl⟩ := H
    obtain ⟨HGz4, hgz4⟩ := HI0.out
    have hcz4_0 := cellS157_0 HGz4
    have hcz4_1 := cellS157_1 HGz4
    have hcz4_2 := cellS157_2 HGz4
    have hfz4_0 := blk_frozen HGz4 0
    have hfz4_1 := blk_frozen HGz4 1
    have hfz4_2 := blk_frozen HGz4 2
    clear HGz4 hgz4
    go_enter Try.func97, Try.ntmps97
    go_wp2
    first | go_end0 | ((try simp only [Exit.inBlock, Exit.then]); refine bodyPost_ret (results_none rfl _ _ _) rfl ?_)
    exact ⟨by first | rfl | (simp [errW_none, errW_some] <;> rfl) | (simp [*, errW_none, errW_some] <;> rfl), by repeat (first | (with_reducible first | exact HI0.out | apply IsS157.alloc | apply IsS157.drewN | apply IsS157.drew | apply IsS157.set_0 | apply IsS157.set_1 | apply IsS157.set_2) | exact HI0.out), by repeat (first | (with_reducible first | exact HB.out | apply below_alloc | apply pw_below_drewN | apply below_drew1 | refine below_set ?_ (IsS157.ge HI0.out)) | exact HB.out), by repeat (first | (with_reducible first | exact HK.out | apply KeepBut.set_ | apply keep_drewN | apply keep_drew | apply keep_alloc) | exact HK.out)⟩
  · rw [if_neg c3] at H
    have c3b0 : (s0_2 == 0) = false := beq_eq_false_iff_ne.mpr c3
    have c3b1 : (s0_2 != 0) = true := bne_iff_ne.mpr c3
    simp only [Option.some.injEq, Prod.mk.injEq] at H
    obtain ⟨rfl, rfl, rfl⟩ := H
    obtain ⟨HGz5, hgz5⟩ := HI0.out
    have hcz5_0 := cellS157_0 HGz5
    have hcz5_1 := cellS157_1 HGz5
    have hcz5_2 := cellS157_2 HGz5
    have hfz5_0 := blk_frozen HGz5 0
    have hfz5_1 := blk_frozen HGz5 1
    have hfz5_2 := blk_frozen HGz5 2
    clear HGz5 hgz5
    go_enter Try.func97, Try.ntmps97
    go_wp2
    first | go_end0 | ((try simp only [Exit.inBlock, Exit.then]); refine bodyPost_ret (results_none rfl _ _ _) rfl ?_)
    exact ⟨by first | rfl | (simp [errW_none, errW_some] <;> rfl) | (simp [*, errW_none, errW_some] <;> rfl), by repeat (first | (with_reducible first | exact HI0.out | apply IsS157.alloc | apply IsS157.drewN | apply IsS157.drew | apply IsS157.set_0 | apply IsS157.set_1 | apply IsS157.set_2) | exact HI0.out), by repeat (first | (with_reducible first | exact HB.out | apply below_alloc | apply pw_below_drewN | apply below_drew1 | refine below_set ?_ (IsS157.ge HI0.out)) | exact HB.out), by repeat (first | (with_reducible first | exact HK.out | apply KeepBut.set_ | apply keep_drewN | apply keep_drew | apply keep_alloc) | exact HK.out)⟩

/-! ### cursor_Cursor_Done: function 71 -/
def cursor_Cursor_Done.f (s0_0 : ByteArray) (s0_1 : Int) (s0_2 : Int) : Option (Bool × ByteArray × Int × Int) := (cursor_Cursor_Left.f s0_0 s0_1 s0_2).bind fun bt157 => (if bt157.1 > 0 then ((cursor_Cursor_Stop.f bt157.2.1 bt157.2.2.1 bt157.2.2.2 4).bind fun bt161 => (some ((bt161.2.2 == 0), bt161.1, bt161.2.1, bt161.2.2))) else (some ((bt157.2.2.2 == 0), bt157.2.1, bt157.2.2.1, bt157.2.2.2)))
set_option maxHeartbeats 8000000 in
set_option maxRecDepth 100000 in
theorem cursor_Cursor_Done.calls (g : Nat) (s0_0 : ByteArray) (s0_1 : Int) (s0_2 : Int) (r1 : Bool) (r2 : ByteArray) (r3 : Int) (r4 : Int) (w0 w : World) (hI : IsS157 w0 w g s0_0 s0_1 s0_2) (hB : Below w0.heap.size w0 w) (h : cursor_Cursor_Done.f s0_0 s0_1 s0_2 = some (r1, r2, r3, r4)) :
    Calls Try.prog 71 #[.pointer (some ⟨g, 0, none⟩)] w fun e w' => e = .returned (.bool r1) ∧ IsS157 w0 w' g r2 r3 r4 ∧ Below w0.heap.size w0 w' ∧ KeepBut w w' g none := by
  have HI0 := Aside0.mk hI
  have HK := Aside0.mk (KeepBut.refl w g none)
  have HL := Aside0.mk hB.size
  clear hI
  have HW0 := Aside0.mk hB.size
  have HB := Aside0.mk hB
  clear hB
  have H : ((cursor_Cursor_Left.f s0_0 s0_1 s0_2).bind fun bt157 => (if bt157.1 > 0 then ((cursor_Cursor_Stop.f bt157.2.1 bt157.2.2.1 bt157.2.2.2 4).bind fun bt161 => (some ((bt161.2.2 == 0), bt161.1, bt161.2.1, bt161.2.2))) else (some ((bt157.2.2.2 == 0), bt157.2.1, bt157.2.2.1, bt157.2.2.2)))) = some (r1, r2, r3, r4) := h
  clear h
  replace H := Option.bind_eq_some_iff.mp H
  obtain ⟨⟨t157, t158, t159, t160⟩, A20, H⟩ := H
  replace H : (if t157 > 0 then ((cursor_Cursor_Stop.f t158 t159 t160 4).bind fun bt161 => (some ((bt161.2.2 == 0), bt161.1, bt161.2.1, bt161.2.2))) else (some ((t160 == 0), t158, t159, t160))) = some (r1, r2, r3, r4) := H
  have A2 := Aside0.mk A20
  clear A20
  by_cases c3 : t157 > 0
  · rw [if_pos c3] at H
    have c3b0 : decide (0 < t157) = true := decide_eq_true c3
    clear c3
    replace H := Option.bind_eq_some_iff.mp H
    obtain ⟨⟨t161, t162, t163⟩, A40, H⟩ := H
    replace H : (some ((t163 == 0), t161, t162, t163)) = some (r1, r2, r3, r4) := H
    have A4 := Aside0.mk A40
    clear A40
    simp only [Option.some.injEq, Prod.mk.injEq] at H
    obtain ⟨rfl, rfl, rfl, rfl⟩ := H
    go_enter Try.func71, Try.ntmps71
    go_wp2_with (first | ((with_reducible refine gate_callee (f := 96) rfl ?_); refine goesL_ (some 4) rfl rfl Try.func96 (by kernel_rfl) rfl #[.pointer (some ⟨g, 0, none⟩)] rfl (by (try simp only [List.map_toArray, List.map_cons, List.map_nil]); first | done | rfl | (simp only [List.length_drop, List.length_take]; rfl) | (refine congrArg (fun z_ => #[z_]) (congrArg (Value.int IntKind.u64) (Eq.symm (Go.Proofs.YtjfklfmfeghjnabAid.wrap_len _ (by omega)))))) ?_; (with_reducible refine (cursor_Cursor_Left.calls g s0_0 s0_1 s0_2 t157 t158 t159 t160 w0 _ ?side1 ?side2 A2.out).mono ?_); (case side1 => repeat (first | (with_reducible first | exact HI0.out | apply IsS157.alloc | apply IsS157.drewN | apply IsS157.drew | apply IsS157.set_0 | apply IsS157.set_1 | apply IsS157.set_2) | exact HI0.out)); (case side2 => repeat (first | (with_reducible first | exact HB.out | apply below_alloc | apply pw_below_drewN | apply below_drew1 | refine below_set ?_ (IsS157.ge HI0.out)) | exact HB.out)); rintro e w5 ⟨rfl, hi, hb, hk⟩; refine ⟨_, rfl, ?_⟩; have n0_ := Aside0.mk (KeepBut.trans (by repeat (first | (with_reducible first | exact HK.out | apply KeepBut.set_ | apply keep_drewN | apply keep_drew | apply keep_alloc) | exact HK.out)) hk (.inl rfl)); have n1_ := Aside0.mk (hb); have n2_ := Aside0.mk (hi); clear HK; clear HB; clear HI0; have HK := n0_; have HB := n1_; have HI0 := n2_; clear n0_ n1_ n2_; (try clear hb); (try clear hb2); (try clear hk); (try clear hi)) | ((with_reducible refine gate_callee (f := 97) rfl ?_); refine goesL_ (some 7) rfl rfl Try.func97 (by kernel_rfl) rfl #[.pointer (some ⟨g, 0, none⟩), .int .i64 4] rfl (by (try simp only [List.map_toArray, List.map_cons, List.map_nil]); first | done | rfl | (simp only [List.length_drop, List.length_take]; rfl) | (refine congrArg (fun z_ => #[z_]) (congrArg (Value.int IntKind.u64) (Eq.symm (Go.Proofs.YtjfklfmfeghjnabAid.wrap_len _ (by omega)))))) ?_; (with_reducible refine (cursor_Cursor_Stop.calls g t158 t159 t160 4 t161 t162 t163 w0 _ ?side1 ?side2 A4.out).mono ?_); (case side1 => repeat (first | (with_reducible first | exact HI0.out | apply IsS157.alloc | apply IsS157.drewN | apply IsS157.drew | apply IsS157.set_0 | apply IsS157.set_1 | apply IsS157.set_2) | exact HI0.out)); (case side2 => repeat (first | (with_reducible first | exact HB.out | apply below_alloc | apply pw_below_drewN | apply below_drew1 | refine below_set ?_ (IsS157.ge HI0.out)) | exact HB.out)); rintro e w6 ⟨rfl, hi, hb, hk⟩; refine ⟨_, rfl, ?_⟩; have n0_ := Aside0.mk (KeepBut.trans (by repeat (first | (with_reducible first | exact HK.out | apply KeepBut.set_ | apply keep_drewN | apply keep_drew | apply keep_alloc) | exact HK.out)) hk (.inl rfl)); have n1_ := Aside0.mk (hb); have n2_ := Aside0.mk (hi); clear HK; clear HB; clear HI0; have HK := n0_; have HB := n1_; have HI0 := n2_; clear n0_ n1_ n2_; (try clear hb); (try clear hb2); (try clear hk); (try clear hi); obtain ⟨HGz7, hgz7⟩ := HI0.out; have hcz7_0 := cellS157_0 HGz7; have hcz7_1 := cellS157_1 HGz7; have hcz7_2 := cellS157_2 HGz7; have hfz7_0 := blk_frozen HGz7 0; have hfz7_1 := blk_frozen HGz7 1; have hfz7_2 := blk_frozen HGz7 2; clear HGz7 hgz7))
    go_ret
    exact ⟨by first | rfl | (simp [errW_none, errW_some] <;> rfl) | (simp [*, errW_none, errW_some] <;> rfl), by repeat (first | (with_reducible first | exact HI0.out | apply IsS157.alloc | apply IsS157.drewN | apply IsS157.drew | apply IsS157.set_0 | apply IsS157.set_1 | apply IsS157.set_2) | exact HI0.out), by repeat (first | (with_reducible first | exact HB.out | apply below_alloc | apply pw_below_drewN | apply below_drew1 | refine below_set ?_ (IsS157.ge HI0.out)) | exact HB.out), by repeat (first | (with_reducible first | exact HK.out | apply KeepBut.set_ | apply keep_drewN | apply keep_drew | apply keep_alloc) | exact HK.out)⟩
  · rw [if_neg c3] at H
    have c3b0 : decide (0 < t157) = false := decide_eq_false c3
    clear c3
    simp only [Option.some.injEq, Prod.mk.injEq] at H
    obtain ⟨rfl, rfl, rfl, rfl⟩ := H
    go_enter Try.func71, Try.ntmps71
    go_wp2_with (first | ((with_reducible refine gate_callee (f := 96) rfl ?_); refine goesL_ (some 4) rfl rfl Try.func96 (by kernel_rfl) rfl #[.pointer (some ⟨g, 0, none⟩)] rfl (by (try simp only [List.map_toArray, List.map_cons, List.map_nil]); first | done | rfl | (simp only [List.length_drop, List.length_take]; rfl) | (refine congrArg (fun z_ => #[z_]) (congrArg (Value.int IntKind.u64) (Eq.symm (Go.Proofs.YtjfklfmfeghjnabAid.wrap_len _ (by omega)))))) ?_; (with_reducible refine (cursor_Cursor_Left.calls g s0_0 s0_1 s0_2 t157 t158 t159 t160 w0 _ ?side1 ?side2 A2.out).mono ?_); (case side1 => repeat (first | (with_reducible first | exact HI0.out | apply IsS157.alloc | apply IsS157.drewN | apply IsS157.drew | apply IsS157.set_0 | apply IsS157.set_1 | apply IsS157.set_2) | exact HI0.out)); (case side2 => repeat (first | (with_reducible first | exact HB.out | apply below_alloc | apply pw_below_drewN | apply below_drew1 | refine below_set ?_ (IsS157.ge HI0.out)) | exact HB.out)); rintro e w8 ⟨rfl, hi, hb, hk⟩; refine ⟨_, rfl, ?_⟩; have n0_ := Aside0.mk (KeepBut.trans (by repeat (first | (with_reducible first | exact HK.out | apply KeepBut.set_ | apply keep_drewN | apply keep_drew | apply keep_alloc) | exact HK.out)) hk (.inl rfl)); have n1_ := Aside0.mk (hb); have n2_ := Aside0.mk (hi); clear HK; clear HB; clear HI0; have HK := n0_; have HB := n1_; have HI0 := n2_; clear n0_ n1_ n2_; (try clear hb); (try clear hb2); (try clear hk); (try clear hi); obtain ⟨HGz9, hgz9⟩ := HI0.out; have hcz9_0 := cellS157_0 HGz9; have hcz9_1 := cellS157_1 HGz9; have hcz9_2 := cellS157_2 HGz9; have hfz9_0 := blk_frozen HGz9 0; have hfz9_1 := blk_frozen HGz9 1; have hfz9_2 := blk_frozen HGz9 2; clear HGz9 hgz9))
    go_ret
    exact ⟨by first | rfl | (simp [errW_none, errW_some] <;> rfl) | (simp [*, errW_none, errW_some] <;> rfl), by repeat (first | (with_reducible first | exact HI0.out | apply IsS157.alloc | apply IsS157.drewN | apply IsS157.drew | apply IsS157.set_0 | apply IsS157.set_1 | apply IsS157.set_2) | exact HI0.out), by repeat (first | (with_reducible first | exact HB.out | apply below_alloc | apply pw_below_drewN | apply below_drew1 | refine below_set ?_ (IsS157.ge HI0.out)) | exact HB.out), by repeat (first | (with_reducible first | exact HK.out | apply KeepBut.set_ | apply keep_drewN | apply keep_drew | apply keep_alloc) | exact HK.out)⟩

/-! ### cursor_Cursor_Err: function 72 -/
def cursor_Cursor_Err.f (s0_0 : ByteArray) (s0_1 : Int) (s0_2 : Int) : Option (Int × ByteArray × Int × Int) := some (s0_2, s0_0, s0_1, s0_2)
set_option maxHeartbeats 8000000 in
set_option maxRecDepth 100000 in
theorem cursor_Cursor_Err.calls (g : Nat) (s0_0 : ByteArray) (s0_1 : Int) (s0_2 : Int) (r1 : Int) (r2 : ByteArray) (r3 : Int) (r4 : Int) (w0 w : World) (hI : IsS157 w0 w g s0_0 s0_1 s0_2) (hB : Below w0.heap.size w0 w) (h : cursor_Cursor_Err.f s0_0 s0_1 s0_2 = some (r1, r2, r3, r4)) :
    Calls Try.prog 72 #[.pointer (some ⟨g, 0, none⟩)] w fun e w' => e = .returned (.int .i64 r1) ∧ IsS157 w0 w' g r2 r3 r4 ∧ Below w0.heap.size w0 w' ∧ KeepBut w w' g none := by
  have HI0 := Aside0.mk hI
  have HK := Aside0.mk (KeepBut.refl w g none)
  have HL := Aside0.mk hB.size
  clear hI
  have HW0 := Aside0.mk hB.size
  have HB := Aside0.mk hB
  clear hB
  have H : (some (s0_2, s0_0, s0_1, s0_2)) = some (r1, r2, r3, r4) := h
  clear h
  simp only [Option.some.injEq, Prod.mk.injEq] at H
  obtain ⟨rfl, rfl, rfl, rfl⟩ := H
  obtain ⟨HGz2, hgz2⟩ := HI0.out
  have hcz2_0 := cellS157_0 HGz2
  have hcz2_1 := cellS157_1 HGz2
  have hcz2_2 := cellS157_2 HGz2
  have hfz2_0 := blk_frozen HGz2 0
  have hfz2_1 := blk_frozen HGz2 1
  have hfz2_2 := blk_frozen HGz2 2
  clear HGz2 hgz2
  go_enter Try.func72, Try.ntmps72
  go_wp2
  go_ret
  exact ⟨by first | rfl | (simp [errW_none, errW_some] <;> rfl) | (simp [*, errW_none, errW_some] <;> rfl), by repeat (first | (with_reducible first | exact HI0.out | apply IsS157.alloc | apply IsS157.drewN | apply IsS157.drew | apply IsS157.set_0 | apply IsS157.set_1 | apply IsS157.set_2) | exact HI0.out), by repeat (first | (with_reducible first | exact HB.out | apply below_alloc | apply pw_below_drewN | apply below_drew1 | refine below_set ?_ (IsS157.ge HI0.out)) | exact HB.out), by repeat (first | (with_reducible first | exact HK.out | apply KeepBut.set_ | apply keep_drewN | apply keep_drew | apply keep_alloc) | exact HK.out)⟩

/-! ### sigbin_Get: function 41 -/
def sigbin_Get.l0 : Nat → List (S106) → Int → Int → ByteArray → Int → Int → Int → Option ((List (S106)) × Int)
 | 0, _, _, _, _, _, _, _ => none
 | k + 1, x5, x13, x14, x168000, x168001, x168002, x169000 => if x14 < x13 then ((sigbin_reader_pred.f k x168000 x168001 x168002 x169000).bind fun bt173 => (if x5.length < 3518437208883 then (sigbin_Get.l0 k (x5 ++ [(⟨bt173.1, bt173.2.1⟩ : S106)]) x13 (wrap64 (x14 + 1)) bt173.2.2.1 bt173.2.2.2.1 bt173.2.2.2.2 x169000) else (none))) else ((cursor_Cursor_Done.f x168000 x168001 x168002).bind fun bt183 => (if bt183.1 = true then ((sig_Check.f k x5).bind fun t187 => (if t187 = 0 then (some (x5, 0)) else (some (([] : List (S106)), t187)))) else ((cursor_Cursor_Err.f bt183.2.1 bt183.2.2.1 bt183.2.2.2).bind fun bt188 => (some (([] : List (S106)), bt188.1)))))
def sigbin_Get.f (k : Nat) (l0 : List Int) : Option ((List (S106)) × Int) := (cursor_New.f l0).bind fun bt164 => ((cursor_Cursor_Number.f k bt164.1 bt164.2.1 bt164.2.2 64).bind fun bt169 => (sigbin_Get.l0 k ([] : List (S106)) (wrap64 (bt169.1)) 0 bt169.2.1 bt169.2.2.1 bt169.2.2.2 771177))
theorem sigbin_Get.mono_l : ∀ k, (∀ y0 y1 y2 y3 y4 y5 y6, LeO (sigbin_Get.l0 k y0 y1 y2 y3 y4 y5 y6) (sigbin_Get.l0 (k + 1) y0 y1 y2 y3 y4 y5 y6))
 | 0 => fun _ _ _ _ _ _ _ r h => by simp [sigbin_Get.l0] at h
 | k + 1 => by
  have ih0 := sigbin_Get.mono_l k
  ·intro y0 y1 y2 y3 y4 y5 y6
   unfold sigbin_Get.l0
   repeat' first
   | (with_reducible exact ih0 _ _ _ _ _ _ _)
   | (with_reducible exact cursor_Cursor_Number.mono _ _ _ _ _)
   | (with_reducible exact sig_Check.mono _ _)
   | (with_reducible exact sigbin_reader_pred.mono _ _ _ _ _)
   | (with_reducible exact LeO.refl _)
   | (with_reducible exact LeO.none _)
   | (with_reducible refine LeO.ite ?_ ?_)
   | (with_reducible refine LeO.bind ?_ (fun _ => ?_))
   | exact ih0 _ _ _ _ _ _ _
   | exact cursor_Cursor_Number.mono _ _ _ _ _
   | exact sig_Check.mono _ _
   | exact sigbin_reader_pred.mono _ _ _ _ _
   | exact LeO.none _
   | refine LeO.ite ?_ ?_
   | refine LeO.bind ?_ (fun _ => ?_)
theorem sigbin_Get.mono : ∀ a0 k, LeO (sigbin_Get.f k a0) (sigbin_Get.f (k + 1) a0) := by
 intro a0 k
 have ih0 := sigbin_Get.mono_l k
 unfold sigbin_Get.f
 repeat' first
   | (with_reducible exact ih0 _ _ _ _ _ _ _)
   | (with_reducible exact cursor_Cursor_Number.mono _ _ _ _ _)
   | (with_reducible exact sig_Check.mono _ _)
   | (with_reducible exact sigbin_reader_pred.mono _ _ _ _ _)
   | (with_reducible exact LeO.refl _)
   | (with_reducible exact LeO.none _)
   | (with_reducible refine LeO.ite ?_ ?_)
   | (with_reducible refine LeO.bind ?_ (fun _ => ?_))
   | exact ih0 _ _ _ _ _ _ _
   | exact cursor_Cursor_Number.mono _ _ _ _ _
   | exact sig_Check.mono _ _
   | exact sigbin_reader_pred.mono _ _ _ _ _
   | exact LeO.none _
   | refine LeO.ite ?_ ?_
   | refine LeO.bind ?_ (fun _ => ?_)
set_option maxHeartbeats 8000000 in
set_option maxRecDepth 100000 in
theorem sigbin_Get.calls (k : Nat) (A0 : Option Addr) (c0 : Nat) (l0 : List Int) (r1 : List (S106)) (r2 : Int) (w : World) (hr0 : Kd.C (Kd.int .u8) w A0 l0.length l0) (hc0 : l0.length ≤ c0) (h : sigbin_Get.f k l0 = some (r1,r2)) :
  Calls Try.prog 41 #[.slice A0 l0.length c0] w fun e w' => ∃ v0_ : Value,e = .returned (.tuple #[v0_,.int .i64 r2]) ∧ Kd.S k106 106 w' w.heap.size (fun _ => True) v0_ r1 ∧ Below w.heap.size w w':=by
 have hu123:=Try.underlying123
 have HR0:=Aside0.mk hr0
 have HC0:=Aside0.mk hc0
 clear hr0 hc0
 have HB:=Aside0.mk (Below.refl w.heap.size w)
 have H : ((cursor_New.f l0).bind fun bt164 => ((cursor_Cursor_Number.f k bt164.1 bt164.2.1 bt164.2.2 64).bind fun bt169 => (sigbin_Get.l0 k ([] : List (S106)) (wrap64 (bt169.1)) 0 bt169.2.1 bt169.2.2.1 bt169.2.2.2 771177))) = some (r1,r2):=h
 clear h
 replace H:=Option.bind_eq_some_iff.mp H
 obtain ⟨⟨t164,t165,t166⟩,A20,H⟩:=H
 replace H : ((cursor_Cursor_Number.f k t164 t165 t166 64).bind fun bt169 => (sigbin_Get.l0 k ([] : List (S106)) (wrap64 (bt169.1)) 0 bt169.2.1 bt169.2.2.1 bt169.2.2.2 771177)) = some (r1,r2):=H
 have A2:=Aside0.mk A20
 clear A20
 replace H:=Option.bind_eq_some_iff.mp H
 obtain ⟨⟨t169,t170,t171,t172⟩,A30,H⟩:=H
 replace H : (sigbin_Get.l0 k ([] : List (S106)) (wrap64 (t169)) 0 t170 t171 t172 771177) = some (r1,r2):=H
 have A3:=Aside0.mk A30
 clear A30
 have H':=Aside0.mk H
 clear H
 go_enter Try.func41,Try.ntmps41
 go_wp2_with (first | ((with_reducible refine gate_callee (f:=68) rfl ?_);refine goesL_ (some 8) rfl rfl Try.func68 (by kernel_rfl) rfl #[.slice A0 l0.length c0] rfl (by (try simp only [List.map_toArray,List.map_cons,List.map_nil]);first | done | rfl | (simp only [List.length_drop,List.length_take];rfl)) ?_;(with_reducible refine (cursor_New.calls _ _ l0 t164 t165 t166 w _ ?side1 ?side2 ?side3 A2.out).mono ?_);(case side1 => repeat (first | (with_reducible first | exact HB.out | apply below_alloc | apply pw_below_drewN | apply below_drew1) | exact HB.out));(case side2 => repeat (first | exact HR0.out | (with_reducible refine Kd.C_alloc ?_ _) | (with_reducible refine Kd.C_drewN ?_ _) | (with_reducible refine Kd.C_drew ?_)));(case side3 => exact HC0.out);rintro e w4 ⟨g167,rfl,hi,hb,hb2⟩;refine ⟨_,rfl,?_⟩;have n0_:=Aside0.mk (hb);have n1_:=Aside0.mk (hi);clear HB;have HB:=n0_;have HI167:=n1_;clear n0_ n1_;(try clear hb);(try clear hb2);(try clear hk);(try clear hi)) | ((with_reducible refine gate_dst (N:=4) rfl ?_);refine box_event ?hg (N:=4) ?hd (cs:=#[.pointer none]) (t:=123) ?hr ?_;(case hd => rfl);(case hg => rfl);(case hr => first | (go_simp;done) | (go_simp;rfl));intro gb168 hg w5 hbox hb;have n0_:=Aside0.mk (IsS157.below (by repeat (first | (with_reducible first | exact HI167.out | apply IsS157.alloc | apply IsS157.drewN | apply IsS157.drew | apply IsS157.set_0 | apply IsS157.set_1 | apply IsS157.set_2) | exact HI167.out)) hb);have n1_:=Aside0.mk (below_step (by repeat (first | (with_reducible first | exact HB.out | apply below_alloc | apply pw_below_drewN | apply below_drew1 | refine below_set ?_ (IsS157.ge HI167.out)) | exact HB.out)) hb);have n2_:=Aside0.mk (hbox);have n3_:=Aside0.mk ((by rw [hg];exact (below_size (by repeat (first | (with_reducible first | exact HB.out | apply below_alloc | apply pw_below_drewN | apply below_drew1 | refine below_set ?_ (IsS157.ge HI167.out)) | exact HB.out))) : w.heap.size ≤ gb168));have n4_:=Aside0.mk ((by rw [hg];exact (below_size (by repeat (first | (with_reducible first | exact HB.out | apply below_alloc | apply pw_below_drewN | apply below_drew1 | refine below_set ?_ (IsS157.ge HI167.out)) | exact HB.out))) : w.heap.size ≤ gb168));have n5_:=Aside0.mk ((by rw [hg];exact Nat.ne_of_lt (IsS157.lt (show IsS157 w _ g167 t164 t165 t166 from by repeat (first | (with_reducible first | exact HI167.out | apply IsS157.alloc | apply IsS157.drewN | apply IsS157.drew | apply IsS157.set_0 | apply IsS157.set_1 | apply IsS157.set_2) | exact HI167.out))) : g167 ≠ gb168));have n6_:=Aside0.mk ((by rw [hg];exact Nat.ne_of_gt (IsS157.lt (show IsS157 w _ g167 t164 t165 t166 from by repeat (first | (with_reducible first | exact HI167.out | apply IsS157.alloc | apply IsS157.drewN | apply IsS157.drew | apply IsS157.set_0 | apply IsS157.set_1 | apply IsS157.set_2) | exact HI167.out))) : gb168 ≠ g167));clear HI167;clear HB;have HI167:=n0_;have HB:=n1_;have BK168:=n2_;have GW168:=n3_;have GE168:=n4_;have NB167_168:=n5_;have NB168_167:=n6_;clear n0_ n1_ n2_ n3_ n4_ n5_ n6_;clear hb hbox hg;have hnb6:=NB168_167.out;have hnc6:=NB167_168.out;have hcz7_0 : w5.cell? ⟨gb168,0,none⟩ = some (.pointer none):=(blk_cell BK168.out 0).trans rfl;have hfz7_0:=blk_frozen BK168.out 0) | ((with_reducible refine gate_callee (f:=69) rfl ?_);refine goesL_ (some 12) rfl rfl Try.func69 (by kernel_rfl) rfl #[.pointer (some ⟨g167,0,none⟩),.int .u64 64] rfl (by (try simp only [List.map_toArray,List.map_cons,List.map_nil]);first | done | rfl | (simp only [List.length_drop,List.length_take];rfl)) ?_;(with_reducible refine (cursor_Cursor_Number.calls k g167 t164 t165 t166 64 t169 t170 t171 t172 w _ ?side1 ?side2 A3.out).mono ?_);(case side1 => repeat (first | (with_reducible first | exact HI167.out | apply IsS157.alloc | apply IsS157.drewN | apply IsS157.drew | apply IsS157.set_0 | apply IsS157.set_1 | apply IsS157.set_2 | refine IsS157.far ?_ NB167_168.out _) | exact HI167.out));(case side2 => repeat (first | (with_reducible first | exact HB.out | apply below_alloc | apply pw_below_drewN | apply below_drew1 | refine below_set ?_ (IsS157.ge HI167.out) | refine below_set ?_ GE168.out) | exact HB.out));rintro e w8 ⟨rfl,hi,hb,hk⟩;refine ⟨_,rfl,?_⟩;have n0_:=Aside0.mk (KeepBut.blk hk (g':=gb168) (o:=.cells #[.pointer (some ⟨g167,0,none⟩)] 123 (0,0)) (by (with_reducible repeat (first | refine blk_drewN ?_ _ | refine blk_drew ?_ | refine blk_alloc ?_ _));refine blk_put (cs:=#[.pointer none]) ?_ 0 _ rfl;(with_reducible repeat (first | refine blk_drewN ?_ _ | refine blk_drew ?_ | refine blk_alloc ?_ _));exact BK168.out) NB168_167.out (by simp));have n1_:=Aside0.mk (hb);have n2_:=Aside0.mk (hi);clear BK168;clear HB;clear HI167;have BK168:=n0_;have HB:=n1_;have HI167:=n2_;clear n0_ n1_ n2_;(try clear hb);(try clear hb2);(try clear hk);(try clear hi)))
 go_loopg [5,14] k (fun kq v5 v14 w' => ∃ (x5_1 : List (S106)) (x14_1 : Int) (x168000_1 : ByteArray) (x168001_1 : Int) (x168002_1 : Int),v14 = .int .i64 x14_1 ∧ Aside0 (sigbin_Get.l0 kq x5_1 (wrap64 (t169)) x14_1 x168000_1 x168001_1 x168002_1 771177 = some (r1,r2)) ∧ Aside0 (kq ≤ k) ∧ Aside0 (Kd.S k106 106 w' w.heap.size (fun _ => True) v5 x5_1) ∧ Aside0 (w'.heap[gb168]? = some (.cells #[.pointer (some ⟨g167,0,none⟩)] 123 (0,0))) ∧ Aside0 (IsS157 w w' g167 x168000_1 x168001_1 x168002_1) ∧ Aside0 (Below w.heap.size w w'))
 case atStart => exact ⟨(([] : List (S106))),(0),(t170),(t171),(t172),(by first | rfl | (simp;done) | (simp [*];done)),H',⟨Nat.le_refl _⟩,⟨by first | exact Kd.S_nil _ _ _ _ _ | exact Kd.N_nil _ _ _ _ _ | exact Kd.V_nil _ _ _ _ _ | exact Kd.Q_nil _ _ _ _ _ | exact Kd.R_nil _ _ _ _ _⟩,⟨by (with_reducible repeat (first | refine blk_drewN ?_ _ | refine blk_drew ?_ | refine blk_alloc ?_ _));exact BK168.out⟩,⟨by repeat (first | (with_reducible first | exact HI167.out | apply IsS157.alloc | apply IsS157.drewN | apply IsS157.drew | apply IsS157.set_0 | apply IsS157.set_1 | apply IsS157.set_2 | refine IsS157.far ?_ NB167_168.out _) | exact HI167.out)⟩,⟨by repeat (first | (with_reducible first | exact HB.out | apply below_alloc | apply pw_below_drewN | apply below_drew1 | refine below_set ?_ (IsS157.ge HI167.out) | refine below_set ?_ GE168.out) | exact HB.out)⟩⟩
 case round =>
  clear H'
  try clear p2
  try clear c4
  try clear c6
  try clear p6
  try clear hcz7_0
  try clear hfz7_0
  obtain ⟨x5_1,x14_1,x168000_1,x168001_1,x168002_1,rfl,HA,HK1,HO_5,BK168,HI167,HB⟩:=hrel
  cases gk with
  | zero => exact absurd HA.out (by simp [sigbin_Get.l0])
  | succ k1 =>
   have H:=HA.out
   clear HA
   simp only [sigbin_Get.l0] at H
   by_cases c9 : x14_1 < (wrap64 (t169))
   ·rw [if_pos c9] at H
    have c9b0 : decide (x14_1 < (wrap64 (t169))) = true:=decide_eq_true c9
    clear c9
    replace H:=Option.bind_eq_some_iff.mp H
    obtain ⟨⟨t173,t174,t177,t178,t179⟩,A100,H⟩:=H
    replace H : (if x5_1.length < 3518437208883 then (sigbin_Get.l0 k1 (x5_1 ++ [(⟨t173,t174⟩ : S106)]) (wrap64 (t169)) (wrap64 (x14_1 + 1)) t177 t178 t179 771177) else (none)) = some (r1,r2):=H
    have A10:=Aside0.mk A100
    clear A100
    by_cases c11 : x5_1.length < 3518437208883
    ·rw [if_pos c11] at H
     have LMc11:=Aside0.mk c11
     clear c11
     obtain ⟨y180,hy180⟩ : ∃ y_ : List (S106),y_ = (x5_1 ++ [(⟨t173,t174⟩ : S106)]):=⟨_,rfl⟩
     replace H : (sigbin_Get.l0 k1 y180 (wrap64 (t169)) (wrap64 (x14_1 + 1)) t177 t178 t179 771177) = some (r1,r2):=by first | (rw [hy180];with_reducible exact H) | (have H2_:=(Option.bind_some _ _).symm.trans H;rw [hy180];with_reducible exact H2_) | (have H2_:=(Option.bind_some _ _).symm.trans H;with_reducible exact H2_) | with_reducible exact H | (rw [hy180];exact H) | exact H
     have Ny180:=Aside0.mk hy180
     clear hy180
     have H':=Aside0.mk H
     clear H
     have hnb12:=NB168_167.out
     have hnc12:=NB167_168.out
     have hcz13_0 : wr.cell? ⟨gb168,0,none⟩ = some (.pointer (some ⟨g167,0,none⟩)):=(blk_cell BK168.out 0).trans rfl
     have hfz13_0:=blk_frozen BK168.out 0
     go_wp2_with (first | ((with_reducible refine gate_callee (f:=70) rfl ?_);refine goesL_ (some 18) rfl rfl Try.func70 (by kernel_rfl) rfl #[.agg #[.pointer (some ⟨g167,0,none⟩)]] rfl (by (try simp only [List.map_toArray,List.map_cons,List.map_nil]);first | done | rfl | (simp only [List.length_drop,List.length_take];rfl)) ?_;(with_reducible refine (sigbin_reader_pred.calls k1 g167 x168000_1 x168001_1 x168002_1 771177 t173 t174 t177 t178 t179 w _ ?side1 ?side2 A10.out).mono ?_);(case side1 => repeat (first | (with_reducible first | exact HI167.out | apply IsS157.alloc | apply IsS157.drewN | apply IsS157.drew | apply IsS157.set_0 | apply IsS157.set_1 | apply IsS157.set_2 | refine IsS157.far ?_ NB167_168.out _) | exact HI167.out));(case side2 => repeat (first | (with_reducible first | exact HB.out | apply below_alloc | apply pw_below_drewN | apply below_drew1 | refine below_set ?_ (IsS157.ge HI167.out) | refine below_set ?_ GE168.out) | exact HB.out));rintro e w14 ⟨v175,rfl,ho0,hi,hb,hk⟩;refine ⟨_,rfl,?_⟩;have n0_:=Aside0.mk (Kd.S_mono (Kd.S_told (Kd.S_oldK (IsS157.apartS (show IsS157 w _ g167 x168000_1 x168001_1 x168002_1 from by repeat (first | (with_reducible first | exact HI167.out | apply IsS157.alloc | apply IsS157.drewN | apply IsS157.drew | apply IsS157.set_0 | apply IsS157.set_1 | apply IsS157.set_2 | refine IsS157.far ?_ NB167_168.out _) | exact HI167.out)) (by (with_reducible repeat (first | apply Kd.S_alloc | apply Kd.S_drewN | apply Kd.S_drew));exact HO_5.out) (by decide)) hk) (Kd.R_base ho0)) (fun _ h_ => h_.1));have n1_:=Aside0.mk (KeepBut.blk hk (g':=gb168) (o:=.cells #[.pointer (some ⟨g167,0,none⟩)] 123 (0,0)) (by (with_reducible repeat (first | refine blk_drewN ?_ _ | refine blk_drew ?_ | refine blk_alloc ?_ _));exact BK168.out) NB168_167.out (by simp));have n2_:=Aside0.mk (Kd.R_lower ho0 (below_size (by repeat (first | (with_reducible first | exact HB.out | apply below_alloc | apply pw_below_drewN | apply below_drew1 | refine below_set ?_ (IsS157.ge HI167.out) | refine below_set ?_ GE168.out) | exact HB.out))));have n3_:=Aside0.mk (hb);have n4_:=Aside0.mk (hi);clear HO_5;clear BK168;clear HB;clear HI167;have HO_5:=n0_;have BK168:=n1_;have HO176:=n2_;have HB:=n3_;have HI167:=n4_;clear n0_ n1_ n2_ n3_ n4_;(try clear hb);(try clear hb2);(try clear hk);(try clear hi);(try clear ho0);obtain ⟨Ao16,co16,eo16⟩:=Kd.R_slice HO176.out;subst eo16) | ((with_reducible refine gate_builtin (b:=.append) (xs:=#[.tmp 16,.tmp 19]) rfl ?_);at_builtin;refine Kd.S_append k106 (w0:=w) w.heap.size rfl (.tmp 16) (.tmp 19) 48 106 (.agg #[(.string ⟨#[]⟩),(.slice none 0 0)]) 40 rfl Try.underlying48 info106 rfl (by decide) (by omega) u5 x5_1 (⟨t173,t174⟩ : S106) [.string t173,.slice Ao16 t174.length co16] (fun _ => True) (fun k_ => some k_ = (.slice Ao16 t174.length co16 : Value).ownBlock) rfl rfl ?aP (fun k_ hk_ => ((Kd.R_mono (ok':=fun k_ => ((fun _ => True)) k_ ∧ some k_ ≠ (u5 : Value).ownBlock) (Kd.R_apart' (HO176.out) (Kd.S_typed HO_5.out) (by decide)) (fun k_ hk => ⟨trivial,hk.2⟩))).1 k_ hk_.symm) ?aF ?aO ?aB ?aS ?aL ?_;(case aP => exact k106_mkM _ _ _ (⟨t173,t174⟩ : S106) (Kd.R_mono (Kd.R_tight rfl (Kd.R_mono (ok':=fun k_ => ((fun _ => True)) k_ ∧ some k_ ≠ (u5 : Value).ownBlock) (Kd.R_apart' (HO176.out) (Kd.S_typed HO_5.out) (by decide)) (fun k_ hk => ⟨trivial,hk.2⟩))) (fun _ h_ => h_)));(case aB => exact (by repeat (first | (with_reducible first | exact HB.out | apply below_alloc | apply pw_below_drewN | apply below_drew1 | refine below_set ?_ (IsS157.ge HI167.out) | refine below_set ?_ GE168.out) | exact HB.out)));(case aF => exact (fun _ _ => trivial));(case aO => exact (by (with_reducible repeat (first | apply Kd.S_alloc | apply Kd.S_drewN | apply Kd.S_drew));exact Kd.S_mono HO_5.out (fun k_ hk => ⟨trivial,fun e_ => hk.2 e_⟩)));(case aS => exact (below_size (by repeat (first | (with_reducible first | exact HB.out | apply below_alloc | apply pw_below_drewN | apply below_drew1 | refine below_set ?_ (IsS157.ge HI167.out) | refine below_set ?_ GE168.out) | exact HB.out))));(case aL => have:=LMc11.out;omega);intro v181 w15 ho hb hg hat;rw [← Ny180.out] at ho;have n0_:=Aside0.mk (blk_grown (g:=gb168) (o:=.cells #[.pointer (some ⟨g167,0,none⟩)] 123 (0,0)) (by (with_reducible repeat (first | refine blk_drewN ?_ _ | refine blk_drew ?_ | refine blk_alloc ?_ _));exact BK168.out) hg (Kd.S_ne HO_5.out BK168.out (by decide)));have n1_:=Aside0.mk (IsS157.grown (by repeat (first | (with_reducible first | exact HI167.out | apply IsS157.alloc | apply IsS157.drewN | apply IsS157.drew | apply IsS157.set_0 | apply IsS157.set_1 | apply IsS157.set_2 | refine IsS157.far ?_ NB167_168.out _) | exact HI167.out)) hg (IsS157.own_neS HI167.out HO_5.out (by decide)));have n2_:=Aside0.mk (hb);have n3_:=Aside0.mk (ho);clear BK168;clear HI167;clear HB;clear HO_5;clear HO176;have BK168:=n0_;have HI167:=n1_;have HB:=n2_;have HO182:=n3_;clear n0_ n1_ n2_ n3_;clear ho hb hg hat))
     go_roundg k1
     case measure => have:=HK1.out;omega
     case rel => exact ⟨(y180),(wrap64 (x14_1 + 1)),(t177),(t178),(t179),(by first | rfl | (simp;done) | (simp [*];done)),H',⟨by have:=HK1.out;omega⟩,⟨by (with_reducible repeat (first | apply Kd.S_alloc | apply Kd.S_drewN | apply Kd.S_drew));exact HO182.out⟩,⟨by (with_reducible repeat (first | refine blk_drewN ?_ _ | refine blk_drew ?_ | refine blk_alloc ?_ _));exact BK168.out⟩,⟨by repeat (first | (with_reducible first | exact HI167.out | apply IsS157.alloc | apply IsS157.drewN | apply IsS157.drew | apply IsS157.set_0 | apply IsS157.set_1 | apply IsS157.set_2 | refine IsS157.far ?_ NB167_168.out _) | exact HI167.out)⟩,⟨by repeat (first | (with_reducible first | exact HB.out | apply below_alloc | apply pw_below_drewN | apply below_drew1 | refine below_set ?_ (IsS157.ge HI167.out) | refine below_set ?_ GE168.out) | exact HB.out)⟩⟩
    ·rw [if_neg c11] at H
     exact absurd H (by simp)
   ·rw [if_neg c9] at H
    have c9b0 : decide (x14_1 < (wrap64 (t169))) = false:=decide_eq_false c9
    clear c9
    replace H:=Option.bind_eq_some_iff.mp H
    obtain ⟨⟨t183,t184,t185,t186⟩,A170,H⟩:=H
    replace H : (if t183 = true then ((sig_Check.f k1 x5_1).bind fun t187 => (if t187 = 0 then (some (x5_1,0)) else (some (([] : List (S106)),t187)))) else ((cursor_Cursor_Err.f t184 t185 t186).bind fun bt188 => (some (([] : List (S106)),bt188.1)))) = some (r1,r2):=H
    have A17:=Aside0.mk A170
    clear A170
    by_cases c18 : t183 = true
    ·subst c18
     have H1 : ((sig_Check.f k1 x5_1).bind fun t187 => (if t187 = 0 then (some (x5_1,0)) else (some (([] : List (S106)),t187)))) = some (r1,r2):=by rw [if_pos rfl] at H;exact H
     clear H
     have H:=H1
     clear H1
     replace H:=Option.bind_eq_some_iff.mp H
     obtain ⟨t187,A190,H⟩:=H
     replace H : (if t187 = 0 then (some (x5_1,0)) else (some (([] : List (S106)),t187))) = some (r1,r2):=H
     have A19:=Aside0.mk A190
     clear A190
     by_cases c20 : t187 = 0
     ·rw [if_pos c20] at H
      have c20b0 : (t187 == 0) = true:=beq_iff_eq.mpr c20
      have c20b1 : (t187 != 0) = false:=bne_eq_false_iff_eq.mpr c20
      clear c20
      simp only [Option.some.injEq,Prod.mk.injEq] at H
      obtain ⟨rfl,rfl⟩:=H
      have hnb21:=NB168_167.out
      have hnc21:=NB167_168.out
      have hcz22_0 : wr.cell? ⟨gb168,0,none⟩ = some (.pointer (some ⟨g167,0,none⟩)):=(blk_cell BK168.out 0).trans rfl
      have hfz22_0:=blk_frozen BK168.out 0
      go_wp2_with (first | ((with_reducible refine gate_callee (f:=71) rfl ?_);refine goesL_ (some 24) rfl rfl Try.func71 (by kernel_rfl) rfl #[.pointer (some ⟨g167,0,none⟩)] rfl (by (try simp only [List.map_toArray,List.map_cons,List.map_nil]);first | done | rfl | (simp only [List.length_drop,List.length_take];rfl)) ?_;(with_reducible refine (cursor_Cursor_Done.calls g167 x168000_1 x168001_1 x168002_1 true t184 t185 t186 w _ ?side1 ?side2 A17.out).mono ?_);(case side1 => repeat (first | (with_reducible first | exact HI167.out | apply IsS157.alloc | apply IsS157.drewN | apply IsS157.drew | apply IsS157.set_0 | apply IsS157.set_1 | apply IsS157.set_2 | refine IsS157.far ?_ NB167_168.out _) | exact HI167.out));(case side2 => repeat (first | (with_reducible first | exact HB.out | apply below_alloc | apply pw_below_drewN | apply below_drew1 | refine below_set ?_ (IsS157.ge HI167.out) | refine below_set ?_ GE168.out) | exact HB.out));rintro e w23 ⟨rfl,hi,hb,hk⟩;refine ⟨_,rfl,?_⟩;have n0_:=Aside0.mk (Kd.S_mono (Kd.S_keep (IsS157.apartS (show IsS157 w _ g167 x168000_1 x168001_1 x168002_1 from by repeat (first | (with_reducible first | exact HI167.out | apply IsS157.alloc | apply IsS157.drewN | apply IsS157.drew | apply IsS157.set_0 | apply IsS157.set_1 | apply IsS157.set_2 | refine IsS157.far ?_ NB167_168.out _) | exact HI167.out)) (by (with_reducible repeat (first | apply Kd.S_alloc | apply Kd.S_drewN | apply Kd.S_drew));exact HO_5.out) (by decide)) hk (fun _ h => h.2)) (fun _ h => h.1));have n1_:=Aside0.mk (KeepBut.blk hk (g':=gb168) (o:=.cells #[.pointer (some ⟨g167,0,none⟩)] 123 (0,0)) (by (with_reducible repeat (first | refine blk_drewN ?_ _ | refine blk_drew ?_ | refine blk_alloc ?_ _));exact BK168.out) NB168_167.out (by simp));have n2_:=Aside0.mk (hb);have n3_:=Aside0.mk (hi);clear HO_5;clear BK168;clear HB;clear HI167;have HO_5:=n0_;have BK168:=n1_;have HB:=n2_;have HI167:=n3_;clear n0_ n1_ n2_ n3_;(try clear hb);(try clear hb2);(try clear hk);(try clear hi);obtain ⟨Ao24,co24,eo24⟩:=Kd.S_slice HO_5.out;subst eo24) | ((with_reducible refine gate_callee (f:=56) rfl ?_);refine goesL_ (some 30) rfl rfl Try.func56 (by kernel_rfl) rfl #[.slice Ao24 x5_1.length co24] rfl (by (try simp only [List.map_toArray,List.map_cons,List.map_nil]);first | done | rfl | (simp only [List.length_drop,List.length_take];rfl)) ?_;(with_reducible refine (sig_Check.calls k1 _ _ x5_1 t187 _ ?side1 ?side2 A19.out).mono ?_);(case side1 => repeat (first | exact (Kd.S_reads' HO_5.out).2.2 | (with_reducible refine Kd.C_alloc ?_ _) | (with_reducible refine Kd.C_drewN ?_ _) | (with_reducible refine Kd.C_drew ?_)));(case side2 => exact (Kd.S_reads' HO_5.out).2.1);rintro e w25 ⟨rfl,hb⟩;refine ⟨_,rfl,?_⟩;have n0_:=Aside0.mk (Kd.S_below (by (with_reducible repeat (first | apply Kd.S_alloc | apply Kd.S_drewN | apply Kd.S_drew));exact HO_5.out) hb);have n1_:=Aside0.mk (blk_below (g:=gb168) (o:=.cells #[.pointer (some ⟨g167,0,none⟩)] 123 (0,0)) (by (with_reducible repeat (first | refine blk_drewN ?_ _ | refine blk_drew ?_ | refine blk_alloc ?_ _));exact BK168.out) hb);have n2_:=Aside0.mk (IsS157.below (by repeat (first | (with_reducible first | exact HI167.out | apply IsS157.alloc | apply IsS157.drewN | apply IsS157.drew | apply IsS157.set_0 | apply IsS157.set_1 | apply IsS157.set_2 | refine IsS157.far ?_ NB167_168.out _) | exact HI167.out)) hb);have n3_:=Aside0.mk (below_step (by repeat (first | (with_reducible first | exact HB.out | apply below_alloc | apply pw_below_drewN | apply below_drew1 | refine below_set ?_ (IsS157.ge HI167.out) | refine below_set ?_ GE168.out) | exact HB.out)) hb);clear HO_5;clear BK168;clear HI167;clear HB;have HO_5:=n0_;have BK168:=n1_;have HI167:=n2_;have HB:=n3_;clear n0_ n1_ n2_ n3_;(try clear hb);(try clear hb2);(try clear hk);(try clear hi)))
      go_ret2
      exact ⟨_,by first | rfl | (simp [errW_none,errW_some] <;> rfl) | (simp [*,errW_none,errW_some] <;> rfl),by (with_reducible repeat (first | apply Kd.S_alloc | apply Kd.S_drewN | apply Kd.S_drew));exact HO_5.out,by repeat (first | (with_reducible first | exact HB.out | apply below_alloc | apply pw_below_drewN | apply below_drew1 | refine below_set ?_ (IsS157.ge HI167.out) | refine below_set ?_ GE168.out) | exact HB.out)⟩
     ·rw [if_neg c20] at H
      have c20b0 : (t187 == 0) = false:=beq_eq_false_iff_ne.mpr c20
      have c20b1 : (t187 != 0) = true:=bne_iff_ne.mpr c20
      simp only [Option.some.injEq,Prod.mk.injEq] at H
      obtain ⟨rfl,rfl⟩:=H
      have hnb26:=NB168_167.out
      have hnc26:=NB167_168.out
      have hcz27_0 : wr.cell? ⟨gb168,0,none⟩ = some (.pointer (some ⟨g167,0,none⟩)):=(blk_cell BK168.out 0).trans rfl
      have hfz27_0:=blk_frozen BK168.out 0
      go_wp2_with (first | ((with_reducible refine gate_callee (f:=71) rfl ?_);refine goesL_ (some 24) rfl rfl Try.func71 (by kernel_rfl) rfl #[.pointer (some ⟨g167,0,none⟩)] rfl (by (try simp only [List.map_toArray,List.map_cons,List.map_nil]);first | done | rfl | (simp only [List.length_drop,List.length_take];rfl)) ?_;(with_reducible refine (cursor_Cursor_Done.calls g167 x168000_1 x168001_1 x168002_1 true t184 t185 t186 w _ ?side1 ?side2 A17.out).mono ?_);(case side1 => repeat (first | (with_reducible first | exact HI167.out | apply IsS157.alloc | apply IsS157.drewN | apply IsS157.drew | apply IsS157.set_0 | apply IsS157.set_1 | apply IsS157.set_2 | refine IsS157.far ?_ NB167_168.out _) | exact HI167.out));(case side2 => repeat (first | (with_reducible first | exact HB.out | apply below_alloc | apply pw_below_drewN | apply below_drew1 | refine below_set ?_ (IsS157.ge HI167.out) | refine below_set ?_ GE168.out) | exact HB.out));rintro e w28 ⟨rfl,hi,hb,hk⟩;refine ⟨_,rfl,?_⟩;have n0_:=Aside0.mk (Kd.S_mono (Kd.S_keep (IsS157.apartS (show IsS157 w _ g167 x168000_1 x168001_1 x168002_1 from by repeat (first | (with_reducible first | exact HI167.out | apply IsS157.alloc | apply IsS157.drewN | apply IsS157.drew | apply IsS157.set_0 | apply IsS157.set_1 | apply IsS157.set_2 | refine IsS157.far ?_ NB167_168.out _) | exact HI167.out)) (by (with_reducible repeat (first | apply Kd.S_alloc | apply Kd.S_drewN | apply Kd.S_drew));exact HO_5.out) (by decide)) hk (fun _ h => h.2)) (fun _ h => h.1));have n1_:=Aside0.mk (KeepBut.blk hk (g':=gb168) (o:=.cells #[.pointer (some ⟨g167,0,none⟩)] 123 (0,0)) (by (with_reducible repeat (first | refine blk_drewN ?_ _ | refine blk_drew ?_ | refine blk_alloc ?_ _));exact BK168.out) NB168_167.out (by simp));have n2_:=Aside0.mk (hb);have n3_:=Aside0.mk (hi);clear HO_5;clear BK168;clear HB;clear HI167;have HO_5:=n0_;have BK168:=n1_;have HB:=n2_;have HI167:=n3_;clear n0_ n1_ n2_ n3_;(try clear hb);(try clear hb2);(try clear hk);(try clear hi);obtain ⟨Ao29,co29,eo29⟩:=Kd.S_slice HO_5.out;subst eo29) | ((with_reducible refine gate_callee (f:=56) rfl ?_);refine goesL_ (some 30) rfl rfl Try.func56 (by kernel_rfl) rfl #[.slice Ao29 x5_1.length co29] rfl (by (try simp only [List.map_toArray,List.map_cons,List.map_nil]);first | done | rfl | (simp only [List.length_drop,List.length_take];rfl)) ?_;(with_reducible refine (sig_Check.calls k1 _ _ x5_1 t187 _ ?side1 ?side2 A19.out).mono ?_);(case side1 => repeat (first | exact (Kd.S_reads' HO_5.out).2.2 | (with_reducible refine Kd.C_alloc ?_ _) | (with_reducible refine Kd.C_drewN ?_ _) | (with_reducible refine Kd.C_drew ?_)));(case side2 => exact (Kd.S_reads' HO_5.out).2.1);rintro e w30 ⟨rfl,hb⟩;refine ⟨_,rfl,?_⟩;have n0_:=Aside0.mk (Kd.S_below (by (with_reducible repeat (first | apply Kd.S_alloc | apply Kd.S_drewN | apply Kd.S_drew));exact HO_5.out) hb);have n1_:=Aside0.mk (blk_below (g:=gb168) (o:=.cells #[.pointer (some ⟨g167,0,none⟩)] 123 (0,0)) (by (with_reducible repeat (first | refine blk_drewN ?_ _ | refine blk_drew ?_ | refine blk_alloc ?_ _));exact BK168.out) hb);have n2_:=Aside0.mk (IsS157.below (by repeat (first | (with_reducible first | exact HI167.out | apply IsS157.alloc | apply IsS157.drewN | apply IsS157.drew | apply IsS157.set_0 | apply IsS157.set_1 | apply IsS157.set_2 | refine IsS157.far ?_ NB167_168.out _) | exact HI167.out)) hb);have n3_:=Aside0.mk (below_step (by repeat (first | (with_reducible first | exact HB.out | apply below_alloc | apply pw_below_drewN | apply below_drew1 | refine below_set ?_ (IsS157.ge HI167.out) | refine below_set ?_ GE168.out) | exact HB.out)) hb);clear HO_5;clear BK168;clear HI167;clear HB;have HO_5:=n0_;have BK168:=n1_;have HI167:=n2_;have HB:=n3_;clear n0_ n1_ n2_ n3_;(try clear hb);(try clear hb2);(try clear hk);(try clear hi)))
      go_ret2
      exact ⟨_,by first | rfl | (simp [errW_none,errW_some] <;> rfl) | (simp [*,errW_none,errW_some] <;> rfl),by first | exact Kd.S_nil _ _ _ _ _ | exact Kd.N_nil _ _ _ _ _ | exact Kd.V_nil _ _ _ _ _ | exact Kd.Q_nil _ _ _ _ _ | exact Kd.R_nil _ _ _ _ _,by repeat (first | (with_reducible first | exact HB.out | apply below_alloc | apply pw_below_drewN | apply below_drew1 | refine below_set ?_ (IsS157.ge HI167.out) | refine below_set ?_ GE168.out) | exact HB.out)⟩
    ·replace c18:=Bool.eq_false_iff.mpr c18
     subst c18
     have H1 : ((cursor_Cursor_Err.f t184 t185 t186).bind fun bt188 => (some (([] : List (S106)),bt188.1))) = some (r1,r2):=by rw [if_neg (show ¬ (false = true) by decide)] at H;exact H
     clear H
     have H:=H1
     clear H1
     replace H:=Option.bind_eq_some_iff.mp H
     obtain ⟨⟨t188,t189,t190,t191⟩,A310,H⟩:=H
     replace H : (some (([] : List (S106)),t188)) = some (r1,r2):=H
     have A31:=Aside0.mk A310
     clear A310
     simp only [Option.some.injEq,Prod.mk.injEq] at H
     obtain ⟨rfl,rfl⟩:=H
     have hnb32:=NB168_167.out
     have hnc32:=NB167_168.out
     have hcz33_0 : wr.cell? ⟨gb168,0,none⟩ = some (.pointer (some ⟨g167,0,none⟩)):=(blk_cell BK168.out 0).trans rfl
     have hfz33_0:=blk_frozen BK168.out 0
     go_wp2_with (first | ((with_reducible refine gate_callee (f:=71) rfl ?_);refine goesL_ (some 24) rfl rfl Try.func71 (by kernel_rfl) rfl #[.pointer (some ⟨g167,0,none⟩)] rfl (by (try simp only [List.map_toArray,List.map_cons,List.map_nil]);first | done | rfl | (simp only [List.length_drop,List.length_take];rfl)) ?_;(with_reducible refine (cursor_Cursor_Done.calls g167 x168000_1 x168001_1 x168002_1 false t184 t185 t186 w _ ?side1 ?side2 A17.out).mono ?_);(case side1 => repeat (first | (with_reducible first | exact HI167.out | apply IsS157.alloc | apply IsS157.drewN | apply IsS157.drew | apply IsS157.set_0 | apply IsS157.set_1 | apply IsS157.set_2 | refine IsS157.far ?_ NB167_168.out _) | exact HI167.out));(case side2 => repeat (first | (with_reducible first | exact HB.out | apply below_alloc | apply pw_below_drewN | apply below_drew1 | refine below_set ?_ (IsS157.ge HI167.out) | refine below_set ?_ GE168.out) | exact HB.out));rintro e w34 ⟨rfl,hi,hb,hk⟩;refine ⟨_,rfl,?_⟩;have n0_:=Aside0.mk (Kd.S_mono (Kd.S_keep (IsS157.apartS (show IsS157 w _ g167 x168000_1 x168001_1 x168002_1 from by repeat (first | (with_reducible first | exact HI167.out | apply IsS157.alloc | apply IsS157.drewN | apply IsS157.drew | apply IsS157.set_0 | apply IsS157.set_1 | apply IsS157.set_2 | refine IsS157.far ?_ NB167_168.out _) | exact HI167.out)) (by (with_reducible repeat (first | apply Kd.S_alloc | apply Kd.S_drewN | apply Kd.S_drew));exact HO_5.out) (by decide)) hk (fun _ h => h.2)) (fun _ h => h.1));have n1_:=Aside0.mk (KeepBut.blk hk (g':=gb168) (o:=.cells #[.pointer (some ⟨g167,0,none⟩)] 123 (0,0)) (by (with_reducible repeat (first | refine blk_drewN ?_ _ | refine blk_drew ?_ | refine blk_alloc ?_ _));exact BK168.out) NB168_167.out (by simp));have n2_:=Aside0.mk (hb);have n3_:=Aside0.mk (hi);clear HO_5;clear BK168;clear HB;clear HI167;have HO_5:=n0_;have BK168:=n1_;have HB:=n2_;have HI167:=n3_;clear n0_ n1_ n2_ n3_;(try clear hb);(try clear hb2);(try clear hk);(try clear hi);have hcz35_0 : w34.cell? ⟨gb168,0,none⟩ = some (.pointer (some ⟨g167,0,none⟩)):=(blk_cell BK168.out 0).trans rfl;have hfz35_0:=blk_frozen BK168.out 0) | ((with_reducible refine gate_callee (f:=72) rfl ?_);refine goesL_ (some 28) rfl rfl Try.func72 (by kernel_rfl) rfl #[.pointer (some ⟨g167,0,none⟩)] rfl (by (try simp only [List.map_toArray,List.map_cons,List.map_nil]);first | done | rfl | (simp only [List.length_drop,List.length_take];rfl)) ?_;(with_reducible refine (cursor_Cursor_Err.calls g167 t184 t185 t186 t188 t189 t190 t191 w _ ?side1 ?side2 A31.out).mono ?_);(case side1 => repeat (first | (with_reducible first | exact HI167.out | apply IsS157.alloc | apply IsS157.drewN | apply IsS157.drew | apply IsS157.set_0 | apply IsS157.set_1 | apply IsS157.set_2 | refine IsS157.far ?_ NB167_168.out _) | exact HI167.out));(case side2 => repeat (first | (with_reducible first | exact HB.out | apply below_alloc | apply pw_below_drewN | apply below_drew1 | refine below_set ?_ (IsS157.ge HI167.out) | refine below_set ?_ GE168.out) | exact HB.out));rintro e w36 ⟨rfl,hi,hb,hk⟩;refine ⟨_,rfl,?_⟩;have n0_:=Aside0.mk (Kd.S_mono (Kd.S_keep (IsS157.apartS (show IsS157 w _ g167 t184 t185 t186 from by repeat (first | (with_reducible first | exact HI167.out | apply IsS157.alloc | apply IsS157.drewN | apply IsS157.drew | apply IsS157.set_0 | apply IsS157.set_1 | apply IsS157.set_2 | refine IsS157.far ?_ NB167_168.out _) | exact HI167.out)) (by (with_reducible repeat (first | apply Kd.S_alloc | apply Kd.S_drewN | apply Kd.S_drew));exact HO_5.out) (by decide)) hk (fun _ h => h.2)) (fun _ h => h.1));have n1_:=Aside0.mk (KeepBut.blk hk (g':=gb168) (o:=.cells #[.pointer (some ⟨g167,0,none⟩)] 123 (0,0)) (by (with_reducible repeat (first | refine blk_drewN ?_ _ | refine blk_drew ?_ | refine blk_alloc ?_ _));exact BK168.out) NB168_167.out (by simp));have n2_:=Aside0.mk (hb);have n3_:=Aside0.mk (hi);clear HO_5;clear BK168;clear HB;clear HI167;have HO_5:=n0_;have BK168:=n1_;have HB:=n2_;have HI167:=n3_;clear n0_ n1_ n2_ n3_;(try clear hb);(try clear hb2);(try clear hk);(try clear hi)))
     go_ret2
     exact ⟨_,by first | rfl | (simp [errW_none,errW_some] <;> rfl) | (simp [*,errW_none,errW_some] <;> rfl),by first | exact Kd.S_nil _ _ _ _ _ | exact Kd.N_nil _ _ _ _ _ | exact Kd.V_nil _ _ _ _ _ | exact Kd.Q_nil _ _ _ _ _ | exact Kd.R_nil _ _ _ _ _,by repeat (first | (with_reducible first | exact HB.out | apply below_alloc | apply pw_below_drewN | apply below_drew1 | refine below_set ?_ (IsS157.ge HI167.out) | refine below_set ?_ GE168.out) | exact HB.out)⟩

end Go.Proofs.Ytjfklfmfeghjnab.PG
