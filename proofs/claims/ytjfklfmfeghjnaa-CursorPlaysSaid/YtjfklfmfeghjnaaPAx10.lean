-- Contracts of Go functions, each with its plain Lean function: written by wip/tools/myprint.py of this work (the kit's print, with contracts proved by hand spliced in).
import Derived.Test.YtjfklfmfeghjnaaPAx0
import Derived.Test.YtjfklfmfeghjnaaPAx5
import Derived.Test.YtjfklfmfeghjnaaPAx8
import Derived.Test.YtjfklfmfeghjnaaPAx9
namespace Go.Proofs.Ytjfklfmfeghjnaa.PA
open Go.RowKit Go.Proofs.YtjfklfmfeghjnaaW.PrintWords Go.Proofs.YtjfklfmfeghjnaaW.PrintLast Go.Proofs.YtjfklfmfeghjnaaW.PrintMore
attribute [local go_sem] max2_int min2_int max_two min_two max_three min_three max_four min_four   -- for this text's walks alone
set_option linter.unusedVariables false
set_option linter.unusedSimpArgs false

/-! ### tachographlaw03_fixed: function 33 -/
def tachographlaw03_fixed.f (k : Nat)  : Option (Bool) := (cursor_New.f (([5, 1, 97] : List Int))).bind fun bt209 => ((cursor_Cursor_Byte.f bt209.1 bt209.2.1 bt209.2.2).bind fun bt213 => (if bt213.1 = 5 then ((cursor_Cursor_Text.f k bt213.2.1 bt213.2.2.1 bt213.2.2.2 3).bind fun bt217 => (if bt217.1.toList = ([97] : List UInt8) then ((cursor_Cursor_Done.f bt217.2.1 bt217.2.2.1 bt217.2.2.2).bind fun bt221 => (some bt221.1)) else (some false))) else (some false)))
theorem tachographlaw03_fixed.mono : ∀ k, LeO (tachographlaw03_fixed.f k ) (tachographlaw03_fixed.f (k + 1) ) := by
 intro  k
 unfold tachographlaw03_fixed.f
 repeat' first
   | (with_reducible exact cursor_Cursor_Text.mono _ _ _ _ _)
   | (with_reducible exact LeO.refl _)
   | (with_reducible exact LeO.none _)
   | (with_reducible refine LeO.ite ?_ ?_)
   | (with_reducible refine LeO.bind ?_ (fun _ => ?_))
   | exact cursor_Cursor_Text.mono _ _ _ _ _
   | exact LeO.none _
   | refine LeO.ite ?_ ?_
   | refine LeO.bind ?_ (fun _ => ?_)
set_option maxHeartbeats 8000000 in
set_option maxRecDepth 100000 in
theorem tachographlaw03_fixed.calls (k : Nat)  (r : Bool) (w : World) (h : tachographlaw03_fixed.f k  = some r) :
  Calls Try.prog 33 #[] w fun e w' => e = .returned (.bool r) ∧ Below w.heap.size w w':=by
 have HB:=Aside0.mk (Below.refl w.heap.size w)
 have H : ((cursor_New.f (([5,1,97] : List Int))).bind fun bt209 => ((cursor_Cursor_Byte.f bt209.1 bt209.2.1 bt209.2.2).bind fun bt213 => (if bt213.1 = 5 then ((cursor_Cursor_Text.f k bt213.2.1 bt213.2.2.1 bt213.2.2.2 3).bind fun bt217 => (if bt217.1.toList = ([97] : List UInt8) then ((cursor_Cursor_Done.f bt217.2.1 bt217.2.2.1 bt217.2.2.2).bind fun bt221 => (some bt221.1)) else (some false))) else (some false)))) = some r:=h
 clear h
 obtain ⟨y206,hy206⟩ : ∃ y_ : List Int,y_ = (([5,1,97] : List Int)):=⟨_,rfl⟩
 replace H : ((cursor_New.f y206).bind fun bt209 => ((cursor_Cursor_Byte.f bt209.1 bt209.2.1 bt209.2.2).bind fun bt213 => (if bt213.1 = 5 then ((cursor_Cursor_Text.f k bt213.2.1 bt213.2.2.1 bt213.2.2.2 3).bind fun bt217 => (if bt217.1.toList = ([97] : List UInt8) then ((cursor_Cursor_Done.f bt217.2.1 bt217.2.2.1 bt217.2.2.2).bind fun bt221 => (some bt221.1)) else (some false))) else (some false)))) = some r:=by first | (rw [hy206];with_reducible exact H) | (have H2_:=(Option.bind_some _ _).symm.trans H;rw [hy206];with_reducible exact H2_) | (have H2_:=(Option.bind_some _ _).symm.trans H;with_reducible exact H2_) | with_reducible exact H | (rw [hy206];exact H) | exact H
 have Ny206:=Aside0.mk hy206
 clear hy206
 replace H:=Option.bind_eq_some_iff.mp H
 obtain ⟨⟨t209,t210,t211⟩,A10,H⟩:=H
 replace H : ((cursor_Cursor_Byte.f t209 t210 t211).bind fun bt213 => (if bt213.1 = 5 then ((cursor_Cursor_Text.f k bt213.2.1 bt213.2.2.1 bt213.2.2.2 3).bind fun bt217 => (if bt217.1.toList = ([97] : List UInt8) then ((cursor_Cursor_Done.f bt217.2.1 bt217.2.2.1 bt217.2.2.2).bind fun bt221 => (some bt221.1)) else (some false))) else (some false))) = some r:=H
 have A1:=Aside0.mk A10
 clear A10
 replace H:=Option.bind_eq_some_iff.mp H
 obtain ⟨⟨t213,t214,t215,t216⟩,A20,H⟩:=H
 replace H : (if t213 = 5 then ((cursor_Cursor_Text.f k t214 t215 t216 3).bind fun bt217 => (if bt217.1.toList = ([97] : List UInt8) then ((cursor_Cursor_Done.f bt217.2.1 bt217.2.2.1 bt217.2.2.2).bind fun bt221 => (some bt221.1)) else (some false))) else (some false)) = some r:=H
 have A2:=Aside0.mk A20
 clear A20
 by_cases c3 : t213 = 5
 ·rw [if_pos c3] at H
  have c3b0 : (t213 == 5) = true:=beq_iff_eq.mpr c3
  have c3b1 : (t213 != 5) = false:=bne_eq_false_iff_eq.mpr c3
  clear c3
  replace H:=Option.bind_eq_some_iff.mp H
  obtain ⟨⟨t217,t218,t219,t220⟩,A40,H⟩:=H
  replace H : (if t217.toList = ([97] : List UInt8) then ((cursor_Cursor_Done.f t218 t219 t220).bind fun bt221 => (some bt221.1)) else (some false)) = some r:=H
  have A4:=Aside0.mk A40
  clear A40
  by_cases c5 : t217.toList = ([97] : List UInt8)
  ·rw [if_pos c5] at H
   have c5b0 : (t217.toList == ([97] : List UInt8)) = true:=beq_iff_eq.mpr c5
   have c5b1 : (t217.toList != ([97] : List UInt8)) = false:=bne_eq_false_iff_eq.mpr c5
   clear c5
   replace H:=Option.bind_eq_some_iff.mp H
   obtain ⟨⟨t221,t222,t223,t224⟩,A60,H⟩:=H
   replace H : (some t221) = some r:=H
   have A6:=Aside0.mk A60
   clear A60
   obtain rfl:=Option.some.inj H
   go_enter Try.func33,Try.ntmps33
   go_wp2_with (first | ((with_reducible refine gate_dst (N:=2) rfl ?_);refine Kd.R_lit (Kd.int .u8) _ 5 ?hg (N:=2) ?hd (xs:=([5,1,97] : List Int)) (inner:=[.int .u8 5,.int .u8 1,.int .u8 97]) (ok:=fun _ => True) (okp:=fun _ => True) ?hr ?hp (fun _ hk => hk) trivial (Below.refl _ _) (Nat.le_refl _) (by simp) ?_;(case hd => rfl);(case hg => rfl);(case hr => first | (go_simp;done) | (go_simp;rfl));(case hp => exact (Reps.one (show Kd.M (Kd.int .u8) _ _ _ 5 [.int .u8 5] from rfl) (Reps.one (show Kd.M (Kd.int .u8) _ _ _ 1 [.int .u8 1] from rfl) (Reps.one (show Kd.M (Kd.int .u8) _ _ _ 97 [.int .u8 97] from rfl) (Reps.none _ _)))));intro v207 w7 ho8 hb hg_ hnew_;clear hg_ hnew_;(first | rw [← Ny206.out] at ho8 | (simp only [Int.reduceToNat] at ho8;rw [← Ny206.out] at ho8));have n0_:=Aside0.mk (Kd.R_lower ho8 (below_size (by repeat (first | (with_reducible first | exact HB.out | apply below_alloc | apply pw_below_drewN | apply below_drew1) | exact HB.out))));have n1_:=Aside0.mk (below_step (by repeat (first | (with_reducible first | exact HB.out | apply below_alloc | apply pw_below_drewN | apply below_drew1) | exact HB.out)) hb);clear HB;have HO208:=n0_;have HB:=n1_;clear n0_ n1_;clear hb ho8;obtain ⟨Ao9,co9,eo9⟩:=Kd.R_slice HO208.out;subst eo9) | ((with_reducible refine gate_callee (f:=34) rfl ?_);refine goesL_ (some 3) rfl rfl Try.func34 (by kernel_rfl) rfl #[.slice Ao9 y206.length co9] rfl (by (try simp only [List.map_toArray,List.map_cons,List.map_nil]);first | done | rfl | (simp only [List.length_drop,List.length_take];rfl)) ?_;(with_reducible refine (cursor_New.calls _ _ y206 t209 t210 t211 w _ ?side1 ?side2 ?side3 A1.out).mono ?_);(case side1 => repeat (first | (with_reducible first | exact HB.out | apply below_alloc | apply pw_below_drewN | apply below_drew1) | exact HB.out));(case side2 => repeat (first | exact (Kd.R_reads' HO208.out).2.2 | (with_reducible refine Kd.C_alloc ?_ _) | (with_reducible refine Kd.C_drewN ?_ _) | (with_reducible refine Kd.C_drew ?_)));(case side3 => exact (Kd.R_reads' HO208.out).2.1);rintro e w10 ⟨g212,rfl,hi,hb,hb2⟩;refine ⟨_,rfl,?_⟩;have n0_:=Aside0.mk (Kd.R_below (by (with_reducible repeat (first | apply Kd.R_alloc | apply Kd.R_drewN | apply Kd.R_drew));exact HO208.out) hb2);have n1_:=Aside0.mk (hb);have n2_:=Aside0.mk (hi);clear HO208;clear HB;have HO208:=n0_;have HB:=n1_;have HI212:=n2_;clear n0_ n1_ n2_;(try clear hb);(try clear hb2);(try clear hk);(try clear hi)) | (go_at_call 36;(with_reducible refine (cursor_Cursor_Byte.calls g212 t209 t210 t211 t213 t214 t215 t216 w _ ?side1 ?side2 A2.out).mono ?_);(case side1 => repeat (first | (with_reducible first | exact HI212.out | apply IsS102.alloc | apply IsS102.drewN | apply IsS102.drew | apply IsS102.set_0 | apply IsS102.set_1 | apply IsS102.set_2) | exact HI212.out));(case side2 => repeat (first | (with_reducible first | exact HB.out | apply below_alloc | apply pw_below_drewN | apply below_drew1 | refine below_set ?_ (IsS102.ge HI212.out)) | exact HB.out));rintro e w11 ⟨rfl,hi,hb,hk⟩;have n0_:=Aside0.mk (Kd.R_mono (Kd.R_keep (IsS102.apart (show IsS102 w _ g212 t209 t210 t211 from by repeat (first | (with_reducible first | exact HI212.out | apply IsS102.alloc | apply IsS102.drewN | apply IsS102.drew | apply IsS102.set_0 | apply IsS102.set_1 | apply IsS102.set_2) | exact HI212.out)) (by (with_reducible repeat (first | apply Kd.R_alloc | apply Kd.R_drewN | apply Kd.R_drew));exact HO208.out) (by decide)) hk (fun _ h => h.2)) (fun _ h => h.1));have n1_:=Aside0.mk (hb);have n2_:=Aside0.mk (hi);clear HO208;clear HB;clear HI212;have HO208:=n0_;have HB:=n1_;have HI212:=n2_;clear n0_ n1_ n2_;(try clear hb);(try clear hb2);(try clear hk);(try clear hi)) | (go_at_call 42;(with_reducible refine (cursor_Cursor_Text.calls k g212 t214 t215 t216 3 t217 t218 t219 t220 w _ ?side1 ?side2 A4.out).mono ?_);(case side1 => repeat (first | (with_reducible first | exact HI212.out | apply IsS102.alloc | apply IsS102.drewN | apply IsS102.drew | apply IsS102.set_0 | apply IsS102.set_1 | apply IsS102.set_2) | exact HI212.out));(case side2 => repeat (first | (with_reducible first | exact HB.out | apply below_alloc | apply pw_below_drewN | apply below_drew1 | refine below_set ?_ (IsS102.ge HI212.out)) | exact HB.out));rintro e w12 ⟨rfl,hi,hb,hk⟩;have n0_:=Aside0.mk (Kd.R_mono (Kd.R_keep (IsS102.apart (show IsS102 w _ g212 t214 t215 t216 from by repeat (first | (with_reducible first | exact HI212.out | apply IsS102.alloc | apply IsS102.drewN | apply IsS102.drew | apply IsS102.set_0 | apply IsS102.set_1 | apply IsS102.set_2) | exact HI212.out)) (by (with_reducible repeat (first | apply Kd.R_alloc | apply Kd.R_drewN | apply Kd.R_drew));exact HO208.out) (by decide)) hk (fun _ h => h.2)) (fun _ h => h.1));have n1_:=Aside0.mk (hb);have n2_:=Aside0.mk (hi);clear HO208;clear HB;clear HI212;have HO208:=n0_;have HB:=n1_;have HI212:=n2_;clear n0_ n1_ n2_;(try clear hb);(try clear hb2);(try clear hk);(try clear hi)) | (go_at_call 44;(with_reducible refine (cursor_Cursor_Done.calls g212 t218 t219 t220 t221 t222 t223 t224 w _ ?side1 ?side2 A6.out).mono ?_);(case side1 => repeat (first | (with_reducible first | exact HI212.out | apply IsS102.alloc | apply IsS102.drewN | apply IsS102.drew | apply IsS102.set_0 | apply IsS102.set_1 | apply IsS102.set_2) | exact HI212.out));(case side2 => repeat (first | (with_reducible first | exact HB.out | apply below_alloc | apply pw_below_drewN | apply below_drew1 | refine below_set ?_ (IsS102.ge HI212.out)) | exact HB.out));rintro e w13 ⟨rfl,hi,hb,hk⟩;have n0_:=Aside0.mk (Kd.R_mono (Kd.R_keep (IsS102.apart (show IsS102 w _ g212 t218 t219 t220 from by repeat (first | (with_reducible first | exact HI212.out | apply IsS102.alloc | apply IsS102.drewN | apply IsS102.drew | apply IsS102.set_0 | apply IsS102.set_1 | apply IsS102.set_2) | exact HI212.out)) (by (with_reducible repeat (first | apply Kd.R_alloc | apply Kd.R_drewN | apply Kd.R_drew));exact HO208.out) (by decide)) hk (fun _ h => h.2)) (fun _ h => h.1));have n1_:=Aside0.mk (hb);have n2_:=Aside0.mk (hi);clear HO208;clear HB;clear HI212;have HO208:=n0_;have HB:=n1_;have HI212:=n2_;clear n0_ n1_ n2_;(try clear hb);(try clear hb2);(try clear hk);(try clear hi)))
   go_ret
   exact ⟨by first | rfl | (simp [errW_none,errW_some] <;> rfl) | (simp [*,errW_none,errW_some] <;> rfl),by repeat (first | (with_reducible first | exact HB.out | apply below_alloc | apply pw_below_drewN | apply below_drew1 | refine below_set ?_ (IsS102.ge HI212.out)) | exact HB.out)⟩
  ·rw [if_neg c5] at H
   have c5b0 : (t217.toList == ([97] : List UInt8)) = false:=beq_eq_false_iff_ne.mpr c5
   have c5b1 : (t217.toList != ([97] : List UInt8)) = true:=bne_iff_ne.mpr c5
   obtain rfl:=Option.some.inj H
   go_enter Try.func33,Try.ntmps33
   go_wp2_with (first | ((with_reducible refine gate_dst (N:=2) rfl ?_);refine Kd.R_lit (Kd.int .u8) _ 5 ?hg (N:=2) ?hd (xs:=([5,1,97] : List Int)) (inner:=[.int .u8 5,.int .u8 1,.int .u8 97]) (ok:=fun _ => True) (okp:=fun _ => True) ?hr ?hp (fun _ hk => hk) trivial (Below.refl _ _) (Nat.le_refl _) (by simp) ?_;(case hd => rfl);(case hg => rfl);(case hr => first | (go_simp;done) | (go_simp;rfl));(case hp => exact (Reps.one (show Kd.M (Kd.int .u8) _ _ _ 5 [.int .u8 5] from rfl) (Reps.one (show Kd.M (Kd.int .u8) _ _ _ 1 [.int .u8 1] from rfl) (Reps.one (show Kd.M (Kd.int .u8) _ _ _ 97 [.int .u8 97] from rfl) (Reps.none _ _)))));intro v207 w14 ho15 hb hg_ hnew_;clear hg_ hnew_;(first | rw [← Ny206.out] at ho15 | (simp only [Int.reduceToNat] at ho15;rw [← Ny206.out] at ho15));have n0_:=Aside0.mk (Kd.R_lower ho15 (below_size (by repeat (first | (with_reducible first | exact HB.out | apply below_alloc | apply pw_below_drewN | apply below_drew1) | exact HB.out))));have n1_:=Aside0.mk (below_step (by repeat (first | (with_reducible first | exact HB.out | apply below_alloc | apply pw_below_drewN | apply below_drew1) | exact HB.out)) hb);clear HB;have HO208:=n0_;have HB:=n1_;clear n0_ n1_;clear hb ho15;obtain ⟨Ao16,co16,eo16⟩:=Kd.R_slice HO208.out;subst eo16) | ((with_reducible refine gate_callee (f:=34) rfl ?_);refine goesL_ (some 3) rfl rfl Try.func34 (by kernel_rfl) rfl #[.slice Ao16 y206.length co16] rfl (by (try simp only [List.map_toArray,List.map_cons,List.map_nil]);first | done | rfl | (simp only [List.length_drop,List.length_take];rfl)) ?_;(with_reducible refine (cursor_New.calls _ _ y206 t209 t210 t211 w _ ?side1 ?side2 ?side3 A1.out).mono ?_);(case side1 => repeat (first | (with_reducible first | exact HB.out | apply below_alloc | apply pw_below_drewN | apply below_drew1) | exact HB.out));(case side2 => repeat (first | exact (Kd.R_reads' HO208.out).2.2 | (with_reducible refine Kd.C_alloc ?_ _) | (with_reducible refine Kd.C_drewN ?_ _) | (with_reducible refine Kd.C_drew ?_)));(case side3 => exact (Kd.R_reads' HO208.out).2.1);rintro e w17 ⟨g212,rfl,hi,hb,hb2⟩;refine ⟨_,rfl,?_⟩;have n0_:=Aside0.mk (Kd.R_below (by (with_reducible repeat (first | apply Kd.R_alloc | apply Kd.R_drewN | apply Kd.R_drew));exact HO208.out) hb2);have n1_:=Aside0.mk (hb);have n2_:=Aside0.mk (hi);clear HO208;clear HB;have HO208:=n0_;have HB:=n1_;have HI212:=n2_;clear n0_ n1_ n2_;(try clear hb);(try clear hb2);(try clear hk);(try clear hi)) | (go_at_call 36;(with_reducible refine (cursor_Cursor_Byte.calls g212 t209 t210 t211 t213 t214 t215 t216 w _ ?side1 ?side2 A2.out).mono ?_);(case side1 => repeat (first | (with_reducible first | exact HI212.out | apply IsS102.alloc | apply IsS102.drewN | apply IsS102.drew | apply IsS102.set_0 | apply IsS102.set_1 | apply IsS102.set_2) | exact HI212.out));(case side2 => repeat (first | (with_reducible first | exact HB.out | apply below_alloc | apply pw_below_drewN | apply below_drew1 | refine below_set ?_ (IsS102.ge HI212.out)) | exact HB.out));rintro e w18 ⟨rfl,hi,hb,hk⟩;have n0_:=Aside0.mk (Kd.R_mono (Kd.R_keep (IsS102.apart (show IsS102 w _ g212 t209 t210 t211 from by repeat (first | (with_reducible first | exact HI212.out | apply IsS102.alloc | apply IsS102.drewN | apply IsS102.drew | apply IsS102.set_0 | apply IsS102.set_1 | apply IsS102.set_2) | exact HI212.out)) (by (with_reducible repeat (first | apply Kd.R_alloc | apply Kd.R_drewN | apply Kd.R_drew));exact HO208.out) (by decide)) hk (fun _ h => h.2)) (fun _ h => h.1));have n1_:=Aside0.mk (hb);have n2_:=Aside0.mk (hi);clear HO208;clear HB;clear HI212;have HO208:=n0_;have HB:=n1_;have HI212:=n2_;clear n0_ n1_ n2_;(try clear hb);(try clear hb2);(try clear hk);(try clear hi)) | (go_at_call 42;(with_reducible refine (cursor_Cursor_Text.calls k g212 t214 t215 t216 3 t217 t218 t219 t220 w _ ?side1 ?side2 A4.out).mono ?_);(case side1 => repeat (first | (with_reducible first | exact HI212.out | apply IsS102.alloc | apply IsS102.drewN | apply IsS102.drew | apply IsS102.set_0 | apply IsS102.set_1 | apply IsS102.set_2) | exact HI212.out));(case side2 => repeat (first | (with_reducible first | exact HB.out | apply below_alloc | apply pw_below_drewN | apply below_drew1 | refine below_set ?_ (IsS102.ge HI212.out)) | exact HB.out));rintro e w19 ⟨rfl,hi,hb,hk⟩;have n0_:=Aside0.mk (Kd.R_mono (Kd.R_keep (IsS102.apart (show IsS102 w _ g212 t214 t215 t216 from by repeat (first | (with_reducible first | exact HI212.out | apply IsS102.alloc | apply IsS102.drewN | apply IsS102.drew | apply IsS102.set_0 | apply IsS102.set_1 | apply IsS102.set_2) | exact HI212.out)) (by (with_reducible repeat (first | apply Kd.R_alloc | apply Kd.R_drewN | apply Kd.R_drew));exact HO208.out) (by decide)) hk (fun _ h => h.2)) (fun _ h => h.1));have n1_:=Aside0.mk (hb);have n2_:=Aside0.mk (hi);clear HO208;clear HB;clear HI212;have HO208:=n0_;have HB:=n1_;have HI212:=n2_;clear n0_ n1_ n2_;(try clear hb);(try clear hb2);(try clear hk);(try clear hi)))
   go_ret
   exact ⟨by first | rfl | (simp [errW_none,errW_some] <;> rfl) | (simp [*,errW_none,errW_some] <;> rfl),by repeat (first | (with_reducible first | exact HB.out | apply below_alloc | apply pw_below_drewN | apply below_drew1 | refine below_set ?_ (IsS102.ge HI212.out)) | exact HB.out)⟩
 ·rw [if_neg c3] at H
  have c3b0 : (t213 == 5) = false:=beq_eq_false_iff_ne.mpr c3
  have c3b1 : (t213 != 5) = true:=bne_iff_ne.mpr c3
  obtain rfl:=Option.some.inj H
  go_enter Try.func33,Try.ntmps33
  go_wp2_with (first | ((with_reducible refine gate_dst (N:=2) rfl ?_);refine Kd.R_lit (Kd.int .u8) _ 5 ?hg (N:=2) ?hd (xs:=([5,1,97] : List Int)) (inner:=[.int .u8 5,.int .u8 1,.int .u8 97]) (ok:=fun _ => True) (okp:=fun _ => True) ?hr ?hp (fun _ hk => hk) trivial (Below.refl _ _) (Nat.le_refl _) (by simp) ?_;(case hd => rfl);(case hg => rfl);(case hr => first | (go_simp;done) | (go_simp;rfl));(case hp => exact (Reps.one (show Kd.M (Kd.int .u8) _ _ _ 5 [.int .u8 5] from rfl) (Reps.one (show Kd.M (Kd.int .u8) _ _ _ 1 [.int .u8 1] from rfl) (Reps.one (show Kd.M (Kd.int .u8) _ _ _ 97 [.int .u8 97] from rfl) (Reps.none _ _)))));intro v207 w20 ho21 hb hg_ hnew_;clear hg_ hnew_;(first | rw [← Ny206.out] at ho21 | (simp only [Int.reduceToNat] at ho21;rw [← Ny206.out] at ho21));have n0_:=Aside0.mk (Kd.R_lower ho21 (below_size (by repeat (first | (with_reducible first | exact HB.out | apply below_alloc | apply pw_below_drewN | apply below_drew1) | exact HB.out))));have n1_:=Aside0.mk (below_step (by repeat (first | (with_reducible first | exact HB.out | apply below_alloc | apply pw_below_drewN | apply below_drew1) | exact HB.out)) hb);clear HB;have HO208:=n0_;have HB:=n1_;clear n0_ n1_;clear hb ho21;obtain ⟨Ao22,co22,eo22⟩:=Kd.R_slice HO208.out;subst eo22) | ((with_reducible refine gate_callee (f:=34) rfl ?_);refine goesL_ (some 3) rfl rfl Try.func34 (by kernel_rfl) rfl #[.slice Ao22 y206.length co22] rfl (by (try simp only [List.map_toArray,List.map_cons,List.map_nil]);first | done | rfl | (simp only [List.length_drop,List.length_take];rfl)) ?_;(with_reducible refine (cursor_New.calls _ _ y206 t209 t210 t211 w _ ?side1 ?side2 ?side3 A1.out).mono ?_);(case side1 => repeat (first | (with_reducible first | exact HB.out | apply below_alloc | apply pw_below_drewN | apply below_drew1) | exact HB.out));(case side2 => repeat (first | exact (Kd.R_reads' HO208.out).2.2 | (with_reducible refine Kd.C_alloc ?_ _) | (with_reducible refine Kd.C_drewN ?_ _) | (with_reducible refine Kd.C_drew ?_)));(case side3 => exact (Kd.R_reads' HO208.out).2.1);rintro e w23 ⟨g212,rfl,hi,hb,hb2⟩;refine ⟨_,rfl,?_⟩;have n0_:=Aside0.mk (Kd.R_below (by (with_reducible repeat (first | apply Kd.R_alloc | apply Kd.R_drewN | apply Kd.R_drew));exact HO208.out) hb2);have n1_:=Aside0.mk (hb);have n2_:=Aside0.mk (hi);clear HO208;clear HB;have HO208:=n0_;have HB:=n1_;have HI212:=n2_;clear n0_ n1_ n2_;(try clear hb);(try clear hb2);(try clear hk);(try clear hi)) | (go_at_call 36;(with_reducible refine (cursor_Cursor_Byte.calls g212 t209 t210 t211 t213 t214 t215 t216 w _ ?side1 ?side2 A2.out).mono ?_);(case side1 => repeat (first | (with_reducible first | exact HI212.out | apply IsS102.alloc | apply IsS102.drewN | apply IsS102.drew | apply IsS102.set_0 | apply IsS102.set_1 | apply IsS102.set_2) | exact HI212.out));(case side2 => repeat (first | (with_reducible first | exact HB.out | apply below_alloc | apply pw_below_drewN | apply below_drew1 | refine below_set ?_ (IsS102.ge HI212.out)) | exact HB.out));rintro e w24 ⟨rfl,hi,hb,hk⟩;have n0_:=Aside0.mk (Kd.R_mono (Kd.R_keep (IsS102.apart (show IsS102 w _ g212 t209 t210 t211 from by repeat (first | (with_reducible first | exact HI212.out | apply IsS102.alloc | apply IsS102.drewN | apply IsS102.drew | apply IsS102.set_0 | apply IsS102.set_1 | apply IsS102.set_2) | exact HI212.out)) (by (with_reducible repeat (first | apply Kd.R_alloc | apply Kd.R_drewN | apply Kd.R_drew));exact HO208.out) (by decide)) hk (fun _ h => h.2)) (fun _ h => h.1));have n1_:=Aside0.mk (hb);have n2_:=Aside0.mk (hi);clear HO208;clear HB;clear HI212;have HO208:=n0_;have HB:=n1_;have HI212:=n2_;clear n0_ n1_ n2_;(try clear hb);(try clear hb2);(try clear hk);(try clear hi)))
  go_ret
  exact ⟨by first | rfl | (simp [errW_none,errW_some] <;> rfl) | (simp [*,errW_none,errW_some] <;> rfl),by repeat (first | (with_reducible first | exact HB.out | apply below_alloc | apply pw_below_drewN | apply below_drew1 | refine below_set ?_ (IsS102.ge HI212.out)) | exact HB.out)⟩

/-! ### tachographref03_Cursor_on: function 63 -/
def tachographref03_Cursor_on.f (a0_0 : ByteArray) (a0_1 : Int) (a0_2 : Int) (a1 : Int) (a2 : Int) : Option (ByteArray × Int × Int) := if a2 = 0 then (if 0 ≤ a1 then (if a1 ≤ (a0_0.size : Int) then (some (a0_0.extract (a1 : Int).toNat a0_0.size, wrap64 (a0_1 + a1), a0_2)) else (none)) else (none)) else (some (a0_0, a0_1, a2))
set_option maxHeartbeats 8000000 in
set_option maxRecDepth 100000 in
theorem tachographref03_Cursor_on.calls (a0_0 : ByteArray) (a0_1 : Int) (a0_2 : Int) (a1 : Int) (a2 : Int) (r1 : ByteArray) (r2 : Int) (r3 : Int) (w : World) (h : tachographref03_Cursor_on.f a0_0 a0_1 a0_2 a1 a2 = some (r1,r2,r3)) :
  Calls Try.prog 63 #[.agg #[.string a0_0,.int .i64 a0_1,.int .i64 a0_2],.int .i64 a1,.int .i64 a2] w fun e w' => e = .returned (.agg #[.string r1,.int .i64 r2,.int .i64 r3]) ∧ Below w.heap.size w w':=by
 have hu59:=Try.underlying59
 have HB:=Aside0.mk (Below.refl w.heap.size w)
 have H : (if a2 = 0 then (if 0 ≤ a1 then (if a1 ≤ (a0_0.size : Int) then (some (a0_0.extract (a1 : Int).toNat a0_0.size,wrap64 (a0_1 + a1),a0_2)) else (none)) else (none)) else (some (a0_0,a0_1,a2))) = some (r1,r2,r3):=h
 clear h
 by_cases c4 : a2 = 0
 ·rw [if_pos c4] at H
  have c4b0 : (a2 == 0) = true:=beq_iff_eq.mpr c4
  have c4b1 : (a2 != 0) = false:=bne_eq_false_iff_eq.mpr c4
  clear c4
  by_cases c5 : 0 ≤ a1
  ·rw [if_pos c5] at H
   have c5b0:=eq_true c5
   have c5b1 : decide (0 ≤ a1) = true:=decide_eq_true c5
   clear c5
   by_cases c6 : a1 ≤ (a0_0.size : Int)
   ·rw [if_pos c6] at H
    have c6b0:=eq_true c6
    have c6b1 : decide (a1 ≤ (a0_0.size : Int)) = true:=decide_eq_true c6
    clear c6
    simp only [Option.some.injEq,Prod.mk.injEq] at H
    obtain ⟨rfl,rfl,rfl⟩:=H
    go_enter Try.func63,Try.ntmps63
    go_wp2_with (first | ((with_reducible refine gate_dst (N:=3) rfl ?_);refine box_event ?hg (N:=3) ?hd (cs:=#[.string a0_0,.int .i64 a0_1,.int .i64 a0_2]) (t:=59) ?hr ?_;(case hd => rfl);(case hg => rfl);(case hr => first | (go_simp;done) | (go_simp;rfl));intro gb225 hg w7 hbox hb;have n0_:=Aside0.mk (below_step (by repeat (first | (with_reducible first | exact HB.out | apply below_alloc | apply pw_below_drewN | apply below_drew1) | exact HB.out)) hb);have n1_:=Aside0.mk (hbox);have n2_:=Aside0.mk ((by rw [hg];exact (below_size (by repeat (first | (with_reducible first | exact HB.out | apply below_alloc | apply pw_below_drewN | apply below_drew1) | exact HB.out))) : w.heap.size ≤ gb225));have n3_:=Aside0.mk ((by rw [hg];exact (below_size (by repeat (first | (with_reducible first | exact HB.out | apply below_alloc | apply pw_below_drewN | apply below_drew1) | exact HB.out))) : w.heap.size ≤ gb225));clear HB;have HB:=n0_;have BK225:=n1_;have GW225:=n2_;have GE225:=n3_;clear n0_ n1_ n2_ n3_;clear hb hbox hg) | ((with_reducible refine gate_dst (N:=6) rfl ?_);refine box_event ?hg (N:=6) ?hd (cs:=#[.string (⟨#[]⟩ : ByteArray),.int .i64 0,.int .i64 0]) (t:=59) ?hr ?_;(case hd => rfl);(case hg => rfl);(case hr => first | (go_simp;done) | (go_simp;rfl));intro gb226 hg w8 hbox hb;have n0_:=Aside0.mk (blk_below (g:=gb225) (o:=.cells #[.string a0_0,.int .i64 a0_1,.int .i64 a0_2] 59 (0,0)) (by (with_reducible repeat (first | refine blk_drewN ?_ _ | refine blk_drew ?_ | refine blk_alloc ?_ _));exact BK225.out) hb);have n1_:=Aside0.mk (below_step (by repeat (first | (with_reducible first | exact HB.out | apply below_alloc | apply pw_below_drewN | apply below_drew1 | refine below_set ?_ GE225.out) | exact HB.out)) hb);have n2_:=Aside0.mk (hbox);have n3_:=Aside0.mk ((by rw [hg];exact (below_size (by repeat (first | (with_reducible first | exact HB.out | apply below_alloc | apply pw_below_drewN | apply below_drew1 | refine below_set ?_ GE225.out) | exact HB.out))) : w.heap.size ≤ gb226));have n4_:=Aside0.mk ((by rw [hg];exact (below_size (by repeat (first | (with_reducible first | exact HB.out | apply below_alloc | apply pw_below_drewN | apply below_drew1 | refine below_set ?_ GE225.out) | exact HB.out))) : w.heap.size ≤ gb226));have n5_:=Aside0.mk ((by rw [hg];exact Nat.ne_of_lt (blk_lt (g:=gb225) (o:=.cells #[.string a0_0,.int .i64 a0_1,.int .i64 a0_2] 59 (0,0)) (by (with_reducible repeat (first | refine blk_drewN ?_ _ | refine blk_drew ?_ | refine blk_alloc ?_ _));exact BK225.out)) : gb225 ≠ gb226));have n6_:=Aside0.mk ((by rw [hg];exact Nat.ne_of_gt (blk_lt (g:=gb225) (o:=.cells #[.string a0_0,.int .i64 a0_1,.int .i64 a0_2] 59 (0,0)) (by (with_reducible repeat (first | refine blk_drewN ?_ _ | refine blk_drew ?_ | refine blk_alloc ?_ _));exact BK225.out)) : gb226 ≠ gb225));clear BK225;clear HB;have BK225:=n0_;have HB:=n1_;have BK226:=n2_;have GW226:=n3_;have GE226:=n4_;have NB225_226:=n5_;have NB226_225:=n6_;clear n0_ n1_ n2_ n3_ n4_ n5_ n6_;clear hb hbox hg;have hnb9:=NB225_226.out;have hnc9:=NB226_225.out;have hcz10_0 : w8.cell? ⟨gb225,0,none⟩ = some (.string a0_0):=(blk_cell BK225.out 0).trans rfl;have hcz10_1 : w8.cell? ⟨gb225,1,none⟩ = some (.int .i64 a0_1):=(blk_cell BK225.out 1).trans rfl;have hcz10_2 : w8.cell? ⟨gb225,2,none⟩ = some (.int .i64 a0_2):=(blk_cell BK225.out 2).trans rfl;have hfz10_0:=blk_frozen BK225.out 0;have hfz10_1:=blk_frozen BK225.out 1;have hfz10_2:=blk_frozen BK225.out 2;have hcz11_0 : w8.cell? ⟨gb226,0,none⟩ = some (.string (⟨#[]⟩ : ByteArray)):=(blk_cell BK226.out 0).trans rfl;have hcz11_1 : w8.cell? ⟨gb226,1,none⟩ = some (.int .i64 0):=(blk_cell BK226.out 1).trans rfl;have hcz11_2 : w8.cell? ⟨gb226,2,none⟩ = some (.int .i64 0):=(blk_cell BK226.out 2).trans rfl;have hfz11_0:=blk_frozen BK226.out 0;have hfz11_1:=blk_frozen BK226.out 1;have hfz11_2:=blk_frozen BK226.out 2))
    refine bodyPost_ret (results_cell_row rfl _ _ gb226 59 #[.string (a0_0.extract (a1 : Int).toNat a0_0.size),.int .i64 (wrap64 (a0_1 + a1)),.int .i64 a0_2] (0,0) _ rfl (by (with_reducible repeat (first | refine blk_drewN ?_ _ | refine blk_drew ?_ | refine blk_alloc ?_ _));refine blk_put (cs:=#[.string (a0_0.extract (a1 : Int).toNat a0_0.size),.int .i64 (wrap64 (a0_1 + a1)),.int .i64 0]) ?_ 2 _ rfl;(with_reducible repeat (first | refine blk_drewN ?_ _ | refine blk_drew ?_ | refine blk_alloc ?_ _));refine blk_put (cs:=#[.string (a0_0.extract (a1 : Int).toNat a0_0.size),.int .i64 0,.int .i64 0]) ?_ 1 _ rfl;(with_reducible repeat (first | refine blk_drewN ?_ _ | refine blk_drew ?_ | refine blk_alloc ?_ _));refine blk_put (cs:=#[.string (⟨#[]⟩ : ByteArray),.int .i64 0,.int .i64 0]) ?_ 0 _ rfl;(with_reducible repeat (first | refine blk_drewN ?_ _ | refine blk_drew ?_ | refine blk_alloc ?_ _));refine blk_far ?_ NB226_225.out _;(with_reducible repeat (first | refine blk_drewN ?_ _ | refine blk_drew ?_ | refine blk_alloc ?_ _));refine blk_far ?_ NB226_225.out _;(with_reducible repeat (first | refine blk_drewN ?_ _ | refine blk_drew ?_ | refine blk_alloc ?_ _));exact BK226.out) Try.underlying59 rfl (by kernel_rfl)) rfl ?_
    exact ⟨by first | rfl | (simp [errW_none,errW_some] <;> rfl) | (simp [*,errW_none,errW_some] <;> rfl),by repeat (first | (with_reducible first | exact HB.out | apply below_alloc | apply pw_below_drewN | apply below_drew1 | refine below_set ?_ GE225.out | refine below_set ?_ GE226.out) | exact HB.out)⟩
   ·rw [if_neg c6] at H
    exact absurd H (by simp)
  ·rw [if_neg c5] at H
   exact absurd H (by simp)
 ·rw [if_neg c4] at H
  have c4b0 : (a2 == 0) = false:=beq_eq_false_iff_ne.mpr c4
  have c4b1 : (a2 != 0) = true:=bne_iff_ne.mpr c4
  simp only [Option.some.injEq,Prod.mk.injEq] at H
  obtain ⟨rfl,rfl,rfl⟩:=H
  go_enter Try.func63,Try.ntmps63
  go_wp2_with (first | ((with_reducible refine gate_dst (N:=3) rfl ?_);refine box_event ?hg (N:=3) ?hd (cs:=#[.string a0_0,.int .i64 a0_1,.int .i64 a0_2]) (t:=59) ?hr ?_;(case hd => rfl);(case hg => rfl);(case hr => first | (go_simp;done) | (go_simp;rfl));intro gb225 hg w12 hbox hb;have n0_:=Aside0.mk (below_step (by repeat (first | (with_reducible first | exact HB.out | apply below_alloc | apply pw_below_drewN | apply below_drew1) | exact HB.out)) hb);have n1_:=Aside0.mk (hbox);have n2_:=Aside0.mk ((by rw [hg];exact (below_size (by repeat (first | (with_reducible first | exact HB.out | apply below_alloc | apply pw_below_drewN | apply below_drew1) | exact HB.out))) : w.heap.size ≤ gb225));have n3_:=Aside0.mk ((by rw [hg];exact (below_size (by repeat (first | (with_reducible first | exact HB.out | apply below_alloc | apply pw_below_drewN | apply below_drew1) | exact HB.out))) : w.heap.size ≤ gb225));clear HB;have HB:=n0_;have BK225:=n1_;have GW225:=n2_;have GE225:=n3_;clear n0_ n1_ n2_ n3_;clear hb hbox hg) | ((with_reducible refine gate_dst (N:=6) rfl ?_);refine box_event ?hg (N:=6) ?hd (cs:=#[.string (⟨#[]⟩ : ByteArray),.int .i64 0,.int .i64 0]) (t:=59) ?hr ?_;(case hd => rfl);(case hg => rfl);(case hr => first | (go_simp;done) | (go_simp;rfl));intro gb226 hg w13 hbox hb;have n0_:=Aside0.mk (blk_below (g:=gb225) (o:=.cells #[.string a0_0,.int .i64 a0_1,.int .i64 a0_2] 59 (0,0)) (by (with_reducible repeat (first | refine blk_drewN ?_ _ | refine blk_drew ?_ | refine blk_alloc ?_ _));exact BK225.out) hb);have n1_:=Aside0.mk (below_step (by repeat (first | (with_reducible first | exact HB.out | apply below_alloc | apply pw_below_drewN | apply below_drew1 | refine below_set ?_ GE225.out) | exact HB.out)) hb);have n2_:=Aside0.mk (hbox);have n3_:=Aside0.mk ((by rw [hg];exact (below_size (by repeat (first | (with_reducible first | exact HB.out | apply below_alloc | apply pw_below_drewN | apply below_drew1 | refine below_set ?_ GE225.out) | exact HB.out))) : w.heap.size ≤ gb226));have n4_:=Aside0.mk ((by rw [hg];exact (below_size (by repeat (first | (with_reducible first | exact HB.out | apply below_alloc | apply pw_below_drewN | apply below_drew1 | refine below_set ?_ GE225.out) | exact HB.out))) : w.heap.size ≤ gb226));have n5_:=Aside0.mk ((by rw [hg];exact Nat.ne_of_lt (blk_lt (g:=gb225) (o:=.cells #[.string a0_0,.int .i64 a0_1,.int .i64 a0_2] 59 (0,0)) (by (with_reducible repeat (first | refine blk_drewN ?_ _ | refine blk_drew ?_ | refine blk_alloc ?_ _));exact BK225.out)) : gb225 ≠ gb226));have n6_:=Aside0.mk ((by rw [hg];exact Nat.ne_of_gt (blk_lt (g:=gb225) (o:=.cells #[.string a0_0,.int .i64 a0_1,.int .i64 a0_2] 59 (0,0)) (by (with_reducible repeat (first | refine blk_drewN ?_ _ | refine blk_drew ?_ | refine blk_alloc ?_ _));exact BK225.out)) : gb226 ≠ gb225));clear BK225;clear HB;have BK225:=n0_;have HB:=n1_;have BK226:=n2_;have GW226:=n3_;have GE226:=n4_;have NB225_226:=n5_;have NB226_225:=n6_;clear n0_ n1_ n2_ n3_ n4_ n5_ n6_;clear hb hbox hg;have hnb14:=NB225_226.out;have hnc14:=NB226_225.out;have hcz15_0 : w13.cell? ⟨gb225,0,none⟩ = some (.string a0_0):=(blk_cell BK225.out 0).trans rfl;have hcz15_1 : w13.cell? ⟨gb225,1,none⟩ = some (.int .i64 a0_1):=(blk_cell BK225.out 1).trans rfl;have hcz15_2 : w13.cell? ⟨gb225,2,none⟩ = some (.int .i64 a0_2):=(blk_cell BK225.out 2).trans rfl;have hfz15_0:=blk_frozen BK225.out 0;have hfz15_1:=blk_frozen BK225.out 1;have hfz15_2:=blk_frozen BK225.out 2;have hcz16_0 : w13.cell? ⟨gb226,0,none⟩ = some (.string (⟨#[]⟩ : ByteArray)):=(blk_cell BK226.out 0).trans rfl;have hcz16_1 : w13.cell? ⟨gb226,1,none⟩ = some (.int .i64 0):=(blk_cell BK226.out 1).trans rfl;have hcz16_2 : w13.cell? ⟨gb226,2,none⟩ = some (.int .i64 0):=(blk_cell BK226.out 2).trans rfl;have hfz16_0:=blk_frozen BK226.out 0;have hfz16_1:=blk_frozen BK226.out 1;have hfz16_2:=blk_frozen BK226.out 2))
  refine bodyPost_ret (results_cell_row rfl _ _ gb226 59 #[.string a0_0,.int .i64 a0_1,.int .i64 a2] (0,0) _ rfl (by (with_reducible repeat (first | refine blk_drewN ?_ _ | refine blk_drew ?_ | refine blk_alloc ?_ _));refine blk_put (cs:=#[.string a0_0,.int .i64 a0_1,.int .i64 0]) ?_ 2 _ rfl;(with_reducible repeat (first | refine blk_drewN ?_ _ | refine blk_drew ?_ | refine blk_alloc ?_ _));refine blk_put (cs:=#[.string a0_0,.int .i64 0,.int .i64 0]) ?_ 1 _ rfl;(with_reducible repeat (first | refine blk_drewN ?_ _ | refine blk_drew ?_ | refine blk_alloc ?_ _));refine blk_put (cs:=#[.string (⟨#[]⟩ : ByteArray),.int .i64 0,.int .i64 0]) ?_ 0 _ rfl;(with_reducible repeat (first | refine blk_drewN ?_ _ | refine blk_drew ?_ | refine blk_alloc ?_ _));refine blk_far ?_ NB226_225.out _;(with_reducible repeat (first | refine blk_drewN ?_ _ | refine blk_drew ?_ | refine blk_alloc ?_ _));exact BK226.out) Try.underlying59 rfl (by kernel_rfl)) rfl ?_
  exact ⟨by first | rfl | (simp [errW_none,errW_some] <;> rfl) | (simp [*,errW_none,errW_some] <;> rfl),by repeat (first | (with_reducible first | exact HB.out | apply below_alloc | apply pw_below_drewN | apply below_drew1 | refine below_set ?_ GE225.out | refine below_set ?_ GE226.out) | exact HB.out)⟩

/-! ### tachographref03_Cursor_Byte: function 35 -/
def tachographref03_Cursor_Byte.f (a0_0 : ByteArray) (a0_1 : Int) (a0_2 : Int) : Option (ByteArray × Int × Int × Int) := if a0_2 = 0 then (if a0_0.toList = ([] : List UInt8) then ((tachographref03_Cursor_on.f a0_0 a0_1 a0_2 0 2).bind fun bt229 => (some (bt229.1, bt229.2.1, bt229.2.2, 0))) else ((tachographref03_Cursor_on.f a0_0 a0_1 a0_2 1 0).bind fun bt232 => (if 0 < (a0_0.size : Int) then (some (bt232.1, bt232.2.1, bt232.2.2, bt a0_0 0)) else (none)))) else (some (a0_0, a0_1, a0_2, 0))
set_option maxHeartbeats 8000000 in
set_option maxRecDepth 100000 in
theorem tachographref03_Cursor_Byte.calls (a0_0 : ByteArray) (a0_1 : Int) (a0_2 : Int) (r1 : ByteArray) (r2 : Int) (r3 : Int) (r4 : Int) (w : World) (h : tachographref03_Cursor_Byte.f a0_0 a0_1 a0_2 = some (r1,r2,r3,r4)) :
  Calls Try.prog 35 #[.agg #[.string a0_0,.int .i64 a0_1,.int .i64 a0_2]] w fun e w' => e = .returned (.tuple #[.agg #[.string r1,.int .i64 r2,.int .i64 r3],.int .u8 r4]) ∧ Below w.heap.size w w':=by
 have hu59:=Try.underlying59
 have HB:=Aside0.mk (Below.refl w.heap.size w)
 have H : (if a0_2 = 0 then (if a0_0.toList = ([] : List UInt8) then ((tachographref03_Cursor_on.f a0_0 a0_1 a0_2 0 2).bind fun bt229 => (some (bt229.1,bt229.2.1,bt229.2.2,0))) else ((tachographref03_Cursor_on.f a0_0 a0_1 a0_2 1 0).bind fun bt232 => (if 0 < (a0_0.size : Int) then (some (bt232.1,bt232.2.1,bt232.2.2,bt a0_0 0)) else (none)))) else (some (a0_0,a0_1,a0_2,0))) = some (r1,r2,r3,r4):=h
 clear h
 by_cases c2 : a0_2 = 0
 ·rw [if_pos c2] at H
  have c2b0 : (a0_2 == 0) = true:=beq_iff_eq.mpr c2
  have c2b1 : (a0_2 != 0) = false:=bne_eq_false_iff_eq.mpr c2
  clear c2
  by_cases c3 : a0_0.toList = ([] : List UInt8)
  ·rw [if_pos c3] at H
   have c3b0 : (a0_0.toList == ([] : List UInt8)) = true:=beq_iff_eq.mpr c3
   have c3b1 : (a0_0.toList != ([] : List UInt8)) = false:=bne_eq_false_iff_eq.mpr c3
   clear c3
   replace H:=Option.bind_eq_some_iff.mp H
   obtain ⟨⟨t229,t230,t231⟩,A40,H⟩:=H
   replace H : (some (t229,t230,t231,0)) = some (r1,r2,r3,r4):=H
   have A4:=Aside0.mk A40
   clear A40
   simp only [Option.some.injEq,Prod.mk.injEq] at H
   obtain ⟨rfl,rfl,rfl,rfl⟩:=H
   go_enter Try.func35,Try.ntmps35
   go_wp2_with (first | ((with_reducible refine gate_dst (N:=1) rfl ?_);refine box_event ?hg (N:=1) ?hd (cs:=#[.string a0_0,.int .i64 a0_1,.int .i64 a0_2]) (t:=59) ?hr ?_;(case hd => rfl);(case hg => rfl);(case hr => first | (go_simp;done) | (go_simp;rfl));intro gb227 hg w5 hbox hb;have n0_:=Aside0.mk (below_step (by repeat (first | (with_reducible first | exact HB.out | apply below_alloc | apply pw_below_drewN | apply below_drew1) | exact HB.out)) hb);have n1_:=Aside0.mk (hbox);have n2_:=Aside0.mk ((by rw [hg];exact (below_size (by repeat (first | (with_reducible first | exact HB.out | apply below_alloc | apply pw_below_drewN | apply below_drew1) | exact HB.out))) : w.heap.size ≤ gb227));have n3_:=Aside0.mk ((by rw [hg];exact (below_size (by repeat (first | (with_reducible first | exact HB.out | apply below_alloc | apply pw_below_drewN | apply below_drew1) | exact HB.out))) : w.heap.size ≤ gb227));clear HB;have HB:=n0_;have BK227:=n1_;have GW227:=n2_;have GE227:=n3_;clear n0_ n1_ n2_ n3_;clear hb hbox hg) | ((with_reducible refine gate_dst (N:=2) rfl ?_);refine box_event ?hg (N:=2) ?hd (cs:=#[.string (⟨#[]⟩ : ByteArray),.int .i64 0,.int .i64 0]) (t:=59) ?hr ?_;(case hd => rfl);(case hg => rfl);(case hr => first | (go_simp;done) | (go_simp;rfl));intro gb228 hg w6 hbox hb;have n0_:=Aside0.mk (blk_below (g:=gb227) (o:=.cells #[.string a0_0,.int .i64 a0_1,.int .i64 a0_2] 59 (0,0)) (by (with_reducible repeat (first | refine blk_drewN ?_ _ | refine blk_drew ?_ | refine blk_alloc ?_ _));exact BK227.out) hb);have n1_:=Aside0.mk (below_step (by repeat (first | (with_reducible first | exact HB.out | apply below_alloc | apply pw_below_drewN | apply below_drew1 | refine below_set ?_ GE227.out) | exact HB.out)) hb);have n2_:=Aside0.mk (hbox);have n3_:=Aside0.mk ((by rw [hg];exact (below_size (by repeat (first | (with_reducible first | exact HB.out | apply below_alloc | apply pw_below_drewN | apply below_drew1 | refine below_set ?_ GE227.out) | exact HB.out))) : w.heap.size ≤ gb228));have n4_:=Aside0.mk ((by rw [hg];exact (below_size (by repeat (first | (with_reducible first | exact HB.out | apply below_alloc | apply pw_below_drewN | apply below_drew1 | refine below_set ?_ GE227.out) | exact HB.out))) : w.heap.size ≤ gb228));have n5_:=Aside0.mk ((by rw [hg];exact Nat.ne_of_lt (blk_lt (g:=gb227) (o:=.cells #[.string a0_0,.int .i64 a0_1,.int .i64 a0_2] 59 (0,0)) (by (with_reducible repeat (first | refine blk_drewN ?_ _ | refine blk_drew ?_ | refine blk_alloc ?_ _));exact BK227.out)) : gb227 ≠ gb228));have n6_:=Aside0.mk ((by rw [hg];exact Nat.ne_of_gt (blk_lt (g:=gb227) (o:=.cells #[.string a0_0,.int .i64 a0_1,.int .i64 a0_2] 59 (0,0)) (by (with_reducible repeat (first | refine blk_drewN ?_ _ | refine blk_drew ?_ | refine blk_alloc ?_ _));exact BK227.out)) : gb228 ≠ gb227));clear BK227;clear HB;have BK227:=n0_;have HB:=n1_;have BK228:=n2_;have GW228:=n3_;have GE228:=n4_;have NB227_228:=n5_;have NB228_227:=n6_;clear n0_ n1_ n2_ n3_ n4_ n5_ n6_;clear hb hbox hg;have hnb7:=NB227_228.out;have hnc7:=NB228_227.out;have hcz8_0 : w6.cell? ⟨gb227,0,none⟩ = some (.string a0_0):=(blk_cell BK227.out 0).trans rfl;have hcz8_1 : w6.cell? ⟨gb227,1,none⟩ = some (.int .i64 a0_1):=(blk_cell BK227.out 1).trans rfl;have hcz8_2 : w6.cell? ⟨gb227,2,none⟩ = some (.int .i64 a0_2):=(blk_cell BK227.out 2).trans rfl;have hfz8_0:=blk_frozen BK227.out 0;have hfz8_1:=blk_frozen BK227.out 1;have hfz8_2:=blk_frozen BK227.out 2) | ((with_reducible refine gate_callee (f:=63) rfl ?_);refine goesL_ (some 12) rfl rfl Try.func63 (by kernel_rfl) rfl #[.agg #[.string a0_0,.int .i64 a0_1,.int .i64 a0_2],.int .i64 0,.int .i64 2] rfl (by (try simp only [List.map_toArray,List.map_cons,List.map_nil]);first | done | rfl | (simp only [List.length_drop,List.length_take];rfl)) ?_;(with_reducible refine (tachographref03_Cursor_on.calls a0_0 a0_1 a0_2 0 2 t229 t230 t231 _ A4.out).mono ?_);rintro e w9 ⟨rfl,hb⟩;refine ⟨_,rfl,?_⟩;have n0_:=Aside0.mk (blk_below (g:=gb227) (o:=.cells #[.string a0_0,.int .i64 a0_1,.int .i64 a0_2] 59 (0,0)) (by (with_reducible repeat (first | refine blk_drewN ?_ _ | refine blk_drew ?_ | refine blk_alloc ?_ _));exact BK227.out) hb);have n1_:=Aside0.mk (blk_below (g:=gb228) (o:=.cells #[.string (⟨#[]⟩ : ByteArray),.int .i64 0,.int .i64 0] 59 (0,0)) (by (with_reducible repeat (first | refine blk_drewN ?_ _ | refine blk_drew ?_ | refine blk_alloc ?_ _));exact BK228.out) hb);have n2_:=Aside0.mk (below_step (by repeat (first | (with_reducible first | exact HB.out | apply below_alloc | apply pw_below_drewN | apply below_drew1 | refine below_set ?_ GE227.out | refine below_set ?_ GE228.out) | exact HB.out)) hb);clear BK227;clear BK228;clear HB;have BK227:=n0_;have BK228:=n1_;have HB:=n2_;clear n0_ n1_ n2_;(try clear hb);(try clear hb2);(try clear hk);(try clear hi);have hcz10_0 : w9.cell? ⟨gb228,0,none⟩ = some (.string (⟨#[]⟩ : ByteArray)):=(blk_cell BK228.out 0).trans rfl;have hcz10_1 : w9.cell? ⟨gb228,1,none⟩ = some (.int .i64 0):=(blk_cell BK228.out 1).trans rfl;have hcz10_2 : w9.cell? ⟨gb228,2,none⟩ = some (.int .i64 0):=(blk_cell BK228.out 2).trans rfl;have hfz10_0:=blk_frozen BK228.out 0;have hfz10_1:=blk_frozen BK228.out 1;have hfz10_2:=blk_frozen BK228.out 2))
   refine bodyPost_ret (results_ct rfl _ _ gb228 59 #[.string t229,.int .i64 t230,.int .i64 t231] (0,0) _ rfl (by (with_reducible repeat (first | refine blk_drewN ?_ _ | refine blk_drew ?_ | refine blk_alloc ?_ _));refine blk_put (cs:=#[.string t229,.int .i64 t230,.int .i64 0]) ?_ 2 _ rfl;(with_reducible repeat (first | refine blk_drewN ?_ _ | refine blk_drew ?_ | refine blk_alloc ?_ _));refine blk_put (cs:=#[.string t229,.int .i64 0,.int .i64 0]) ?_ 1 _ rfl;(with_reducible repeat (first | refine blk_drewN ?_ _ | refine blk_drew ?_ | refine blk_alloc ?_ _));refine blk_put (cs:=#[.string (⟨#[]⟩ : ByteArray),.int .i64 0,.int .i64 0]) ?_ 0 _ rfl;(with_reducible repeat (first | refine blk_drewN ?_ _ | refine blk_drew ?_ | refine blk_alloc ?_ _));exact BK228.out) Try.underlying59 rfl (by kernel_rfl)) rfl ?_
   exact ⟨by first | rfl | (simp [errW_none,errW_some] <;> rfl) | (simp [*,errW_none,errW_some] <;> rfl),by repeat (first | (with_reducible first | exact HB.out | apply below_alloc | apply pw_below_drewN | apply below_drew1 | refine below_set ?_ GE227.out | refine below_set ?_ GE228.out) | exact HB.out)⟩
  ·rw [if_neg c3] at H
   have c3b0 : (a0_0.toList == ([] : List UInt8)) = false:=beq_eq_false_iff_ne.mpr c3
   have c3b1 : (a0_0.toList != ([] : List UInt8)) = true:=bne_iff_ne.mpr c3
   replace H:=Option.bind_eq_some_iff.mp H
   obtain ⟨⟨t232,t233,t234⟩,A110,H⟩:=H
   replace H : (if 0 < (a0_0.size : Int) then (some (t232,t233,t234,bt a0_0 0)) else (none)) = some (r1,r2,r3,r4):=H
   have A11:=Aside0.mk A110
   clear A110
   by_cases c12 : 0 < (a0_0.size : Int)
   ·rw [if_pos c12] at H
    have c12b0 : decide (0 < (a0_0.size : Int)) = true:=decide_eq_true c12
    have c12b1 : decide (0 < a0_0.size) = true:=decide_eq_true (by omega)
    clear c12
    simp only [Option.some.injEq,Prod.mk.injEq] at H
    obtain ⟨rfl,rfl,rfl,rfl⟩:=H
    go_enter Try.func35,Try.ntmps35
    try go_wp2_with (first | ((with_reducible refine gate_dst (N:=1) rfl ?_);refine box_event ?hg (N:=1) ?hd (cs:=#[.string a0_0,.int .i64 a0_1,.int .i64 a0_2]) (t:=59) ?hr ?_;(case hd => rfl);(case hg => rfl);(case hr => first | (go_simp;done) | (go_simp;rfl));intro gb227 hg w14 hbox hb;have n0_:=Aside0.mk (below_step (by repeat (first | (with_reducible first | exact HB.out | apply below_alloc | apply pw_below_drewN | apply below_drew1) | exact HB.out)) hb);have n1_:=Aside0.mk (hbox);have n2_:=Aside0.mk ((by rw [hg];exact (below_size (by repeat (first | (with_reducible first | exact HB.out | apply below_alloc | apply pw_below_drewN | apply below_drew1) | exact HB.out))) : w.heap.size ≤ gb227));have n3_:=Aside0.mk ((by rw [hg];exact (below_size (by repeat (first | (with_reducible first | exact HB.out | apply below_alloc | apply pw_below_drewN | apply below_drew1) | exact HB.out))) : w.heap.size ≤ gb227));clear HB;have HB:=n0_;have BK227:=n1_;have GW227:=n2_;have GE227:=n3_;clear n0_ n1_ n2_ n3_;clear hb hbox hg) | ((with_reducible refine gate_dst (N:=2) rfl ?_);refine box_event ?hg (N:=2) ?hd (cs:=#[.string (⟨#[]⟩ : ByteArray),.int .i64 0,.int .i64 0]) (t:=59) ?hr ?_;(case hd => rfl);(case hg => rfl);(case hr => first | (go_simp;done) | (go_simp;rfl));intro gb228 hg w15 hbox hb;have n0_:=Aside0.mk (blk_below (g:=gb227) (o:=.cells #[.string a0_0,.int .i64 a0_1,.int .i64 a0_2] 59 (0,0)) (by (with_reducible repeat (first | refine blk_drewN ?_ _ | refine blk_drew ?_ | refine blk_alloc ?_ _));exact BK227.out) hb);have n1_:=Aside0.mk (below_step (by repeat (first | (with_reducible first | exact HB.out | apply below_alloc | apply pw_below_drewN | apply below_drew1 | refine below_set ?_ GE227.out) | exact HB.out)) hb);have n2_:=Aside0.mk (hbox);have n3_:=Aside0.mk ((by rw [hg];exact (below_size (by repeat (first | (with_reducible first | exact HB.out | apply below_alloc | apply pw_below_drewN | apply below_drew1 | refine below_set ?_ GE227.out) | exact HB.out))) : w.heap.size ≤ gb228));have n4_:=Aside0.mk ((by rw [hg];exact (below_size (by repeat (first | (with_reducible first | exact HB.out | apply below_alloc | apply pw_below_drewN | apply below_drew1 | refine below_set ?_ GE227.out) | exact HB.out))) : w.heap.size ≤ gb228));have n5_:=Aside0.mk ((by rw [hg];exact Nat.ne_of_lt (blk_lt (g:=gb227) (o:=.cells #[.string a0_0,.int .i64 a0_1,.int .i64 a0_2] 59 (0,0)) (by (with_reducible repeat (first | refine blk_drewN ?_ _ | refine blk_drew ?_ | refine blk_alloc ?_ _));exact BK227.out)) : gb227 ≠ gb228));have n6_:=Aside0.mk ((by rw [hg];exact Nat.ne_of_gt (blk_lt (g:=gb227) (o:=.cells #[.string a0_0,.int .i64 a0_1,.int .i64 a0_2] 59 (0,0)) (by (with_reducible repeat (first | refine blk_drewN ?_ _ | refine blk_drew ?_ | refine blk_alloc ?_ _));exact BK227.out)) : gb228 ≠ gb227));clear BK227;clear HB;have BK227:=n0_;have HB:=n1_;have BK228:=n2_;have GW228:=n3_;have GE228:=n4_;have NB227_228:=n5_;have NB228_227:=n6_;clear n0_ n1_ n2_ n3_ n4_ n5_ n6_;clear hb hbox hg;have hnb16:=NB227_228.out;have hnc16:=NB228_227.out;have hcz17_0 : w15.cell? ⟨gb227,0,none⟩ = some (.string a0_0):=(blk_cell BK227.out 0).trans rfl;have hcz17_1 : w15.cell? ⟨gb227,1,none⟩ = some (.int .i64 a0_1):=(blk_cell BK227.out 1).trans rfl;have hcz17_2 : w15.cell? ⟨gb227,2,none⟩ = some (.int .i64 a0_2):=(blk_cell BK227.out 2).trans rfl;have hfz17_0:=blk_frozen BK227.out 0;have hfz17_1:=blk_frozen BK227.out 1;have hfz17_2:=blk_frozen BK227.out 2))
    have n0_:=Aside0.mk (blk_drew BK227.out)
    have n1_:=Aside0.mk (blk_drew BK228.out)
    have n2_:=Aside0.mk (below_drew1 HB.out)
    clear BK227
    clear BK228
    clear HB
    have BK227:=n0_
    have BK228:=n1_
    have HB:=n2_
    clear n0_ n1_ n2_
    have p13 : 0 ≤ (0 : Int):=(by omega)
    have q13 : 0 < a0_0.size:=(by have : (0 : Int) < (a0_0.size : Int):=of_decide_eq_true (by first | (with_reducible assumption) | assumption);omega)
    have hx13 : ∀ h : 0 < a0_0.size,((a0_0[0]'h).toNat : Int) = bt a0_0 0:=bt_at a0_0 0
    clear p13
    have qi13 : (0 < (a0_0.size : Int)) = True:=eq_true (of_decide_eq_true (by first | (with_reducible assumption) | assumption))
    replace q13:=eq_true q13
    refine start_ (n:=7) (S:=fun w' => w'.cell? ⟨gb227,0,none⟩ = some (.string a0_0) ∧ w'.cell? ⟨gb227,1,none⟩ = some (.int .i64 a0_1) ∧ w'.cell? ⟨gb227,2,none⟩ = some (.int .i64 a0_2)) (ds:=[]) #[n_,n_,n_,n_,n_,n_,n_] (by kernel_rfl) rfl rfl ⟨(blk_cell BK227.out 0).trans rfl,(blk_cell BK227.out 1).trans rfl,(blk_cell BK227.out 2).trans rfl⟩ (fun hHeld => ?_)
    generalize w15.drew = w18 at BK227 BK228 HB hHeld ⊢
    refine pure_ (i:=2) (N:=some 15) (v:=?_) (a':=?_) #[n_,n_,y_,n_,n_,n_,n_] rfl rfl (by kernel_rfl) (fun _ _ _ h => h) (Or.inl ⟨by rfl,?_⟩) ?_ ?_
    rotate_left
    ·intro w'
     go_simp
     with_reducible rfl
    rotate_left
    ·simp only [Act.put,sA_,sB_,sC_,i64_w,i32_w]
     rfl
    refine take_ (i:=0) (N:=some 13) (v:=?_) (a':=?_) #[y_,n_,y_,n_,n_,n_,n_] rfl rfl (by kernel_rfl) (fun _ _ _ h => h) (Or.inl ⟨by rfl,?_⟩) hHeld ?_ ?_
    rotate_left
    ·rintro w' ⟨s0,s1,s2⟩
     go_simp
     with_reducible rfl
    rotate_left
    ·simp only [Act.put,sA_,sB_,sC_,i64_w,i32_w]
     rfl
    refine take_ (i:=3) (N:=some 16) (v:=?_) (a':=?_) #[y_,n_,y_,y_,n_,n_,n_] rfl rfl (by kernel_rfl) (fun _ _ _ h => h) (Or.inl ⟨by rfl,?_⟩) hHeld ?_ ?_
    rotate_left
    ·rintro w' ⟨s0,s1,s2⟩
     go_simp
     with_reducible rfl
    rotate_left
    ·simp only [Act.put,sA_,sB_,sC_,i64_w,i32_w]
     rfl
    refine take_ (i:=4) (N:=some 17) (v:=?_) (a':=?_) #[y_,n_,y_,y_,y_,n_,n_] rfl rfl (by kernel_rfl) (fun _ _ _ h => h) (Or.inl ⟨by rfl,?_⟩) hHeld ?_ ?_
    rotate_left
    ·rintro w' ⟨s0,s1,s2⟩
     go_simp
     with_reducible rfl
    rotate_left
    ·simp only [Act.put,sA_,sB_,sC_,i64_w,i32_w]
     rfl
    refine one_ (i:=1) (N:=some 14) #[y_,y_,y_,y_,y_,n_,n_] rfl rfl (by kernel_rfl) (by decide) (fun K hK => ?_)
    refine goes_ Try.func63 (by kernel_rfl) rfl #[.agg #[.string a0_0,.int .i64 a0_1,.int .i64 a0_2],.int .i64 1,.int .i64 0] (by rfl) rfl rfl (by (try simp only [List.map_toArray,List.map_cons,List.map_nil]);first | done | rfl | (simp only [List.length_drop,List.length_take];rfl)) ?_
    with_reducible refine (tachographref03_Cursor_on.calls a0_0 a0_1 a0_2 1 0 t232 t233 t234 _ A11.out).mono ?_
    rintro e w19 ⟨rfl,hb⟩
    refine ⟨_,rfl,?_⟩
    have n0_:=Aside0.mk (blk_below (g:=gb227) (o:=.cells #[.string a0_0,.int .i64 a0_1,.int .i64 a0_2] 59 (0,0)) (by (with_reducible repeat (first | refine blk_drewN ?_ _ | refine blk_drew ?_ | refine blk_alloc ?_ _));exact BK227.out) hb)
    have n1_:=Aside0.mk (blk_below (g:=gb228) (o:=.cells #[.string (⟨#[]⟩ : ByteArray),.int .i64 0,.int .i64 0] 59 (0,0)) (by (with_reducible repeat (first | refine blk_drewN ?_ _ | refine blk_drew ?_ | refine blk_alloc ?_ _));exact BK228.out) hb)
    have n2_:=Aside0.mk (below_step (by repeat (first | (with_reducible first | exact HB.out | apply below_alloc | apply pw_below_drewN | apply below_drew1 | refine below_set ?_ GE227.out | refine below_set ?_ GE228.out) | exact HB.out)) hb)
    clear BK227
    clear BK228
    clear HB
    have BK227:=n0_
    have BK228:=n1_
    have HB:=n2_
    clear n0_ n1_ n2_
    (try clear hb)
    (try clear hb2)
    (try clear hk)
    (try clear hi)
    refine hK.out _ _ ⟨(blk_cell BK227.out 0).trans rfl,(blk_cell BK227.out 1).trans rfl,(blk_cell BK227.out 2).trans rfl⟩ (fun hHeld => ?_)
    clear hK K
    refine norm_ (a':=?_) ?_ ?_
    rotate_left
    ·show Act.put _ (some 14) _ = _
     simp only [Act.put,sA_,sB_,sC_,i64_w,i32_w]
     rfl
    refine one_ (i:=5) (N:=none) #[y_,y_,y_,y_,y_,y_,n_] rfl rfl (by kernel_rfl) (by decide) (fun K hK => ?_)
    have hs20 : w19.cell? ⟨gb228,0,none⟩ = some (.string (⟨#[]⟩ : ByteArray)):=(blk_cell BK228.out 0).trans rfl
    have hfs20:=blk_frozen BK228.out 0
    have hns20_0:=NB227_228.out
    have hms20_0:=NB228_227.out
    have hs21 : w19.cell? ⟨gb228,1,none⟩ = some (.int .i64 0):=(blk_cell BK228.out 1).trans rfl
    have hfs21:=blk_frozen BK228.out 1
    have hns21_0:=NB227_228.out
    have hms21_0:=NB228_227.out
    have hs22 : w19.cell? ⟨gb228,2,none⟩ = some (.int .i64 0):=(blk_cell BK228.out 2).trans rfl
    have hfs22:=blk_frozen BK228.out 2
    have hns22_0:=NB227_228.out
    have hms22_0:=NB228_227.out
    refine skip_ (w1:=?_) (by rfl) rfl ?_ ?_
    rotate_left
    ·go_simp
     rfl
    refine hK.out _ _ ⟨((cell_far (p:=⟨gb228,_,none⟩) NB227_228.out _).trans (((cell_far (p:=⟨gb228,_,none⟩) NB227_228.out _).trans (((cell_far (p:=⟨gb228,_,none⟩) NB227_228.out _).trans (hHeld.1)))))),((cell_far (p:=⟨gb228,_,none⟩) NB227_228.out _).trans (((cell_far (p:=⟨gb228,_,none⟩) NB227_228.out _).trans (((cell_far (p:=⟨gb228,_,none⟩) NB227_228.out _).trans (hHeld.2.1)))))),((cell_far (p:=⟨gb228,_,none⟩) NB227_228.out _).trans (((cell_far (p:=⟨gb228,_,none⟩) NB227_228.out _).trans (((cell_far (p:=⟨gb228,_,none⟩) NB227_228.out _).trans (hHeld.2.2))))))⟩ (fun hHeld => ?_)
    clear hK K
    refine pure_ (i:=6) (N:=some 3) (v:=?_) (a':=?_) #[y_,y_,y_,y_,y_,y_,y_] rfl rfl (by kernel_rfl) (fun _ _ _ h => h) (Or.inl ⟨by rfl,?_⟩) ?_ ?_
    rotate_left
    ·intro w'
     go_simp
     with_reducible rfl
    rotate_left
    ·simp only [Act.put,sA_,sB_,sC_,i64_w,i32_w]
     rfl
    refine done_ (by kernel_rfl) ?_
    try go_wp2
    refine bodyPost_ret (results_ct rfl _ _ gb228 59 #[.string t232,.int .i64 t233,.int .i64 t234] (0,0) _ rfl (by (with_reducible repeat (first | refine blk_drewN ?_ _ | refine blk_drew ?_ | refine blk_alloc ?_ _));refine blk_put (cs:=#[.string t232,.int .i64 t233,.int .i64 0]) ?_ 2 _ rfl;(with_reducible repeat (first | refine blk_drewN ?_ _ | refine blk_drew ?_ | refine blk_alloc ?_ _));refine blk_put (cs:=#[.string t232,.int .i64 0,.int .i64 0]) ?_ 1 _ rfl;(with_reducible repeat (first | refine blk_drewN ?_ _ | refine blk_drew ?_ | refine blk_alloc ?_ _));refine blk_put (cs:=#[.string (⟨#[]⟩ : ByteArray),.int .i64 0,.int .i64 0]) ?_ 0 _ rfl;(with_reducible repeat (first | refine blk_drewN ?_ _ | refine blk_drew ?_ | refine blk_alloc ?_ _));exact BK228.out) Try.underlying59 rfl (by kernel_rfl)) rfl ?_
    exact ⟨by first | rfl | (simp [errW_none,errW_some] <;> rfl) | (simp [*,errW_none,errW_some] <;> rfl),by repeat (first | (with_reducible first | exact HB.out | apply below_alloc | apply pw_below_drewN | apply below_drew1 | refine below_set ?_ GE227.out | refine below_set ?_ GE228.out) | exact HB.out)⟩
   ·rw [if_neg c12] at H
    exact absurd H (by simp)
 ·rw [if_neg c2] at H
  have c2b0 : (a0_2 == 0) = false:=beq_eq_false_iff_ne.mpr c2
  have c2b1 : (a0_2 != 0) = true:=bne_iff_ne.mpr c2
  simp only [Option.some.injEq,Prod.mk.injEq] at H
  obtain ⟨rfl,rfl,rfl,rfl⟩:=H
  go_enter Try.func35,Try.ntmps35
  go_wp2_with (first | ((with_reducible refine gate_dst (N:=1) rfl ?_);refine box_event ?hg (N:=1) ?hd (cs:=#[.string a0_0,.int .i64 a0_1,.int .i64 a0_2]) (t:=59) ?hr ?_;(case hd => rfl);(case hg => rfl);(case hr => first | (go_simp;done) | (go_simp;rfl));intro gb227 hg w23 hbox hb;have n0_:=Aside0.mk (below_step (by repeat (first | (with_reducible first | exact HB.out | apply below_alloc | apply pw_below_drewN | apply below_drew1) | exact HB.out)) hb);have n1_:=Aside0.mk (hbox);have n2_:=Aside0.mk ((by rw [hg];exact (below_size (by repeat (first | (with_reducible first | exact HB.out | apply below_alloc | apply pw_below_drewN | apply below_drew1) | exact HB.out))) : w.heap.size ≤ gb227));have n3_:=Aside0.mk ((by rw [hg];exact (below_size (by repeat (first | (with_reducible first | exact HB.out | apply below_alloc | apply pw_below_drewN | apply below_drew1) | exact HB.out))) : w.heap.size ≤ gb227));clear HB;have HB:=n0_;have BK227:=n1_;have GW227:=n2_;have GE227:=n3_;clear n0_ n1_ n2_ n3_;clear hb hbox hg) | ((with_reducible refine gate_dst (N:=2) rfl ?_);refine box_event ?hg (N:=2) ?hd (cs:=#[.string (⟨#[]⟩ : ByteArray),.int .i64 0,.int .i64 0]) (t:=59) ?hr ?_;(case hd => rfl);(case hg => rfl);(case hr => first | (go_simp;done) | (go_simp;rfl));intro gb228 hg w24 hbox hb;have n0_:=Aside0.mk (blk_below (g:=gb227) (o:=.cells #[.string a0_0,.int .i64 a0_1,.int .i64 a0_2] 59 (0,0)) (by (with_reducible repeat (first | refine blk_drewN ?_ _ | refine blk_drew ?_ | refine blk_alloc ?_ _));exact BK227.out) hb);have n1_:=Aside0.mk (below_step (by repeat (first | (with_reducible first | exact HB.out | apply below_alloc | apply pw_below_drewN | apply below_drew1 | refine below_set ?_ GE227.out) | exact HB.out)) hb);have n2_:=Aside0.mk (hbox);have n3_:=Aside0.mk ((by rw [hg];exact (below_size (by repeat (first | (with_reducible first | exact HB.out | apply below_alloc | apply pw_below_drewN | apply below_drew1 | refine below_set ?_ GE227.out) | exact HB.out))) : w.heap.size ≤ gb228));have n4_:=Aside0.mk ((by rw [hg];exact (below_size (by repeat (first | (with_reducible first | exact HB.out | apply below_alloc | apply pw_below_drewN | apply below_drew1 | refine below_set ?_ GE227.out) | exact HB.out))) : w.heap.size ≤ gb228));have n5_:=Aside0.mk ((by rw [hg];exact Nat.ne_of_lt (blk_lt (g:=gb227) (o:=.cells #[.string a0_0,.int .i64 a0_1,.int .i64 a0_2] 59 (0,0)) (by (with_reducible repeat (first | refine blk_drewN ?_ _ | refine blk_drew ?_ | refine blk_alloc ?_ _));exact BK227.out)) : gb227 ≠ gb228));have n6_:=Aside0.mk ((by rw [hg];exact Nat.ne_of_gt (blk_lt (g:=gb227) (o:=.cells #[.string a0_0,.int .i64 a0_1,.int .i64 a0_2] 59 (0,0)) (by (with_reducible repeat (first | refine blk_drewN ?_ _ | refine blk_drew ?_ | refine blk_alloc ?_ _));exact BK227.out)) : gb228 ≠ gb227));clear BK227;clear HB;have BK227:=n0_;have HB:=n1_;have BK228:=n2_;have GW228:=n3_;have GE228:=n4_;have NB227_228:=n5_;have NB228_227:=n6_;clear n0_ n1_ n2_ n3_ n4_ n5_ n6_;clear hb hbox hg;have hnb25:=NB227_228.out;have hnc25:=NB228_227.out;have hcz26_0 : w24.cell? ⟨gb227,0,none⟩ = some (.string a0_0):=(blk_cell BK227.out 0).trans rfl;have hcz26_1 : w24.cell? ⟨gb227,1,none⟩ = some (.int .i64 a0_1):=(blk_cell BK227.out 1).trans rfl;have hcz26_2 : w24.cell? ⟨gb227,2,none⟩ = some (.int .i64 a0_2):=(blk_cell BK227.out 2).trans rfl;have hfz26_0:=blk_frozen BK227.out 0;have hfz26_1:=blk_frozen BK227.out 1;have hfz26_2:=blk_frozen BK227.out 2;have hcz27_0 : w24.cell? ⟨gb228,0,none⟩ = some (.string (⟨#[]⟩ : ByteArray)):=(blk_cell BK228.out 0).trans rfl;have hcz27_1 : w24.cell? ⟨gb228,1,none⟩ = some (.int .i64 0):=(blk_cell BK228.out 1).trans rfl;have hcz27_2 : w24.cell? ⟨gb228,2,none⟩ = some (.int .i64 0):=(blk_cell BK228.out 2).trans rfl;have hfz27_0:=blk_frozen BK228.out 0;have hfz27_1:=blk_frozen BK228.out 1;have hfz27_2:=blk_frozen BK228.out 2))
  refine bodyPost_ret (results_ct rfl _ _ gb228 59 #[.string a0_0,.int .i64 a0_1,.int .i64 a0_2] (0,0) _ rfl (by (with_reducible repeat (first | refine blk_drewN ?_ _ | refine blk_drew ?_ | refine blk_alloc ?_ _));refine blk_put (cs:=#[.string a0_0,.int .i64 a0_1,.int .i64 0]) ?_ 2 _ rfl;(with_reducible repeat (first | refine blk_drewN ?_ _ | refine blk_drew ?_ | refine blk_alloc ?_ _));refine blk_put (cs:=#[.string a0_0,.int .i64 0,.int .i64 0]) ?_ 1 _ rfl;(with_reducible repeat (first | refine blk_drewN ?_ _ | refine blk_drew ?_ | refine blk_alloc ?_ _));refine blk_put (cs:=#[.string (⟨#[]⟩ : ByteArray),.int .i64 0,.int .i64 0]) ?_ 0 _ rfl;(with_reducible repeat (first | refine blk_drewN ?_ _ | refine blk_drew ?_ | refine blk_alloc ?_ _));exact BK228.out) Try.underlying59 rfl (by kernel_rfl)) rfl ?_
  exact ⟨by first | rfl | (simp [errW_none,errW_some] <;> rfl) | (simp [*,errW_none,errW_some] <;> rfl),by repeat (first | (with_reducible first | exact HB.out | apply below_alloc | apply pw_below_drewN | apply below_drew1 | refine below_set ?_ GE227.out | refine below_set ?_ GE228.out) | exact HB.out)⟩

/-! ### tachographref03_Cursor_Number: function 37 -/
mutual
def tachographref03_Cursor_Number.j0 : Nat → Int → Int → Int → Bool → ByteArray → Int → Int → Option (ByteArray × Int × Int × Int)
 | 0, _, _, _, _, _, _, _ => none
 | k + 1, x6, x7, x8, x26, x236000, x236001, x236002 => if x26 = true then (tachographref03_Cursor_Number.j1 k x6 x7 6 x236000 x236001 x236002) else (tachographref03_Cursor_Number.j1 k x6 x7 x8 x236000 x236001 x236002)
def tachographref03_Cursor_Number.j1 : Nat → Int → Int → Int → ByteArray → Int → Int → Option (ByteArray × Int × Int × Int)
 | 0, _, _, _, _, _, _ => none
 | k + 1, x6, x7, x8, x236000, x236001, x236002 => if x8 = 0 then ((tachographref03_Cursor_on.f x236000 x236001 x236002 x7 0).bind fun bt240 => (some (bt240.1, bt240.2.1, bt240.2.2, x6))) else ((tachographref03_Cursor_on.f x236000 x236001 x236002 0 x8).bind fun bt243 => (some (bt243.1, bt243.2.1, bt243.2.2, 0)))
end
def tachographref03_Cursor_Number.f (k : Nat) (a0_0 : ByteArray) (a0_1 : Int) (a0_2 : Int) (a1 : Int) : Option (ByteArray × Int × Int × Int) := if a0_2 = 0 then ((tachographref01_Get.f k a0_0).bind fun bt237 => (if bt237.2.2 = 0 then (tachographref03_Cursor_Number.j0 k bt237.1 bt237.2.1 bt237.2.2 (decide (bt237.1 > a1)) a0_0 a0_1 a0_2) else (tachographref03_Cursor_Number.j0 k bt237.1 bt237.2.1 bt237.2.2 false a0_0 a0_1 a0_2))) else (some (a0_0, a0_1, a0_2, 0))
theorem tachographref03_Cursor_Number.mono_l : ∀ k, (∀ y0 y1 y2 y3 y4 y5 y6, LeO (tachographref03_Cursor_Number.j0 k y0 y1 y2 y3 y4 y5 y6) (tachographref03_Cursor_Number.j0 (k + 1) y0 y1 y2 y3 y4 y5 y6)) ∧ (∀ y0 y1 y2 y3 y4 y5, LeO (tachographref03_Cursor_Number.j1 k y0 y1 y2 y3 y4 y5) (tachographref03_Cursor_Number.j1 (k + 1) y0 y1 y2 y3 y4 y5))
 | 0 => ⟨fun _ _ _ _ _ _ _ r h => by simp [tachographref03_Cursor_Number.j0] at h, fun _ _ _ _ _ _ r h => by simp [tachographref03_Cursor_Number.j1] at h⟩
 | k + 1 => by
  obtain ⟨ih0, ih1⟩ := tachographref03_Cursor_Number.mono_l k
  refine ⟨?_, ?_⟩
  ·intro y0 y1 y2 y3 y4 y5 y6
   unfold tachographref03_Cursor_Number.j0
   repeat' first
   | (with_reducible exact ih0 _ _ _ _ _ _ _)
   | (with_reducible exact ih1 _ _ _ _ _ _)
   | (with_reducible exact tachographref01_Get.mono _ _)
   | (with_reducible exact LeO.refl _)
   | (with_reducible exact LeO.none _)
   | (with_reducible refine LeO.ite ?_ ?_)
   | (with_reducible refine LeO.bind ?_ (fun _ => ?_))
   | exact ih0 _ _ _ _ _ _ _
   | exact ih1 _ _ _ _ _ _
   | exact tachographref01_Get.mono _ _
   | exact LeO.none _
   | refine LeO.ite ?_ ?_
   | refine LeO.bind ?_ (fun _ => ?_)
  ·intro y0 y1 y2 y3 y4 y5
   unfold tachographref03_Cursor_Number.j1
   repeat' first
   | (with_reducible exact ih0 _ _ _ _ _ _ _)
   | (with_reducible exact ih1 _ _ _ _ _ _)
   | (with_reducible exact tachographref01_Get.mono _ _)
   | (with_reducible exact LeO.refl _)
   | (with_reducible exact LeO.none _)
   | (with_reducible refine LeO.ite ?_ ?_)
   | (with_reducible refine LeO.bind ?_ (fun _ => ?_))
   | exact ih0 _ _ _ _ _ _ _
   | exact ih1 _ _ _ _ _ _
   | exact tachographref01_Get.mono _ _
   | exact LeO.none _
   | refine LeO.ite ?_ ?_
   | refine LeO.bind ?_ (fun _ => ?_)
theorem tachographref03_Cursor_Number.mono : ∀ a0 a1 a2 a3 k, LeO (tachographref03_Cursor_Number.f k a0 a1 a2 a3) (tachographref03_Cursor_Number.f (k + 1) a0 a1 a2 a3) := by
 intro a0 a1 a2 a3 k
 obtain ⟨ih0, ih1⟩ := tachographref03_Cursor_Number.mono_l k
 unfold tachographref03_Cursor_Number.f
 repeat' first
   | (with_reducible exact ih0 _ _ _ _ _ _ _)
   | (with_reducible exact ih1 _ _ _ _ _ _)
   | (with_reducible exact tachographref01_Get.mono _ _)
   | (with_reducible exact LeO.refl _)
   | (with_reducible exact LeO.none _)
   | (with_reducible refine LeO.ite ?_ ?_)
   | (with_reducible refine LeO.bind ?_ (fun _ => ?_))
   | exact ih0 _ _ _ _ _ _ _
   | exact ih1 _ _ _ _ _ _
   | exact tachographref01_Get.mono _ _
   | exact LeO.none _
   | refine LeO.ite ?_ ?_
   | refine LeO.bind ?_ (fun _ => ?_)
set_option maxHeartbeats 8000000 in
set_option maxRecDepth 100000 in
theorem tachographref03_Cursor_Number.calls (k : Nat) (a0_0 : ByteArray) (a0_1 : Int) (a0_2 : Int) (a1 : Int) (r1 : ByteArray) (r2 : Int) (r3 : Int) (r4 : Int) (w : World) (h : tachographref03_Cursor_Number.f k a0_0 a0_1 a0_2 a1 = some (r1,r2,r3,r4)) :
  Calls Try.prog 37 #[.agg #[.string a0_0,.int .i64 a0_1,.int .i64 a0_2],.int .u64 a1] w fun e w' => e = .returned (.tuple #[.agg #[.string r1,.int .i64 r2,.int .i64 r3],.int .u64 r4]) ∧ Below w.heap.size w w':=by
 have hu59:=Try.underlying59
 have HB:=Aside0.mk (Below.refl w.heap.size w)
 have H : (if a0_2 = 0 then ((tachographref01_Get.f k a0_0).bind fun bt237 => (if bt237.2.2 = 0 then (tachographref03_Cursor_Number.j0 k bt237.1 bt237.2.1 bt237.2.2 (decide (bt237.1 > a1)) a0_0 a0_1 a0_2) else (tachographref03_Cursor_Number.j0 k bt237.1 bt237.2.1 bt237.2.2 false a0_0 a0_1 a0_2))) else (some (a0_0,a0_1,a0_2,0))) = some (r1,r2,r3,r4):=h
 clear h
 by_cases c3 : a0_2 = 0
 ·rw [if_pos c3] at H
  have c3b0 : (a0_2 == 0) = true:=beq_iff_eq.mpr c3
  have c3b1 : (a0_2 != 0) = false:=bne_eq_false_iff_eq.mpr c3
  clear c3
  replace H:=Option.bind_eq_some_iff.mp H
  obtain ⟨⟨t237,t238,t239⟩,A40,H⟩:=H
  replace H : (if t239 = 0 then (tachographref03_Cursor_Number.j0 k t237 t238 t239 (decide (t237 > a1)) a0_0 a0_1 a0_2) else (tachographref03_Cursor_Number.j0 k t237 t238 t239 false a0_0 a0_1 a0_2)) = some (r1,r2,r3,r4):=H
  have A4:=Aside0.mk A40
  clear A40
  have HC5:=Aside0.mk H
  clear H
  go_enter Try.func37,Try.ntmps37
  go_upto_region 4 with (first | ((with_reducible refine gate_dst (N:=2) rfl ?_);refine box_event ?hg (N:=2) ?hd (cs:=#[.string a0_0,.int .i64 a0_1,.int .i64 a0_2]) (t:=59) ?hr ?_;(case hd => rfl);(case hg => rfl);(case hr => first | (go_simp;done) | (go_simp;rfl));intro gb235 hg w6 hbox hb;have n0_:=Aside0.mk (below_step (by repeat (first | (with_reducible first | exact HB.out | apply below_alloc | apply pw_below_drewN | apply below_drew1) | exact HB.out)) hb);have n1_:=Aside0.mk (hbox);have n2_:=Aside0.mk ((by rw [hg];exact (below_size (by repeat (first | (with_reducible first | exact HB.out | apply below_alloc | apply pw_below_drewN | apply below_drew1) | exact HB.out))) : w.heap.size ≤ gb235));have n3_:=Aside0.mk ((by rw [hg];exact (below_size (by repeat (first | (with_reducible first | exact HB.out | apply below_alloc | apply pw_below_drewN | apply below_drew1) | exact HB.out))) : w.heap.size ≤ gb235));clear HB;have HB:=n0_;have BK235:=n1_;have GW235:=n2_;have GE235:=n3_;clear n0_ n1_ n2_ n3_;clear hb hbox hg) | ((with_reducible refine gate_dst (N:=4) rfl ?_);refine box_event ?hg (N:=4) ?hd (cs:=#[.string (⟨#[]⟩ : ByteArray),.int .i64 0,.int .i64 0]) (t:=59) ?hr ?_;(case hd => rfl);(case hg => rfl);(case hr => first | (go_simp;done) | (go_simp;rfl));intro gb236 hg w7 hbox hb;have n0_:=Aside0.mk (blk_below (g:=gb235) (o:=.cells #[.string a0_0,.int .i64 a0_1,.int .i64 a0_2] 59 (0,0)) (by (with_reducible repeat (first | refine blk_drewN ?_ _ | refine blk_drew ?_ | refine blk_alloc ?_ _));exact BK235.out) hb);have n1_:=Aside0.mk (below_step (by repeat (first | (with_reducible first | exact HB.out | apply below_alloc | apply pw_below_drewN | apply below_drew1 | refine below_set ?_ GE235.out) | exact HB.out)) hb);have n2_:=Aside0.mk (hbox);have n3_:=Aside0.mk ((by rw [hg];exact (below_size (by repeat (first | (with_reducible first | exact HB.out | apply below_alloc | apply pw_below_drewN | apply below_drew1 | refine below_set ?_ GE235.out) | exact HB.out))) : w.heap.size ≤ gb236));have n4_:=Aside0.mk ((by rw [hg];exact (below_size (by repeat (first | (with_reducible first | exact HB.out | apply below_alloc | apply pw_below_drewN | apply below_drew1 | refine below_set ?_ GE235.out) | exact HB.out))) : w.heap.size ≤ gb236));have n5_:=Aside0.mk ((by rw [hg];exact Nat.ne_of_lt (blk_lt (g:=gb235) (o:=.cells #[.string a0_0,.int .i64 a0_1,.int .i64 a0_2] 59 (0,0)) (by (with_reducible repeat (first | refine blk_drewN ?_ _ | refine blk_drew ?_ | refine blk_alloc ?_ _));exact BK235.out)) : gb235 ≠ gb236));have n6_:=Aside0.mk ((by rw [hg];exact Nat.ne_of_gt (blk_lt (g:=gb235) (o:=.cells #[.string a0_0,.int .i64 a0_1,.int .i64 a0_2] 59 (0,0)) (by (with_reducible repeat (first | refine blk_drewN ?_ _ | refine blk_drew ?_ | refine blk_alloc ?_ _));exact BK235.out)) : gb236 ≠ gb235));clear BK235;clear HB;have BK235:=n0_;have HB:=n1_;have BK236:=n2_;have GW236:=n3_;have GE236:=n4_;have NB235_236:=n5_;have NB236_235:=n6_;clear n0_ n1_ n2_ n3_ n4_ n5_ n6_;clear hb hbox hg;have hnb8:=NB235_236.out;have hnc8:=NB236_235.out;have hcz9_0 : w7.cell? ⟨gb235,0,none⟩ = some (.string a0_0):=(blk_cell BK235.out 0).trans rfl;have hcz9_1 : w7.cell? ⟨gb235,1,none⟩ = some (.int .i64 a0_1):=(blk_cell BK235.out 1).trans rfl;have hcz9_2 : w7.cell? ⟨gb235,2,none⟩ = some (.int .i64 a0_2):=(blk_cell BK235.out 2).trans rfl;have hfz9_0:=blk_frozen BK235.out 0;have hfz9_1:=blk_frozen BK235.out 1;have hfz9_2:=blk_frozen BK235.out 2) | ((with_reducible refine gate_callee (f:=21) rfl ?_);refine goesL_ (some 16) rfl rfl Try.func21 (by kernel_rfl) rfl #[.string a0_0] rfl (by (try simp only [List.map_toArray,List.map_cons,List.map_nil]);first | done | rfl | (simp only [List.length_drop,List.length_take];rfl)) ?_;(with_reducible refine (tachographref01_Get.calls k a0_0 t237 t238 t239 _ A4.out).mono ?_);rintro e w' ⟨rfl,⟨nd,rfl⟩⟩;refine ⟨_,rfl,?_⟩))
  (try simp only [Act.put,List.setIfInBounds_toArray,List.set_cons_zero,List.set_cons_succ])
  go_cut [26] (fun v26 wc => ∃ (kq : Nat) (x26_4 : Bool),v26 = .bool x26_4 ∧ Aside0 (tachographref03_Cursor_Number.j0 kq t237 t238 t239 x26_4 a0_0 a0_1 a0_2 = some (r1,r2,r3,r4)) ∧ Aside0 (kq ≤ k) ∧ Aside0 (wc.heap[gb235]? = some (.cells #[.string a0_0,.int .i64 a0_1,.int .i64 a0_2] 59 (0,0))) ∧ Aside0 (wc.heap[gb236]? = some (.cells #[.string (⟨#[]⟩ : ByteArray),.int .i64 0,.int .i64 0] 59 (0,0))) ∧ Aside0 (Below w.heap.size w wc))
  case first =>
   have H:=HC5.out
   clear HC5
   by_cases c10 : t239 = 0
   ·rw [if_pos c10] at H
    have c10b0 : (t239 == 0) = true:=beq_iff_eq.mpr c10
    have c10b1 : (t239 != 0) = false:=bne_eq_false_iff_eq.mpr c10
    clear c10
    (first | rw [c10b0] | (simp only [i64_w,i32_w];rw [c10b0]) | skip)
    have H':=Aside0.mk H
    clear H
    go_wp2
    go_meet
    case rel => exact ⟨_,(decide (t237 > a1)),(by first | rfl | (simp;done) | (simp [*];done)),H',⟨by first | omega | exact Nat.le_refl _⟩,⟨by (with_reducible repeat (first | refine blk_drewN ?_ _ | refine blk_drew ?_ | refine blk_alloc ?_ _));exact BK235.out⟩,⟨by (with_reducible repeat (first | refine blk_drewN ?_ _ | refine blk_drew ?_ | refine blk_alloc ?_ _));exact BK236.out⟩,⟨by repeat (first | (with_reducible first | exact HB.out | apply below_alloc | apply pw_below_drewN | apply below_drew1 | refine below_set ?_ GE235.out | refine below_set ?_ GE236.out) | exact HB.out)⟩⟩
   ·rw [if_neg c10] at H
    have c10b0 : (t239 == 0) = false:=beq_eq_false_iff_ne.mpr c10
    have c10b1 : (t239 != 0) = true:=bne_iff_ne.mpr c10
    (first | rw [c10b0] | (simp only [i64_w,i32_w];rw [c10b0]) | skip)
    have H':=Aside0.mk H
    clear H
    go_wp2
    go_meet
    case rel => exact ⟨_,(false),(by first | rfl | (simp;done) | (simp [*];done)),H',⟨by first | omega | exact Nat.le_refl _⟩,⟨by (with_reducible repeat (first | refine blk_drewN ?_ _ | refine blk_drew ?_ | refine blk_alloc ?_ _));exact BK235.out⟩,⟨by (with_reducible repeat (first | refine blk_drewN ?_ _ | refine blk_drew ?_ | refine blk_alloc ?_ _));exact BK236.out⟩,⟨by repeat (first | (with_reducible first | exact HB.out | apply below_alloc | apply pw_below_drewN | apply below_drew1 | refine below_set ?_ GE235.out | refine below_set ?_ GE236.out) | exact HB.out)⟩⟩
  case rest =>
   clear HC5
   try clear c1
   try clear c2
   try clear p2
   try clear c3
   try clear c3b0
   try clear c3b1
   try clear c8
   try clear c10
   try clear c10b0
   try clear c10b1
   try clear hcz9_0
   try clear hcz9_1
   try clear hcz9_2
   try clear hfz9_0
   try clear hfz9_1
   try clear hfz9_2
   obtain ⟨kq,x26_4,rfl,HA,HJ4,BK235,BK236,HB⟩:=hcut
   cases kq with
   | zero => exact absurd HA.out (by simp [tachographref03_Cursor_Number.j0])
   | succ kj4 =>
    have H:=HA.out
    clear HA
    simp only [tachographref03_Cursor_Number.j0] at H
    have HC11:=Aside0.mk H
    clear H
    go_upto_if 26 with (fail)
    go_cut [8] (fun v8 wc => ∃ (kq : Nat) (x8_10 : Int),v8 = .int .i64 x8_10 ∧ Aside0 (tachographref03_Cursor_Number.j1 kq t237 t238 x8_10 a0_0 a0_1 a0_2 = some (r1,r2,r3,r4)) ∧ Aside0 (kq ≤ kj4) ∧ Aside0 (wc.heap[gb235]? = some (.cells #[.string a0_0,.int .i64 a0_1,.int .i64 a0_2] 59 (0,0))) ∧ Aside0 (wc.heap[gb236]? = some (.cells #[.string (⟨#[]⟩ : ByteArray),.int .i64 0,.int .i64 0] 59 (0,0))) ∧ Aside0 (Below w.heap.size w wc))
    case first =>
     have H:=HC11.out
     clear HC11
     by_cases c12 : x26_4 = true
     ·subst c12
      have H1 : (tachographref03_Cursor_Number.j1 kj4 t237 t238 6 a0_0 a0_1 a0_2) = some (r1,r2,r3,r4):=by rw [if_pos rfl] at H;exact H
      clear H
      have H:=H1
      clear H1
      have H':=Aside0.mk H
      clear H
      go_wp2
      go_meet
      case rel => exact ⟨_,(6),(by first | rfl | (simp;done) | (simp [*];done)),H',⟨by have:=HJ4.out;first | omega | exact Nat.le_refl _⟩,⟨by (with_reducible repeat (first | refine blk_drewN ?_ _ | refine blk_drew ?_ | refine blk_alloc ?_ _));exact BK235.out⟩,⟨by (with_reducible repeat (first | refine blk_drewN ?_ _ | refine blk_drew ?_ | refine blk_alloc ?_ _));exact BK236.out⟩,⟨by repeat (first | (with_reducible first | exact HB.out | apply below_alloc | apply pw_below_drewN | apply below_drew1 | refine below_set ?_ GE235.out | refine below_set ?_ GE236.out) | exact HB.out)⟩⟩
     ·replace c12:=Bool.eq_false_iff.mpr c12
      subst c12
      have H1 : (tachographref03_Cursor_Number.j1 kj4 t237 t238 t239 a0_0 a0_1 a0_2) = some (r1,r2,r3,r4):=by rw [if_neg (show ¬ (false = true) by decide)] at H;exact H
      clear H
      have H:=H1
      clear H1
      have H':=Aside0.mk H
      clear H
      go_wp2
      go_meet
      case rel => exact ⟨_,(t239),(by first | rfl | (simp;done) | (simp [*];done)),H',⟨by have:=HJ4.out;first | omega | exact Nat.le_refl _⟩,⟨by (with_reducible repeat (first | refine blk_drewN ?_ _ | refine blk_drew ?_ | refine blk_alloc ?_ _));exact BK235.out⟩,⟨by (with_reducible repeat (first | refine blk_drewN ?_ _ | refine blk_drew ?_ | refine blk_alloc ?_ _));exact BK236.out⟩,⟨by repeat (first | (with_reducible first | exact HB.out | apply below_alloc | apply pw_below_drewN | apply below_drew1 | refine below_set ?_ GE235.out | refine below_set ?_ GE236.out) | exact HB.out)⟩⟩
    case rest =>
     clear HC11
     try clear c1
     try clear c2
     try clear p2
     try clear c3
     try clear c3b0
     try clear c3b1
     try clear c8
     try clear c10
     try clear c10b0
     try clear c10b1
     try clear c12
     try clear hcz9_0
     try clear hcz9_1
     try clear hcz9_2
     try clear hfz9_0
     try clear hfz9_1
     try clear hfz9_2
     try clear p2
     obtain ⟨kq,x8_10,rfl,HA,HJ10,BK235,BK236,HB⟩:=hcut
     cases kq with
     | zero => exact absurd HA.out (by simp [tachographref03_Cursor_Number.j1])
     | succ kj10 =>
      have H:=HA.out
      clear HA
      simp only [tachographref03_Cursor_Number.j1] at H
      by_cases c13 : x8_10 = 0
      ·rw [if_pos c13] at H
       have c13b0 : (x8_10 == 0) = true:=beq_iff_eq.mpr c13
       have c13b1 : (x8_10 != 0) = false:=bne_eq_false_iff_eq.mpr c13
       clear c13
       replace H:=Option.bind_eq_some_iff.mp H
       obtain ⟨⟨t240,t241,t242⟩,A140,H⟩:=H
       replace H : (some (t240,t241,t242,t237)) = some (r1,r2,r3,r4):=H
       have A14:=Aside0.mk A140
       clear A140
       simp only [Option.some.injEq,Prod.mk.injEq] at H
       obtain ⟨rfl,rfl,rfl,rfl⟩:=H
       have hnb15:=NB235_236.out
       have hnc15:=NB236_235.out
       have hcz16_0 : wc.cell? ⟨gb235,0,none⟩ = some (.string a0_0):=(blk_cell BK235.out 0).trans rfl
       have hcz16_1 : wc.cell? ⟨gb235,1,none⟩ = some (.int .i64 a0_1):=(blk_cell BK235.out 1).trans rfl
       have hcz16_2 : wc.cell? ⟨gb235,2,none⟩ = some (.int .i64 a0_2):=(blk_cell BK235.out 2).trans rfl
       have hfz16_0:=blk_frozen BK235.out 0
       have hfz16_1:=blk_frozen BK235.out 1
       have hfz16_2:=blk_frozen BK235.out 2
       go_wp2_with (first | ((with_reducible refine gate_callee (f:=63) rfl ?_);refine goesL_ (some 34) rfl rfl Try.func63 (by kernel_rfl) rfl #[.agg #[.string a0_0,.int .i64 a0_1,.int .i64 a0_2],.int .i64 t238,.int .i64 0] rfl (by (try simp only [List.map_toArray,List.map_cons,List.map_nil]);first | done | rfl | (simp only [List.length_drop,List.length_take];rfl)) ?_;(with_reducible refine (tachographref03_Cursor_on.calls a0_0 a0_1 a0_2 t238 0 t240 t241 t242 _ A14.out).mono ?_);rintro e w17 ⟨rfl,hb⟩;refine ⟨_,rfl,?_⟩;have n0_:=Aside0.mk (blk_below (g:=gb235) (o:=.cells #[.string a0_0,.int .i64 a0_1,.int .i64 a0_2] 59 (0,0)) (by (with_reducible repeat (first | refine blk_drewN ?_ _ | refine blk_drew ?_ | refine blk_alloc ?_ _));exact BK235.out) hb);have n1_:=Aside0.mk (blk_below (g:=gb236) (o:=.cells #[.string (⟨#[]⟩ : ByteArray),.int .i64 0,.int .i64 0] 59 (0,0)) (by (with_reducible repeat (first | refine blk_drewN ?_ _ | refine blk_drew ?_ | refine blk_alloc ?_ _));exact BK236.out) hb);have n2_:=Aside0.mk (below_step (by repeat (first | (with_reducible first | exact HB.out | apply below_alloc | apply pw_below_drewN | apply below_drew1 | refine below_set ?_ GE235.out | refine below_set ?_ GE236.out) | exact HB.out)) hb);clear BK235;clear BK236;clear HB;have BK235:=n0_;have BK236:=n1_;have HB:=n2_;clear n0_ n1_ n2_;(try clear hb);(try clear hb2);(try clear hk);(try clear hi);have hcz18_0 : w17.cell? ⟨gb236,0,none⟩ = some (.string (⟨#[]⟩ : ByteArray)):=(blk_cell BK236.out 0).trans rfl;have hcz18_1 : w17.cell? ⟨gb236,1,none⟩ = some (.int .i64 0):=(blk_cell BK236.out 1).trans rfl;have hcz18_2 : w17.cell? ⟨gb236,2,none⟩ = some (.int .i64 0):=(blk_cell BK236.out 2).trans rfl;have hfz18_0:=blk_frozen BK236.out 0;have hfz18_1:=blk_frozen BK236.out 1;have hfz18_2:=blk_frozen BK236.out 2))
       refine bodyPost_ret (results_ct rfl _ _ gb236 59 #[.string t240,.int .i64 t241,.int .i64 t242] (0,0) _ rfl (by (with_reducible repeat (first | refine blk_drewN ?_ _ | refine blk_drew ?_ | refine blk_alloc ?_ _));refine blk_put (cs:=#[.string t240,.int .i64 t241,.int .i64 0]) ?_ 2 _ rfl;(with_reducible repeat (first | refine blk_drewN ?_ _ | refine blk_drew ?_ | refine blk_alloc ?_ _));refine blk_put (cs:=#[.string t240,.int .i64 0,.int .i64 0]) ?_ 1 _ rfl;(with_reducible repeat (first | refine blk_drewN ?_ _ | refine blk_drew ?_ | refine blk_alloc ?_ _));refine blk_put (cs:=#[.string (⟨#[]⟩ : ByteArray),.int .i64 0,.int .i64 0]) ?_ 0 _ rfl;(with_reducible repeat (first | refine blk_drewN ?_ _ | refine blk_drew ?_ | refine blk_alloc ?_ _));exact BK236.out) Try.underlying59 rfl (by kernel_rfl)) rfl ?_
       exact ⟨by first | rfl | (simp [errW_none,errW_some] <;> rfl) | (simp [*,errW_none,errW_some] <;> rfl),by repeat (first | (with_reducible first | exact HB.out | apply below_alloc | apply pw_below_drewN | apply below_drew1 | refine below_set ?_ GE235.out | refine below_set ?_ GE236.out) | exact HB.out)⟩
      ·rw [if_neg c13] at H
       have c13b0 : (x8_10 == 0) = false:=beq_eq_false_iff_ne.mpr c13
       have c13b1 : (x8_10 != 0) = true:=bne_iff_ne.mpr c13
       replace H:=Option.bind_eq_some_iff.mp H
       obtain ⟨⟨t243,t244,t245⟩,A190,H⟩:=H
       replace H : (some (t243,t244,t245,0)) = some (r1,r2,r3,r4):=H
       have A19:=Aside0.mk A190
       clear A190
       simp only [Option.some.injEq,Prod.mk.injEq] at H
       obtain ⟨rfl,rfl,rfl,rfl⟩:=H
       have hnb20:=NB235_236.out
       have hnc20:=NB236_235.out
       have hcz21_0 : wc.cell? ⟨gb235,0,none⟩ = some (.string a0_0):=(blk_cell BK235.out 0).trans rfl
       have hcz21_1 : wc.cell? ⟨gb235,1,none⟩ = some (.int .i64 a0_1):=(blk_cell BK235.out 1).trans rfl
       have hcz21_2 : wc.cell? ⟨gb235,2,none⟩ = some (.int .i64 a0_2):=(blk_cell BK235.out 2).trans rfl
       have hfz21_0:=blk_frozen BK235.out 0
       have hfz21_1:=blk_frozen BK235.out 1
       have hfz21_2:=blk_frozen BK235.out 2
       go_wp2_with (first | ((with_reducible refine gate_callee (f:=63) rfl ?_);refine goesL_ (some 31) rfl rfl Try.func63 (by kernel_rfl) rfl #[.agg #[.string a0_0,.int .i64 a0_1,.int .i64 a0_2],.int .i64 0,.int .i64 x8_10] rfl (by (try simp only [List.map_toArray,List.map_cons,List.map_nil]);first | done | rfl | (simp only [List.length_drop,List.length_take];rfl)) ?_;(with_reducible refine (tachographref03_Cursor_on.calls a0_0 a0_1 a0_2 0 x8_10 t243 t244 t245 _ A19.out).mono ?_);rintro e w22 ⟨rfl,hb⟩;refine ⟨_,rfl,?_⟩;have n0_:=Aside0.mk (blk_below (g:=gb235) (o:=.cells #[.string a0_0,.int .i64 a0_1,.int .i64 a0_2] 59 (0,0)) (by (with_reducible repeat (first | refine blk_drewN ?_ _ | refine blk_drew ?_ | refine blk_alloc ?_ _));exact BK235.out) hb);have n1_:=Aside0.mk (blk_below (g:=gb236) (o:=.cells #[.string (⟨#[]⟩ : ByteArray),.int .i64 0,.int .i64 0] 59 (0,0)) (by (with_reducible repeat (first | refine blk_drewN ?_ _ | refine blk_drew ?_ | refine blk_alloc ?_ _));exact BK236.out) hb);have n2_:=Aside0.mk (below_step (by repeat (first | (with_reducible first | exact HB.out | apply below_alloc | apply pw_below_drewN | apply below_drew1 | refine below_set ?_ GE235.out | refine below_set ?_ GE236.out) | exact HB.out)) hb);clear BK235;clear BK236;clear HB;have BK235:=n0_;have BK236:=n1_;have HB:=n2_;clear n0_ n1_ n2_;(try clear hb);(try clear hb2);(try clear hk);(try clear hi);have hcz23_0 : w22.cell? ⟨gb236,0,none⟩ = some (.string (⟨#[]⟩ : ByteArray)):=(blk_cell BK236.out 0).trans rfl;have hcz23_1 : w22.cell? ⟨gb236,1,none⟩ = some (.int .i64 0):=(blk_cell BK236.out 1).trans rfl;have hcz23_2 : w22.cell? ⟨gb236,2,none⟩ = some (.int .i64 0):=(blk_cell BK236.out 2).trans rfl;have hfz23_0:=blk_frozen BK236.out 0;have hfz23_1:=blk_frozen BK236.out 1;have hfz23_2:=blk_frozen BK236.out 2))
       refine bodyPost_ret (results_ct rfl _ _ gb236 59 #[.string t243,.int .i64 t244,.int .i64 t245] (0,0) _ rfl (by (with_reducible repeat (first | refine blk_drewN ?_ _ | refine blk_drew ?_ | refine blk_alloc ?_ _));refine blk_put (cs:=#[.string t243,.int .i64 t244,.int .i64 0]) ?_ 2 _ rfl;(with_reducible repeat (first | refine blk_drewN ?_ _ | refine blk_drew ?_ | refine blk_alloc ?_ _));refine blk_put (cs:=#[.string t243,.int .i64 0,.int .i64 0]) ?_ 1 _ rfl;(with_reducible repeat (first | refine blk_drewN ?_ _ | refine blk_drew ?_ | refine blk_alloc ?_ _));refine blk_put (cs:=#[.string (⟨#[]⟩ : ByteArray),.int .i64 0,.int .i64 0]) ?_ 0 _ rfl;(with_reducible repeat (first | refine blk_drewN ?_ _ | refine blk_drew ?_ | refine blk_alloc ?_ _));exact BK236.out) Try.underlying59 rfl (by kernel_rfl)) rfl ?_
       exact ⟨by first | rfl | (simp [errW_none,errW_some] <;> rfl) | (simp [*,errW_none,errW_some] <;> rfl),by repeat (first | (with_reducible first | exact HB.out | apply below_alloc | apply pw_below_drewN | apply below_drew1 | refine below_set ?_ GE235.out | refine below_set ?_ GE236.out) | exact HB.out)⟩
 ·rw [if_neg c3] at H
  have c3b0 : (a0_2 == 0) = false:=beq_eq_false_iff_ne.mpr c3
  have c3b1 : (a0_2 != 0) = true:=bne_iff_ne.mpr c3
  simp only [Option.some.injEq,Prod.mk.injEq] at H
  obtain ⟨rfl,rfl,rfl,rfl⟩:=H
  go_enter Try.func37,Try.ntmps37
  go_wp2_with (first | ((with_reducible refine gate_dst (N:=2) rfl ?_);refine box_event ?hg (N:=2) ?hd (cs:=#[.string a0_0,.int .i64 a0_1,.int .i64 a0_2]) (t:=59) ?hr ?_;(case hd => rfl);(case hg => rfl);(case hr => first | (go_simp;done) | (go_simp;rfl));intro gb235 hg w24 hbox hb;have n0_:=Aside0.mk (below_step (by repeat (first | (with_reducible first | exact HB.out | apply below_alloc | apply pw_below_drewN | apply below_drew1) | exact HB.out)) hb);have n1_:=Aside0.mk (hbox);have n2_:=Aside0.mk ((by rw [hg];exact (below_size (by repeat (first | (with_reducible first | exact HB.out | apply below_alloc | apply pw_below_drewN | apply below_drew1) | exact HB.out))) : w.heap.size ≤ gb235));have n3_:=Aside0.mk ((by rw [hg];exact (below_size (by repeat (first | (with_reducible first | exact HB.out | apply below_alloc | apply pw_below_drewN | apply below_drew1) | exact HB.out))) : w.heap.size ≤ gb235));clear HB;have HB:=n0_;have BK235:=n1_;have GW235:=n2_;have GE235:=n3_;clear n0_ n1_ n2_ n3_;clear hb hbox hg) | ((with_reducible refine gate_dst (N:=4) rfl ?_);refine box_event ?hg (N:=4) ?hd (cs:=#[.string (⟨#[]⟩ : ByteArray),.int .i64 0,.int .i64 0]) (t:=59) ?hr ?_;(case hd => rfl);(case hg => rfl);(case hr => first | (go_simp;done) | (go_simp;rfl));intro gb236 hg w25 hbox hb;have n0_:=Aside0.mk (blk_below (g:=gb235) (o:=.cells #[.string a0_0,.int .i64 a0_1,.int .i64 a0_2] 59 (0,0)) (by (with_reducible repeat (first | refine blk_drewN ?_ _ | refine blk_drew ?_ | refine blk_alloc ?_ _));exact BK235.out) hb);have n1_:=Aside0.mk (below_step (by repeat (first | (with_reducible first | exact HB.out | apply below_alloc | apply pw_below_drewN | apply below_drew1 | refine below_set ?_ GE235.out) | exact HB.out)) hb);have n2_:=Aside0.mk (hbox);have n3_:=Aside0.mk ((by rw [hg];exact (below_size (by repeat (first | (with_reducible first | exact HB.out | apply below_alloc | apply pw_below_drewN | apply below_drew1 | refine below_set ?_ GE235.out) | exact HB.out))) : w.heap.size ≤ gb236));have n4_:=Aside0.mk ((by rw [hg];exact (below_size (by repeat (first | (with_reducible first | exact HB.out | apply below_alloc | apply pw_below_drewN | apply below_drew1 | refine below_set ?_ GE235.out) | exact HB.out))) : w.heap.size ≤ gb236));have n5_:=Aside0.mk ((by rw [hg];exact Nat.ne_of_lt (blk_lt (g:=gb235) (o:=.cells #[.string a0_0,.int .i64 a0_1,.int .i64 a0_2] 59 (0,0)) (by (with_reducible repeat (first | refine blk_drewN ?_ _ | refine blk_drew ?_ | refine blk_alloc ?_ _));exact BK235.out)) : gb235 ≠ gb236));have n6_:=Aside0.mk ((by rw [hg];exact Nat.ne_of_gt (blk_lt (g:=gb235) (o:=.cells #[.string a0_0,.int .i64 a0_1,.int .i64 a0_2] 59 (0,0)) (by (with_reducible repeat (first | refine blk_drewN ?_ _ | refine blk_drew ?_ | refine blk_alloc ?_ _));exact BK235.out)) : gb236 ≠ gb235));clear BK235;clear HB;have BK235:=n0_;have HB:=n1_;have BK236:=n2_;have GW236:=n3_;have GE236:=n4_;have NB235_236:=n5_;have NB236_235:=n6_;clear n0_ n1_ n2_ n3_ n4_ n5_ n6_;clear hb hbox hg;have hnb26:=NB235_236.out;have hnc26:=NB236_235.out;have hcz27_0 : w25.cell? ⟨gb235,0,none⟩ = some (.string a0_0):=(blk_cell BK235.out 0).trans rfl;have hcz27_1 : w25.cell? ⟨gb235,1,none⟩ = some (.int .i64 a0_1):=(blk_cell BK235.out 1).trans rfl;have hcz27_2 : w25.cell? ⟨gb235,2,none⟩ = some (.int .i64 a0_2):=(blk_cell BK235.out 2).trans rfl;have hfz27_0:=blk_frozen BK235.out 0;have hfz27_1:=blk_frozen BK235.out 1;have hfz27_2:=blk_frozen BK235.out 2;have hcz28_0 : w25.cell? ⟨gb236,0,none⟩ = some (.string (⟨#[]⟩ : ByteArray)):=(blk_cell BK236.out 0).trans rfl;have hcz28_1 : w25.cell? ⟨gb236,1,none⟩ = some (.int .i64 0):=(blk_cell BK236.out 1).trans rfl;have hcz28_2 : w25.cell? ⟨gb236,2,none⟩ = some (.int .i64 0):=(blk_cell BK236.out 2).trans rfl;have hfz28_0:=blk_frozen BK236.out 0;have hfz28_1:=blk_frozen BK236.out 1;have hfz28_2:=blk_frozen BK236.out 2))
  refine bodyPost_ret (results_ct rfl _ _ gb236 59 #[.string a0_0,.int .i64 a0_1,.int .i64 a0_2] (0,0) _ rfl (by (with_reducible repeat (first | refine blk_drewN ?_ _ | refine blk_drew ?_ | refine blk_alloc ?_ _));refine blk_put (cs:=#[.string a0_0,.int .i64 a0_1,.int .i64 0]) ?_ 2 _ rfl;(with_reducible repeat (first | refine blk_drewN ?_ _ | refine blk_drew ?_ | refine blk_alloc ?_ _));refine blk_put (cs:=#[.string a0_0,.int .i64 0,.int .i64 0]) ?_ 1 _ rfl;(with_reducible repeat (first | refine blk_drewN ?_ _ | refine blk_drew ?_ | refine blk_alloc ?_ _));refine blk_put (cs:=#[.string (⟨#[]⟩ : ByteArray),.int .i64 0,.int .i64 0]) ?_ 0 _ rfl;(with_reducible repeat (first | refine blk_drewN ?_ _ | refine blk_drew ?_ | refine blk_alloc ?_ _));exact BK236.out) Try.underlying59 rfl (by kernel_rfl)) rfl ?_
  exact ⟨by first | rfl | (simp [errW_none,errW_some] <;> rfl) | (simp [*,errW_none,errW_some] <;> rfl),by repeat (first | (with_reducible first | exact HB.out | apply below_alloc | apply pw_below_drewN | apply below_drew1 | refine below_set ?_ GE235.out | refine below_set ?_ GE236.out) | exact HB.out)⟩

/-! ### cursor_take_uint64: function 66 -/
section
open Go.Proofs.YtjfklfmfeghjnaaAid

def cursor_take_u64.T4 : Bool × List (List Nat × List Nat) := (true, [([], []), ([], []), ([1], [1]), ([2], [2]), ([3], [3]), ([], []), ([5], [5]), ([6], [6]), ([7], [7]), ([4, 8], [4, 8]), ([9], [9]), ([0, 10], [0, 10]), ([11], [11]), ([12], [12]), ([12], [12]), ([12], [12]), ([13, 11, 0, 1, 2, 3, 4, 5, 6, 7, 8, 9, 10, 11, 12, 13], [13]), ([14, 16, 0, 1, 2, 3, 4, 5, 6, 7, 8, 9, 10, 11, 12, 13, 14, 16], [14]), ([15, 17, 0, 1, 2, 3, 4, 5, 6, 7, 8, 9, 10, 11, 12, 13, 14, 15, 16, 17], [15])])
def cursor_take_u64.B4 : List Nat := [0, 0, 2, 6, 14, 0, 32, 96, 224, 510, 1022, 2047, 4095, 8191, 8191, 8191, 16383, 98303, 262143]
theorem cursor_take_u64.tab4 : rtab .any (opsOf Try.f66 4) = cursor_take_u64.T4 := by kernel_rfl
theorem cursor_take_u64.bits4 : waitsOk cursor_take_u64.T4.2 cursor_take_u64.B4 = true := by kernel_rfl
set_option maxHeartbeats 8000000 in
set_option maxRecDepth 100000 in
theorem cursor_take_u64.gen (G : FuncId) (fnG : Func) (hfG : Try.prog.funcs[G]? = some fnG) (hnG : (fnG.name == "runtime.NumGoroutine") = false) (hbG : fnG.body.isSome = true) (caps : Array Value) (get : List Int → Option (Int × Int × Int)) (g : Nat) (s0_0 : ByteArray) (s0_1 : Int) (s0_2 : Int) (r1 : Int) (r2 : ByteArray) (r3 : Int) (r4 : Int) (w0 w : World) (hI : IsS102 w0 w g s0_0 s0_1 s0_2) (hB : Below w0.heap.size w0 w)
    (hget : ∀ (y : List Int) (t : Int) (n e : Int), get y = some (t, n, e) → ∀ (A : Option Addr) (c : Nat) (w1 : World), KeepBut w w1 g none → (Kd.int .u8).C w1 A y.length y → y.length ≤ c → Calls Try.prog G (#[.slice A y.length c] ++ caps) w1 fun e_ w' => e_ = .returned (.tuple #[.int .u64 t, .int .i64 n, .int .i64 e]) ∧ Below w1.heap.size w1 w')
    (h : cursor_take_out (0 : Int) s0_0 s0_1 s0_2 get = some (r1, r2, r3, r4)) :
    Calls Try.prog 66 #[.pointer (some ⟨g, 0, none⟩), .func (.func G) #[] caps] w fun e w' => e = .returned (.int .u64 r1) ∧ IsS102 w0 w' g r2 r3 r4 ∧ Below w0.heap.size w0 w' ∧ KeepBut w w' g none := by
  have HI0 := Aside0.mk hI
  have HK := Aside0.mk (KeepBut.refl w g none)
  have HW0 := Aside0.mk hB.size
  have HB := Aside0.mk hB
  clear hB hI
  unfold cursor_take_out at h
  have H := h
  clear h
  by_cases c3 : s0_2 = 0
  · rw [if_pos c3] at H
    have c3b0 : (s0_2 == 0) = true := beq_iff_eq.mpr c3
    have c3b1 : (s0_2 != 0) = false := bne_eq_false_iff_eq.mpr c3
    clear c3
    by_cases c4 : 0 ≤ s0_1
    · rw [if_pos c4] at H
      have c4b0 := eq_true c4
      have c4b1 : decide (0 ≤ s0_1) = true := decide_eq_true c4
      clear c4
      by_cases c5 : s0_1 ≤ (s0_0.size : Int)
      · rw [if_pos c5] at H
        have c5b0 := eq_true c5
        have c5b1 : decide (s0_1 ≤ (s0_0.size : Int)) = true := decide_eq_true c5
        clear c5
        by_cases c6 : (s0_0.extract (s0_1 : Int).toNat s0_0.size).size ≤ 9223372036854775807
        · rw [if_pos c6] at H
          have c6b1 : decide ((s0_0.extract (s0_1 : Int).toNat s0_0.size).size ≤ 9223372036854775807) = true := decide_eq_true c6
          clear c6
          obtain ⟨y106, hy106⟩ : ∃ y_ : List Int, y_ = (bytesOf (s0_0.extract (s0_1 : Int).toNat s0_0.size)) := ⟨_, rfl⟩
          rw [← hy106] at H
          have Ny106 := Aside0.mk hy106
          clear hy106
          replace H := Option.bind_eq_some_iff.mp H
          obtain ⟨⟨t107, t108, t109⟩, A70, H⟩ := H
          have A7 := Aside0.mk A70
          clear A70
          dsimp only at H
          obtain ⟨HGz, hgz⟩ := HI0.out
          have hcz_0 := cellS102_0 HGz
          have hcz_1 := cellS102_1 HGz
          have hcz_2 := cellS102_2 HGz
          have hfz_0 := blk_frozen HGz 0
          have hfz_1 := blk_frozen HGz 1
          have hfz_2 := blk_frozen HGz 2
          clear HGz hgz
          go_enter Try.func66, Try.ntmps66
          go_wp2
          have n0_ := Aside0.mk (IsS102.drew HI0.out)
          have n1_ := Aside0.mk (keep_drew HK.out)
          have n2_ := Aside0.mk (below_drew1 HB.out)
          clear HI0 HK HB hcz_0 hcz_1 hcz_2 hfz_0 hfz_1 hfz_2
          have HI0 := n0_
          have HK := n1_
          have HB := n2_
          clear n0_ n1_ n2_
          refine start_ (n := 19) (S := fun w' => w'.cell? ⟨g, 0, none⟩ = some (.string s0_0) ∧ w'.cell? ⟨g, 1, none⟩ = some (.int .i64 s0_1)) (ds := []) #[false, false, false, false, false, false, false, false, false, false, false, false, false, false, false, false, false, false, false] (by kernel_rfl) rfl rfl ⟨(cellS102_0 HI0.out.1), (cellS102_1 HI0.out.1)⟩ (fun hHeld => ?_)
          refine with_tabW cursor_take_u64.tab4 cursor_take_u64.bits4 (fun HT_ HW_ => ?_)
          generalize w.drew = w4 at HI0 HK HB hHeld ⊢
          refine pure_ (i := 0) (N := some 16) (v := ?_) (a' := ?_) #[true, false, false, false, false, false, false, false, false, false, false, false, false, false, false, false, false, false, false] rfl rfl (any_of HT_.out (by kernel_rfl)) (fun _ _ _ h => h) (Or.inl ⟨by rfl, ?_⟩) ?_ ?_
          rotate_left
          · intro w'
            go_simp
            with_reducible rfl
          rotate_left
          · simp only [Act.put, List.setIfInBounds_toArray, List.set_cons_zero, List.set_cons_succ, i64_w, i32_w]
            rfl
          refine pure_ (i := 1) (N := some 17) (v := ?_) (a' := ?_) #[true, true, false, false, false, false, false, false, false, false, false, false, false, false, false, false, false, false, false] rfl rfl (any_of HT_.out (by kernel_rfl)) (fun _ _ _ h => h) (Or.inl ⟨by rfl, ?_⟩) ?_ ?_
          rotate_left
          · intro w'
            go_simp
            with_reducible rfl
          rotate_left
          · simp only [Act.put, List.setIfInBounds_toArray, List.set_cons_zero, List.set_cons_succ, i64_w, i32_w]
            rfl
          refine pure_ (i := 2) (N := some 18) (v := ?_) (a' := ?_) #[true, true, true, false, false, false, false, false, false, false, false, false, false, false, false, false, false, false, false] rfl rfl (any_of HT_.out (by kernel_rfl)) (fun _ _ _ h => h) (Or.inl ⟨by rfl, ?_⟩) ?_ ?_
          rotate_left
          · intro w'
            go_simp
            with_reducible rfl
          rotate_left
          · simp only [Act.put, List.setIfInBounds_toArray, List.set_cons_zero, List.set_cons_succ, i64_w, i32_w]
            rfl
          refine pure_ (i := 3) (N := some 19) (v := ?_) (a' := ?_) #[true, true, true, true, false, false, false, false, false, false, false, false, false, false, false, false, false, false, false] rfl rfl (any_of HT_.out (by kernel_rfl)) (fun _ _ _ h => h) (Or.inl ⟨by rfl, ?_⟩) ?_ ?_
          rotate_left
          · intro w'
            go_simp
            with_reducible rfl
          rotate_left
          · simp only [Act.put, List.setIfInBounds_toArray, List.set_cons_zero, List.set_cons_succ, i64_w, i32_w]
            rfl
          refine pure_ (i := 5) (N := some 21) (v := ?_) (a' := ?_) #[true, true, true, true, false, true, false, false, false, false, false, false, false, false, false, false, false, false, false] rfl rfl (any_of HT_.out (by kernel_rfl)) (fun _ _ _ h => h) (Or.inl ⟨by rfl, ?_⟩) ?_ ?_
          rotate_left
          · intro w'
            go_simp
            with_reducible rfl
          rotate_left
          · simp only [Act.put, List.setIfInBounds_toArray, List.set_cons_zero, List.set_cons_succ, i64_w, i32_w]
            rfl
          refine pure_ (i := 6) (N := some 22) (v := ?_) (a' := ?_) #[true, true, true, true, false, true, true, false, false, false, false, false, false, false, false, false, false, false, false] rfl rfl (any_of HT_.out (by kernel_rfl)) (fun _ _ _ h => h) (Or.inl ⟨by rfl, ?_⟩) ?_ ?_
          rotate_left
          · intro w'
            go_simp
            with_reducible rfl
          rotate_left
          · simp only [Act.put, List.setIfInBounds_toArray, List.set_cons_zero, List.set_cons_succ, i64_w, i32_w]
            rfl
          refine pure_ (i := 7) (N := some 23) (v := ?_) (a' := ?_) #[true, true, true, true, false, true, true, true, false, false, false, false, false, false, false, false, false, false, false] rfl rfl (any_of HT_.out (by kernel_rfl)) (fun _ _ _ h => h) (Or.inl ⟨by rfl, ?_⟩) ?_ ?_
          rotate_left
          · intro w'
            go_simp
            with_reducible rfl
          rotate_left
          · simp only [Act.put, List.setIfInBounds_toArray, List.set_cons_zero, List.set_cons_succ, i64_w, i32_w]
            rfl
          refine take_ (i := 4) (N := some 20) (v := ?_) (a' := ?_) #[true, true, true, true, true, true, true, true, false, false, false, false, false, false, false, false, false, false, false] rfl rfl (take_ofW HT_.out HW_.out (by kernel_rfl)) (fun _ _ _ h => h) (Or.inl ⟨by rfl, ?_⟩) hHeld ?_ ?_
          rotate_left
          · rintro w' ⟨s0, s1⟩
            go_simp
            with_reducible rfl
          rotate_left
          · simp only [Act.put, List.setIfInBounds_toArray, List.set_cons_zero, List.set_cons_succ, i64_w, i32_w]
            rfl
          refine take_ (i := 8) (N := some 24) (v := ?_) (a' := ?_) #[true, true, true, true, true, true, true, true, true, false, false, false, false, false, false, false, false, false, false] rfl rfl (take_ofW HT_.out HW_.out (by kernel_rfl)) (fun _ _ _ h => h) (Or.inl ⟨by rfl, ?_⟩) hHeld ?_ ?_
          rotate_left
          · rintro w' ⟨s0, s1⟩
            go_simp
            with_reducible rfl
          rotate_left
          · simp only [Act.put, List.setIfInBounds_toArray, List.set_cons_zero, List.set_cons_succ, i64_w, i32_w]
            rfl
          refine pure_ (i := 9) (N := some 25) (v := ?_) (a' := ?_) #[true, true, true, true, true, true, true, true, true, true, false, false, false, false, false, false, false, false, false] rfl rfl (any_of HT_.out (by kernel_rfl)) (fun _ _ _ h => h) (Or.inl ⟨by rfl, ?_⟩) ?_ ?_
          rotate_left
          · intro w'
            go_simp
            with_reducible rfl
          rotate_left
          · simp only [Act.put, List.setIfInBounds_toArray, List.set_cons_zero, List.set_cons_succ, i64_w, i32_w]
            rfl
          refine one_ (i := 10) (N := some 26) #[true, true, true, true, true, true, true, true, true, true, true, false, false, false, false, false, false, false, false] rfl rfl (one_of HT_.out (by kernel_rfl)) (by decide) (fun K hK => ?_)
          refine conv_bytes_step _ (by rfl) (N := 26) rfl 9 27 5 _ rfl (s0_0.extract (s0_1 : Int).toNat s0_0.size) Try.underlying9 Try.underlying27 Try.underlying5 rfl (of_decide_eq_true c6b1) (Below.refl _ _) (Nat.le_refl _) ?_
          intro A105 c105 n105_ w10 hn_ hs_ hc_ hb hg_
          clear hg_
          obtain rfl : n105_ = y106.length := (by rw [hn_, Ny106.out])
          rw [← Ny106.out] at hs_
          have n0_ := Aside0.mk (IsS102.below HI0.out hb)
          have n1_ := Aside0.mk (KeepBut.trans HK.out (KeepBut.of_below hb g none) (.inl rfl))
          have n2_ := Aside0.mk (below_step HB.out hb)
          clear HI0 HK HB
          have HI0 := n0_
          have HK := n1_
          have HB := n2_
          clear n0_ n1_ n2_
          have HR105 := Aside0.mk hs_
          have HC105 := Aside0.mk hc_
          clear hb hs_ hc_ hn_
          refine hK.out _ _ ⟨(cellS102_0 HI0.out.1), (cellS102_1 HI0.out.1)⟩ (fun hHeld => ?_)
          clear hK K
          refine norm_ (a' := ?_) ?_ ?_
          rotate_left
          · show Act.put _ (some 26) _ = _
            simp only [Act.put, List.setIfInBounds_toArray, List.set_cons_zero, List.set_cons_succ, i64_w, i32_w]
            rfl
          refine one_ (i := 11) (N := some 27) #[true, true, true, true, true, true, true, true, true, true, true, true, false, false, false, false, false, false, false] rfl rfl (one_of HT_.out (by kernel_rfl)) (by decide) (fun K hK => ?_)
          refine goesVs_ hfG hnG hbG #[.slice A105 y106.length c105] caps _ (by rfl) rfl rfl rfl (by simp only [List.map_toArray, List.map_cons, List.map_nil]; rfl) ?_
          refine (hget _ _ _ _ A7.out _ _ _ HK.out HR105.out HC105.out).mono ?_
          rintro e w11 ⟨rfl, hb⟩
          refine ⟨_, rfl, ?_⟩
          have n0_ := Aside0.mk (IsS102.below HI0.out hb)
          have n1_ := Aside0.mk (KeepBut.trans HK.out (KeepBut.of_below hb g none) (.inl rfl))
          have n2_ := Aside0.mk (below_step HB.out hb)
          clear HI0 HK HB
          have HI0 := n0_
          have HK := n1_
          have HB := n2_
          clear n0_ n1_ n2_
          clear hb
          refine hK.out _ _ ⟨(cellS102_0 HI0.out.1), (cellS102_1 HI0.out.1)⟩ (fun hHeld => ?_)
          clear hK K
          refine norm_ (a' := ?_) ?_ ?_
          rotate_left
          · show Act.put _ (some 27) _ = _
            simp only [Act.put, List.setIfInBounds_toArray, List.set_cons_zero, List.set_cons_succ, i64_w, i32_w]
            rfl
          refine pure_ (i := 12) (N := some 15) (v := ?_) (a' := ?_) #[true, true, true, true, true, true, true, true, true, true, true, true, true, false, false, false, false, false, false] rfl rfl (any_of HT_.out (by kernel_rfl)) (fun _ _ _ h => h) (Or.inl ⟨by rfl, ?_⟩) ?_ ?_
          rotate_left
          · intro w'
            go_simp
            with_reducible rfl
          rotate_left
          · simp only [Act.put, List.setIfInBounds_toArray, List.set_cons_zero, List.set_cons_succ, i64_w, i32_w]
            rfl
          refine pure_ (i := 13) (N := some 28) (v := ?_) (a' := ?_) #[true, true, true, true, true, true, true, true, true, true, true, true, true, true, false, false, false, false, false] rfl rfl (any_of HT_.out (by kernel_rfl)) (fun _ _ _ h => h) (Or.inl ⟨by rfl, ?_⟩) ?_ ?_
          rotate_left
          · intro w'
            go_simp
            with_reducible rfl
          rotate_left
          · simp only [Act.put, List.setIfInBounds_toArray, List.set_cons_zero, List.set_cons_succ, i64_w, i32_w]
            rfl
          refine pure_ (i := 14) (N := some 29) (v := ?_) (a' := ?_) #[true, true, true, true, true, true, true, true, true, true, true, true, true, true, true, false, false, false, false] rfl rfl (any_of HT_.out (by kernel_rfl)) (fun _ _ _ h => h) (Or.inl ⟨by rfl, ?_⟩) ?_ ?_
          rotate_left
          · intro w'
            go_simp
            with_reducible rfl
          rotate_left
          · simp only [Act.put, List.setIfInBounds_toArray, List.set_cons_zero, List.set_cons_succ, i64_w, i32_w]
            rfl
          refine pure_ (i := 15) (N := some 30) (v := ?_) (a' := ?_) #[true, true, true, true, true, true, true, true, true, true, true, true, true, true, true, true, false, false, false] rfl rfl (any_of HT_.out (by kernel_rfl)) (fun _ _ _ h => h) (Or.inl ⟨by rfl, ?_⟩) ?_ ?_
          rotate_left
          · intro w'
            go_simp
            with_reducible rfl
          rotate_left
          · simp only [Act.put, List.setIfInBounds_toArray, List.set_cons_zero, List.set_cons_succ, i64_w, i32_w]
            rfl
          refine pure_ (i := 16) (N := some 6) (v := ?_) (a' := ?_) #[true, true, true, true, true, true, true, true, true, true, true, true, true, true, true, true, true, false, false] rfl rfl (any_of HT_.out (by kernel_rfl)) (fun _ _ _ h => h) (Or.inl ⟨by rfl, ?_⟩) ?_ ?_
          rotate_left
          · intro w'
            go_simp
            with_reducible rfl
          rotate_left
          · simp only [Act.put, List.setIfInBounds_toArray, List.set_cons_zero, List.set_cons_succ, i64_w, i32_w]
            rfl
          refine pure_ (i := 17) (N := some 7) (v := ?_) (a' := ?_) #[true, true, true, true, true, true, true, true, true, true, true, true, true, true, true, true, true, true, false] rfl rfl (any_of HT_.out (by kernel_rfl)) (fun _ _ _ h => h) (Or.inl ⟨by rfl, ?_⟩) ?_ ?_
          rotate_left
          · intro w'
            go_simp
            with_reducible rfl
          rotate_left
          · simp only [Act.put, List.setIfInBounds_toArray, List.set_cons_zero, List.set_cons_succ, i64_w, i32_w]
            rfl
          refine pure_ (i := 18) (N := some 8) (v := ?_) (a' := ?_) #[true, true, true, true, true, true, true, true, true, true, true, true, true, true, true, true, true, true, true] rfl rfl (any_of HT_.out (by kernel_rfl)) (fun _ _ _ h => h) (Or.inl ⟨by rfl, ?_⟩) ?_ ?_
          rotate_left
          · intro w'
            go_simp
            with_reducible rfl
          rotate_left
          · simp only [Act.put, List.setIfInBounds_toArray, List.set_cons_zero, List.set_cons_succ, i64_w, i32_w]
            rfl
          refine done_ (done_of HT_.out (by kernel_rfl)) ?_

          obtain ⟨HGz, hgz⟩ := HI0.out
          have hcz_0 := cellS102_0 HGz
          have hcz_1 := cellS102_1 HGz
          have hcz_2 := cellS102_2 HGz
          have hfz_0 := blk_frozen HGz 0
          have hfz_1 := blk_frozen HGz 1
          have hfz_2 := blk_frozen HGz 2
          clear HGz hgz
          by_cases c8 : t109 = 0
          · rw [if_pos c8] at H
            have c8b0 : (t109 == 0) = true := beq_iff_eq.mpr c8
            have c8b1 : (t109 != 0) = false := bne_eq_false_iff_eq.mpr c8
            simp only [Option.some.injEq, Prod.mk.injEq] at H
            obtain ⟨rfl, rfl, rfl, rfl⟩ := H
            clear c8
            go_wp2
            go_ret
            exact ⟨by first | rfl | (simp [*] <;> rfl), (by repeat (first | (with_reducible first | exact HI0.out | apply IsS102.alloc | apply IsS102.drewN | apply IsS102.drew | apply IsS102.set_0 | apply IsS102.set_1 | apply IsS102.set_2) | exact HI0.out)), (by repeat (first | (with_reducible first | exact HB.out | apply below_alloc | apply pw_below_drewN | apply below_drew1 | refine below_set ?_ (IsS102.ge HI0.out)) | exact HB.out)), (by repeat (first | (with_reducible first | exact HK.out | apply KeepBut.set_ | apply keep_drewN | apply keep_drew | apply keep_alloc) | exact HK.out))⟩
          · rw [if_neg c8] at H
            have c8b0 : (t109 == 0) = false := beq_eq_false_iff_ne.mpr c8
            have c8b1 : (t109 != 0) = true := bne_iff_ne.mpr c8
            simp only [Option.some.injEq, Prod.mk.injEq] at H
            obtain ⟨rfl, rfl, rfl, rfl⟩ := H
            go_wp2
            go_ret
            exact ⟨by first | rfl | (simp [*] <;> rfl), (by repeat (first | (with_reducible first | exact HI0.out | apply IsS102.alloc | apply IsS102.drewN | apply IsS102.drew | apply IsS102.set_0 | apply IsS102.set_1 | apply IsS102.set_2) | exact HI0.out)), (by repeat (first | (with_reducible first | exact HB.out | apply below_alloc | apply pw_below_drewN | apply below_drew1 | refine below_set ?_ (IsS102.ge HI0.out)) | exact HB.out)), (by repeat (first | (with_reducible first | exact HK.out | apply KeepBut.set_ | apply keep_drewN | apply keep_drew | apply keep_alloc) | exact HK.out))⟩
        · rw [if_neg c6] at H
          exact absurd H (by simp)
      · rw [if_neg c5] at H
        exact absurd H (by simp)
    · rw [if_neg c4] at H
      exact absurd H (by simp)
  · rw [if_neg c3] at H
    have c3b0 : (s0_2 == 0) = false := beq_eq_false_iff_ne.mpr c3
    have c3b1 : (s0_2 != 0) = true := bne_iff_ne.mpr c3
    simp only [Option.some.injEq, Prod.mk.injEq] at H
    obtain ⟨rfl, rfl, rfl, rfl⟩ := H
    obtain ⟨HGz, hgz⟩ := HI0.out
    have hcz_0 := cellS102_0 HGz
    have hcz_1 := cellS102_1 HGz
    have hcz_2 := cellS102_2 HGz
    have hfz_0 := blk_frozen HGz 0
    have hfz_1 := blk_frozen HGz 1
    have hfz_2 := blk_frozen HGz 2
    clear HGz hgz
    go_enter Try.func66, Try.ntmps66
    go_wp2
    go_ret
    exact ⟨by first | rfl | (simp [*] <;> rfl), (by repeat (first | (with_reducible first | exact HI0.out | apply IsS102.alloc | apply IsS102.drewN | apply IsS102.drew | apply IsS102.set_0 | apply IsS102.set_1 | apply IsS102.set_2) | exact HI0.out)), (by repeat (first | (with_reducible first | exact HB.out | apply below_alloc | apply pw_below_drewN | apply below_drew1 | refine below_set ?_ (IsS102.ge HI0.out)) | exact HB.out)), (by repeat (first | (with_reducible first | exact HK.out | apply KeepBut.set_ | apply keep_drewN | apply keep_drew | apply keep_alloc) | exact HK.out))⟩
end

end Go.Proofs.Ytjfklfmfeghjnaa.PA
