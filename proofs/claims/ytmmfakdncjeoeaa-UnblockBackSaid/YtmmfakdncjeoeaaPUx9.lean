-- Contracts of Go functions, each with its plain Lean function: written by wip/tools/myprint.py of this work (the kit's print, with contracts proved by hand spliced in).
import Derived.Test.YtmmfakdncjeoeaaPUx0
import Derived.Test.YtmmfakdncjeoeaaPUx7
import Derived.Test.YtmmfakdncjeoeaaPUx8
import Derived.Test.YtmmfakdncjeoeaaShort
namespace Go.Proofs.Ytmmfakdncjeoeaa.PU
open Go.Proofs.YtmmfakdncjeoeaaShort
open Go.RowKit Go.Proofs.YtmmfakdncjeoeaaW.PrintWords Go.Proofs.YtmmfakdncjeoeaaW.PrintLast Go.Proofs.YtmmfakdncjeoeaaW.PrintMore
attribute [local go_sem] max2_int min2_int max_two min_two max_three min_three max_four min_four   -- for this text's walks alone
set_option linter.unusedVariables false
set_option linter.unusedSimpArgs false

/-! ### unblock_reader_event: function 45 -/
def unblock_reader_event.l0 : Nat → List ByteArray → List Int → Int → Int → ByteArray → Int → Int → Int → List (S61) → Option (Int × (List (S61)) × ByteArray × Int × Int)
 | 0, _, _, _, _, _, _, _, _, _ => none
 | k + 1, x2, x33, x34, x35, x1000, x1001, x1002, x219000, x219001 => if x35 < x34 then (if 0 ≤ x35 then (if x35 < (x33.length : Int) then ((unblock_reader_arg.f k x1000 x1001 x1002 (rd x33 x35) x2).bind fun bt221 => (if x219001.length < 4398046511104 then (unblock_reader_event.l0 k x2 x33 x34 (wrap64 (x35 + 1)) bt221.2.2.2.1 bt221.2.2.2.2.1 bt221.2.2.2.2.2 x219000 (x219001 ++ [(⟨bt221.1, bt221.2.1, bt221.2.2.1⟩ : S61)])) else (none))) else (none)) else (none)) else (some (x219000, x219001, x1000, x1001, x1002))
def unblock_reader_event.f (k : Nat) (s0_0 : ByteArray) (s0_1 : Int) (s0_2 : Int) (l1 : List (S53)) (l2 : List ByteArray) : Option (Int × (List (S61)) × ByteArray × Int × Int) := (unblock_reader_any.f k s0_0 s0_1 s0_2).bind fun bt211 => (if bt211.1 ≥ (IntKind.u64.wrap ((l1.length : Int))) then ((cursor_Cursor_Stop.f bt211.2.1 bt211.2.2.1 bt211.2.2.2 9).bind fun bt215 => (some (0, ([] : List (S61)), bt215.1, bt215.2.1, bt215.2.2))) else (if 0 ≤ bt211.1 then (if bt211.1 < (l1.length : Int) then (unblock_reader_event.l0 k l2 ((rd_T53 l1 bt211.1).f1) (((rd_T53 l1 bt211.1).f1).length : Int) 0 bt211.2.1 bt211.2.2.1 bt211.2.2.2 (wrap64 (bt211.1)) ([] : List (S61))) else (none)) else (none)))
def unblock_reader_event.T9 : Bool × List (List Nat × List Nat) := (true, [([], []), ([0], [0]), ([], []), ([], []), ([2, 3], [2, 3]), ([4], [4]), ([1, 5, 4], [1, 5]), ([0, 1, 2, 3, 4, 5, 6], []), ([7, 6, 6, 0, 1, 2, 3, 4, 5, 6], [6, 7])])
def unblock_reader_event.B9 : List Nat := [0, 1, 0, 0, 12, 28, 63, 127, 255]
theorem unblock_reader_event.tab9 : rtab .any (opsOf Try.f45 9) = unblock_reader_event.T9 := by kernel_rfl
theorem unblock_reader_event.bits9 : waitsOk unblock_reader_event.T9.2 unblock_reader_event.B9 = true := by kernel_rfl
/-- A predicate's row of types, in all later worlds. -/
theorem unblock_foot {w W : World} {g n : Nat} {ad : Addr} {l : List (S53)} (h : ∀ W', KeepBut w W' g none → Kd.C k53 W' (some ad) n l) (hk : KeepBut w W g none) {i : Int} (h0 : 0 ≤ i) (h1 : i < n) {A1 : Option Addr} {c1 : Nat} (_hA : (some ad) = some ad)
  (hc : W.cell? ⟨(ad.add (i.toNat * 2)).block, (ad.add (i.toNat * 2)).off + 1, none⟩ = some (.slice A1 (rd_T53 l i).f1.length c1)) : ∀ W', KeepBut w W' g none → (Kd.int .i64).C W' A1 (rd_T53 l i).f1.length (rd_T53 l i).f1 := by
 intro W' hk'
 obtain ⟨ad', A', c', e', _, hx', _, hi'⟩ := at_T53 (h W' hk') i h0 h1
 injection e' with e'
 subst e'
 have hw := h w (KeepBut.refl w g none)
 have hn : 0 < n := by omega
 have hne := Kd.foot_ne h hn (by decide)
 have hlt := Kd.C_lt hw hn (by decide)
 have e1 : W'.cell? ⟨(ad.add (i.toNat * 2)).block, (ad.add (i.toNat * 2)).off + 1, none⟩ = w.cell? ⟨(ad.add (i.toNat * 2)).block, (ad.add (i.toNat * 2)).off + 1, none⟩ := by
  unfold World.cell?
  simp only [add_block]
  rw [hk'.2 _ hlt hne (by simp)]
 have e2 : W.cell? ⟨(ad.add (i.toNat * 2)).block, (ad.add (i.toNat * 2)).off + 1, none⟩ = w.cell? ⟨(ad.add (i.toNat * 2)).block, (ad.add (i.toNat * 2)).off + 1, none⟩ := by
  unfold World.cell?
  simp only [add_block]
  rw [hk.2 _ hlt hne (by simp)]
 rw [e1, ← e2, hc] at hx'
 injection hx' with hx'
 injection hx' with hA _ _
 rw [hA]
 exact hi'
set_option maxHeartbeats 8000000 in
set_option maxRecDepth 100000 in
theorem unblock_reader_event.calls (k : Nat) (g : Nat) (s0_0 : ByteArray) (s0_1 : Int) (s0_2 : Int) (A1 : Option Addr) (c1 : Nat) (l1 : List (S53)) (A2 : Option Addr) (c2 : Nat) (l2 : List ByteArray) (r1 : Int) (r2 : List (S61)) (r3 : ByteArray) (r4 : Int) (r5 : Int) (w0 w : World) (hI : IsS97 w0 w g s0_0 s0_1 s0_2) (hB : Below w0.heap.size w0 w) (hr1 : ∀ W_,KeepBut w W_ g none → Kd.C k53 W_ A1 l1.length l1) (hc1 : l1.length ≤ c1) (hr2 : Kd.C Kd.string w A2 l2.length l2) (hc2 : l2.length ≤ c2) (hf2 : ∀ ad,A2 = some ad → 0 < l2.length → ad.block ≠ g) (h : unblock_reader_event.f k s0_0 s0_1 s0_2 l1 l2 = some (r1,r2,r3,r4,r5)) (gr : Nat) (x1_ x2_ : Value) (hx1_ : x1_ = .slice A1 l1.length c1) (hx2_ : x2_ = .slice A2 l2.length c2) (hr_ : w.heap[gr]? = some (.cells #[.pointer (some ⟨g,0,none⟩),x1_,x2_] 68 (0,0))) (hne_ : gr ≠ g) (hge_ : w0.heap.size ≤ gr) :
  Calls Try.prog 45 #[.pointer (some ⟨gr,0,none⟩)] w fun e w' => ∃ v1_ : Value,e = .returned (.agg #[.int .i64 r1,v1_]) ∧ Kd.R k61 61 w' w.heap.size (fun _ => True) v1_ r2 ∧ IsS97 w0 w' g r3 r4 r5 ∧ Below w0.heap.size w0 w' ∧ KeepBut w w' g none:=by
 have BK209:=qm hr_
 have GE209:=qm hge_
 have NB209_0:=qm hne_
 have NB0_209:=qm (Ne.symm hne_)
 clear hr_ hge_ hne_
 have HX1_:=qm hx1_
 have HX2_:=qm hx2_
 clear hx1_
 clear hx2_
 have hcr_0:=(show w.cell? ⟨gr,0,none⟩ = some (.pointer (some ⟨g,0,none⟩)) from (kcq BK209.out 0).trans rfl)
 have hcr_1:=(show w.cell? ⟨gr,1,none⟩ = some x1_ from (kcq BK209.out 1).trans rfl).trans (congrArg some HX1_.out)
 have hcr_2:=(show w.cell? ⟨gr,2,none⟩ = some x2_ from (kcq BK209.out 2).trans rfl).trans (congrArg some HX2_.out)
 have hu68:=Try.underlying68
 have hu59:=Try.underlying59
 have HR1:=qm hr1
 have HC1:=qm hc1
 clear hr1 hc1
 have HR2:=qm hr2
 have HC2:=qm hc2
 clear hr2 hc2
 have HI0:=qm hI
 have HK:=qm (KeepBut.refl w g none)
 have HL:=qm hB.size
 clear hI
 have HW0:=qm hB.size
 have HB:=qm hB
 clear hB
 have H : ((unblock_reader_any.f k s0_0 s0_1 s0_2).bind fun bt211 => (if bt211.1 ≥ (IntKind.u64.wrap ((l1.length : Int))) then ((cursor_Cursor_Stop.f bt211.2.1 bt211.2.2.1 bt211.2.2.2 9).bind fun bt215 => (some (0,([] : List (S61)),bt215.1,bt215.2.1,bt215.2.2))) else (if 0 ≤ bt211.1 then (if bt211.1 < (l1.length : Int) then (unblock_reader_event.l0 k l2 ((rd_T53 l1 bt211.1).f1) (((rd_T53 l1 bt211.1).f1).length : Int) 0 bt211.2.1 bt211.2.2.1 bt211.2.2.2 (wrap64 (bt211.1)) ([] : List (S61))) else (none)) else (none)))) = some (r1,r2,r3,r4,r5):=h
 clear h
 replace H:=obq.mp H
 obtain ⟨⟨t211,t212,t213,t214⟩,A40,H⟩:=H
 replace H : (if t211 ≥ (IntKind.u64.wrap ((l1.length : Int))) then ((cursor_Cursor_Stop.f t212 t213 t214 9).bind fun bt215 => (some (0,([] : List (S61)),bt215.1,bt215.2.1,bt215.2.2))) else (if 0 ≤ t211 then (if t211 < (l1.length : Int) then (unblock_reader_event.l0 k l2 ((rd_T53 l1 t211).f1) (((rd_T53 l1 t211).f1).length : Int) 0 t212 t213 t214 (wrap64 (t211)) ([] : List (S61))) else (none)) else (none))) = some (r1,r2,r3,r4,r5):=H
 have A4:=qm A40
 clear A40
 by_cases c5 : t211 ≥ (IntKind.u64.wrap ((l1.length : Int)))
 ·rw [if_pos c5] at H
  have c5b0 : decide ((IntKind.u64.wrap ((l1.length : Int))) ≤ t211) = true:=dt_ c5
  clear c5
  replace H:=obq.mp H
  obtain ⟨⟨t215,t216,t217⟩,A60,H⟩:=H
  replace H : (some (0,([] : List (S61)),t215,t216,t217)) = some (r1,r2,r3,r4,r5):=H
  have A6:=qm A60
  clear A60
  simp only [o2q,Prod.mk.injEq] at H
  obtain ⟨rfl,rfl,rfl,rfl,rfl⟩:=H
  go_enter Try.func45,Try.ntmps45
  go_wp2_with (first | ((with_reducible refine gdq (N:=2) rfl ?_);refine box_event ?hg (N:=2) ?hd (cs:=#[.int .i64 0,.slice none 0 0]) (t:=59) ?hr ?_;(case hd => rfl);(case hg => rfl);(case hr => first | (go_simp;done) | (go_simp;rfl));intro gb210 hg w8 hbox hb;have n0_:=qm (IsS97.below (by repeat (first | (with_reducible first | exact HI0.out | apply IsS97.alloc | apply IsS97.drewN | apply IsS97.drew | apply IsS97.set_0 | apply IsS97.set_1 | apply IsS97.set_2 | refine IsS97.far ?_ NB0_209.out _) | exact HI0.out)) hb);have n1_:=qm (blk_below (g:=gr) (o:=.cells #[.pointer (some ⟨g,0,none⟩),x1_,x2_] 68 (0,0)) (by (with_reducible repeat (first | refine knq ?_ _ | refine kdq ?_ | refine kaq ?_ _));exact BK209.out) hb);have n2_:=qm (KeepBut.trans (by repeat (first | (with_reducible first | exact HK.out | apply KeepBut.set_ | apply k1q | apply keep_drew | apply keep_alloc | refine keep_far ?_ GW209.out _) | exact HK.out)) (KeepBut.of_below hb g none) (.inl rfl));have n3_:=qm (qt (by repeat (first | (with_reducible first | exact HB.out | apply qa | apply qn | apply qd | refine qb ?_ (IsS97.ge HI0.out) | refine qb ?_ GE209.out) | exact HB.out)) hb);have n4_:=qm (hbox);have n5_:=qm ((by rw [hg];exact (keep_size (w:=w) (g:=g) (row:=none) (by repeat (first | (with_reducible first | exact HK.out | apply KeepBut.set_ | apply k1q | apply keep_drew | apply keep_alloc | refine keep_far ?_ GW209.out _) | exact HK.out))) : w.heap.size ≤ gb210));have n6_:=qm ((Nat.le_trans HW0.out (by rw [hg];exact (keep_size (w:=w) (g:=g) (row:=none) (by repeat (first | (with_reducible first | exact HK.out | apply KeepBut.set_ | apply k1q | apply keep_drew | apply keep_alloc | refine keep_far ?_ GW209.out _) | exact HK.out))) : w.heap.size ≤ gb210) : w0.heap.size ≤ gb210));have n7_:=qm ((by rw [hg];exact Nat.ne_of_lt (blk_lt (g:=gr) (o:=.cells #[.pointer (some ⟨g,0,none⟩),x1_,x2_] 68 (0,0)) (by (with_reducible repeat (first | refine knq ?_ _ | refine kdq ?_ | refine kaq ?_ _));exact BK209.out)) : gr ≠ gb210));have n8_:=qm ((by rw [hg];exact Nat.ne_of_gt (blk_lt (g:=gr) (o:=.cells #[.pointer (some ⟨g,0,none⟩),x1_,x2_] 68 (0,0)) (by (with_reducible repeat (first | refine knq ?_ _ | refine kdq ?_ | refine kaq ?_ _));exact BK209.out)) : gb210 ≠ gr));have n9_:=qm ((by rw [hg];exact Nat.ne_of_lt (IsS97.lt (show IsS97 w0 _ g s0_0 s0_1 s0_2 from by repeat (first | (with_reducible first | exact HI0.out | apply IsS97.alloc | apply IsS97.drewN | apply IsS97.drew | apply IsS97.set_0 | apply IsS97.set_1 | apply IsS97.set_2 | refine IsS97.far ?_ NB0_209.out _) | exact HI0.out))) : g ≠ gb210));have n10_:=qm ((by rw [hg];exact Nat.ne_of_gt (IsS97.lt (show IsS97 w0 _ g s0_0 s0_1 s0_2 from by repeat (first | (with_reducible first | exact HI0.out | apply IsS97.alloc | apply IsS97.drewN | apply IsS97.drew | apply IsS97.set_0 | apply IsS97.set_1 | apply IsS97.set_2 | refine IsS97.far ?_ NB0_209.out _) | exact HI0.out))) : gb210 ≠ g));clear HI0;clear BK209;clear HK;clear HB;have HI0:=n0_;have BK209:=n1_;have HK:=n2_;have HB:=n3_;have BK210:=n4_;have GW210:=n5_;have GE210:=n6_;have NB209_210:=n7_;have NB210_209:=n8_;have NB0_210:=n9_;have NB210_0:=n10_;clear n0_ n1_ n2_ n3_ n4_ n5_ n6_ n7_ n8_ n9_ n10_;clear hb hbox hg;have hcr_0:=(show w8.cell? ⟨gr,0,none⟩ = some (.pointer (some ⟨g,0,none⟩)) from (kcq BK209.out 0).trans rfl);have hcr_1:=(show w8.cell? ⟨gr,1,none⟩ = some x1_ from (kcq BK209.out 1).trans rfl).trans (congrArg some HX1_.out);have hcr_2:=(show w8.cell? ⟨gr,2,none⟩ = some x2_ from (kcq BK209.out 2).trans rfl).trans (congrArg some HX2_.out)) | ((with_reducible refine gcq (f:=41) rfl ?_);refine glq (some 8) rfl rfl Try.func41 (by kernel_rfl) rfl #[.pointer (some ⟨gr,0,none⟩)] rfl (by (try simp only [l3q,l4q,l5q]);first | done | rfl | (simp only [l1q,l2q];rfl)) ?_;(with_reducible refine (unblock_reader_any.calls k g s0_0 s0_1 s0_2 t211 t212 t213 t214 w0 _ ?side1 ?side2 A4.out gr (ReaderAt.mk (x1:=x1_) (x2:=x2_) (by (with_reducible repeat (first | refine knq ?_ _ | refine kdq ?_ | refine kaq ?_ _));exact BK209.out))).mono ?_);(case side1 => repeat (first | (with_reducible first | exact HI0.out | apply IsS97.alloc | apply IsS97.drewN | apply IsS97.drew | apply IsS97.set_0 | apply IsS97.set_1 | apply IsS97.set_2 | refine IsS97.far ?_ NB0_209.out _ | refine IsS97.far ?_ NB0_210.out _) | exact HI0.out));(case side2 => repeat (first | (with_reducible first | exact HB.out | apply qa | apply qn | apply qd | refine qb ?_ (IsS97.ge HI0.out) | refine qb ?_ GE209.out | refine qb ?_ GE210.out) | exact HB.out));rintro e w9 ⟨rfl,hi,hb,hk⟩;refine ⟨_,rfl,?_⟩;have n0_:=qm (KeepBut.blk hk (g':=gr) (o:=.cells #[.pointer (some ⟨g,0,none⟩),x1_,x2_] 68 (0,0)) (by (with_reducible repeat (first | refine knq ?_ _ | refine kdq ?_ | refine kaq ?_ _));exact BK209.out) NB209_0.out (by simp));have n1_:=qm (KeepBut.blk hk (g':=gb210) (o:=.cells #[.int .i64 0,.slice none 0 0] 59 (0,0)) (by (with_reducible repeat (first | refine knq ?_ _ | refine kdq ?_ | refine kaq ?_ _));exact BK210.out) NB210_0.out (by simp));have n2_:=qm (KeepBut.trans (by repeat (first | (with_reducible first | exact HK.out | apply KeepBut.set_ | apply k1q | apply keep_drew | apply keep_alloc | refine keep_far ?_ GW209.out _ | refine keep_far ?_ GW210.out _) | exact HK.out)) hk (.inl rfl));have n3_:=qm (hb);have n4_:=qm (hi);clear BK209;clear BK210;clear HK;clear HB;clear HI0;have BK209:=n0_;have BK210:=n1_;have HK:=n2_;have HB:=n3_;have HI0:=n4_;clear n0_ n1_ n2_ n3_ n4_;(try clear hb);(try clear hb2);(try clear hk);(try clear hi);have hnb10:=NB209_210.out;have hnc10:=NB210_209.out;have hnb11:=NB209_0.out;have hnc11:=NB0_209.out;have hcz12_0 : w9.cell? ⟨gr,0,none⟩ = some (.pointer (some ⟨g,0,none⟩)):=(kcq BK209.out 0).trans rfl;have hcz12_1:=(show w9.cell? ⟨gr,1,none⟩ = some x1_ from (kcq BK209.out 1).trans rfl).trans (congrArg some HX1_.out);have hcz12_2:=(show w9.cell? ⟨gr,2,none⟩ = some x2_ from (kcq BK209.out 2).trans rfl).trans (congrArg some HX2_.out);have hfz12_0:=kfq BK209.out 0;have hfz12_1:=kfq BK209.out 1;have hfz12_2:=kfq BK209.out 2;have hcr_0:=(show w9.cell? ⟨gr,0,none⟩ = some (.pointer (some ⟨g,0,none⟩)) from (kcq BK209.out 0).trans rfl);have hcr_1:=(show w9.cell? ⟨gr,1,none⟩ = some x1_ from (kcq BK209.out 1).trans rfl).trans (congrArg some HX1_.out);have hcr_2:=(show w9.cell? ⟨gr,2,none⟩ = some x2_ from (kcq BK209.out 2).trans rfl).trans (congrArg some HX2_.out)) | ((with_reducible refine gcq (f:=43) rfl ?_);refine glq (some 21) rfl rfl Try.func43 (by kernel_rfl) rfl #[.pointer (some ⟨g,0,none⟩),.int .i64 9] rfl (by (try simp only [l3q,l4q,l5q]);first | done | rfl | (simp only [l1q,l2q];rfl)) ?_;(with_reducible refine (cursor_Cursor_Stop.calls g t212 t213 t214 9 t215 t216 t217 w0 _ ?side1 ?side2 A6.out).mono ?_);(case side1 => repeat (first | (with_reducible first | exact HI0.out | apply IsS97.alloc | apply IsS97.drewN | apply IsS97.drew | apply IsS97.set_0 | apply IsS97.set_1 | apply IsS97.set_2 | refine IsS97.far ?_ NB0_209.out _ | refine IsS97.far ?_ NB0_210.out _) | exact HI0.out));(case side2 => repeat (first | (with_reducible first | exact HB.out | apply qa | apply qn | apply qd | refine qb ?_ (IsS97.ge HI0.out) | refine qb ?_ GE209.out | refine qb ?_ GE210.out) | exact HB.out));rintro e w13 ⟨rfl,hi,hb,hk⟩;refine ⟨_,rfl,?_⟩;have n0_:=qm (KeepBut.blk hk (g':=gr) (o:=.cells #[.pointer (some ⟨g,0,none⟩),x1_,x2_] 68 (0,0)) (by (with_reducible repeat (first | refine knq ?_ _ | refine kdq ?_ | refine kaq ?_ _));exact BK209.out) NB209_0.out (by simp));have n1_:=qm (KeepBut.blk hk (g':=gb210) (o:=.cells #[.int .i64 0,.slice none 0 0] 59 (0,0)) (by (with_reducible repeat (first | refine knq ?_ _ | refine kdq ?_ | refine kaq ?_ _));exact BK210.out) NB210_0.out (by simp));have n2_:=qm (KeepBut.trans (by repeat (first | (with_reducible first | exact HK.out | apply KeepBut.set_ | apply k1q | apply keep_drew | apply keep_alloc | refine keep_far ?_ GW209.out _ | refine keep_far ?_ GW210.out _) | exact HK.out)) hk (.inl rfl));have n3_:=qm (hb);have n4_:=qm (hi);clear BK209;clear BK210;clear HK;clear HB;clear HI0;have BK209:=n0_;have BK210:=n1_;have HK:=n2_;have HB:=n3_;have HI0:=n4_;clear n0_ n1_ n2_ n3_ n4_;(try clear hb);(try clear hb2);(try clear hk);(try clear hi);have hnb14:=NB210_0.out;have hnc14:=NB0_210.out;have hcz15_0 : w13.cell? ⟨gb210,0,none⟩ = some (.int .i64 0):=(kcq BK210.out 0).trans rfl;have hcz15_1 : w13.cell? ⟨gb210,1,none⟩ = some (.slice none 0 0):=(kcq BK210.out 1).trans rfl;have hfz15_0:=kfq BK210.out 0;have hfz15_1:=kfq BK210.out 1;have hcr_0:=(show w13.cell? ⟨gr,0,none⟩ = some (.pointer (some ⟨g,0,none⟩)) from (kcq BK209.out 0).trans rfl);have hcr_1:=(show w13.cell? ⟨gr,1,none⟩ = some x1_ from (kcq BK209.out 1).trans rfl).trans (congrArg some HX1_.out);have hcr_2:=(show w13.cell? ⟨gr,2,none⟩ = some x2_ from (kcq BK209.out 2).trans rfl).trans (congrArg some HX2_.out)))
  refine bodyPost_ret (results_cell_row rfl _ _ gb210 59 #[.int .i64 0,.slice none 0 0] (0,0) _ rfl (by (with_reducible repeat (first | refine knq ?_ _ | refine kdq ?_ | refine kaq ?_ _));refine blk_put (cs:=#[.int .i64 0,.slice none 0 0]) ?_ 1 _ rfl;(with_reducible repeat (first | refine knq ?_ _ | refine kdq ?_ | refine kaq ?_ _));refine blk_put (cs:=#[.int .i64 0,.slice none 0 0]) ?_ 0 _ rfl;(with_reducible repeat (first | refine knq ?_ _ | refine kdq ?_ | refine kaq ?_ _));exact BK210.out) Try.underlying59 rfl (by kernel_rfl)) rfl ?_
  exact ⟨_,by first | rfl | (simp [errW_none,errW_some] <;> rfl) | (simp [*,errW_none,errW_some] <;> rfl),by first | exact Kd.R_nil _ _ _ _ _ | exact Kd.N_nil _ _ _ _ _ | exact Kd.V_nil _ _ _ _ _ | exact Kd.Q_nil _ _ _ _ _ | exact Kd.S_nil _ _ _ _ _,by repeat (first | (with_reducible first | exact HI0.out | apply IsS97.alloc | apply IsS97.drewN | apply IsS97.drew | apply IsS97.set_0 | apply IsS97.set_1 | apply IsS97.set_2 | refine IsS97.far ?_ NB0_209.out _ | refine IsS97.far ?_ NB0_210.out _) | exact HI0.out),by repeat (first | (with_reducible first | exact HB.out | apply qa | apply qn | apply qd | refine qb ?_ (IsS97.ge HI0.out) | refine qb ?_ GE209.out | refine qb ?_ GE210.out) | exact HB.out),by repeat (first | (with_reducible first | exact HK.out | apply KeepBut.set_ | apply k1q | apply keep_drew | apply keep_alloc | refine keep_far ?_ GW209.out _ | refine keep_far ?_ GW210.out _) | exact HK.out)⟩
 ·rw [if_neg c5] at H
  have c5b0 : decide ((IntKind.u64.wrap ((l1.length : Int))) ≤ t211) = false:=decide_eq_false c5
  clear c5
  by_cases c16 : 0 ≤ t211
  ·rw [if_pos c16] at H
   have c16b0 : decide (0 ≤ t211) = true:=dt_ c16
   clear c16
   by_cases c17 : t211 < (l1.length : Int)
   ·rw [if_pos c17] at H
    have c17b0 : decide (t211 < (l1.length : Int)) = true:=dt_ c17
    clear c17
    have H':=qm H
    clear H
    go_enter Try.func45,Try.ntmps45
    go_wp2_with (first | ((with_reducible refine gdq (N:=2) rfl ?_);refine box_event ?hg (N:=2) ?hd (cs:=#[.int .i64 0,.slice none 0 0]) (t:=59) ?hr ?_;(case hd => rfl);(case hg => rfl);(case hr => first | (go_simp;done) | (go_simp;rfl));intro gb210 hg w19 hbox hb;have n0_:=qm (IsS97.below (by repeat (first | (with_reducible first | exact HI0.out | apply IsS97.alloc | apply IsS97.drewN | apply IsS97.drew | apply IsS97.set_0 | apply IsS97.set_1 | apply IsS97.set_2 | refine IsS97.far ?_ NB0_209.out _) | exact HI0.out)) hb);have n1_:=qm (blk_below (g:=gr) (o:=.cells #[.pointer (some ⟨g,0,none⟩),x1_,x2_] 68 (0,0)) (by (with_reducible repeat (first | refine knq ?_ _ | refine kdq ?_ | refine kaq ?_ _));exact BK209.out) hb);have n2_:=qm (KeepBut.trans (by repeat (first | (with_reducible first | exact HK.out | apply KeepBut.set_ | apply k1q | apply keep_drew | apply keep_alloc | refine keep_far ?_ GW209.out _) | exact HK.out)) (KeepBut.of_below hb g none) (.inl rfl));have n3_:=qm (qt (by repeat (first | (with_reducible first | exact HB.out | apply qa | apply qn | apply qd | refine qb ?_ (IsS97.ge HI0.out) | refine qb ?_ GE209.out) | exact HB.out)) hb);have n4_:=qm (hbox);have n5_:=qm ((by rw [hg];exact (keep_size (w:=w) (g:=g) (row:=none) (by repeat (first | (with_reducible first | exact HK.out | apply KeepBut.set_ | apply k1q | apply keep_drew | apply keep_alloc | refine keep_far ?_ GW209.out _) | exact HK.out))) : w.heap.size ≤ gb210));have n6_:=qm ((Nat.le_trans HW0.out (by rw [hg];exact (keep_size (w:=w) (g:=g) (row:=none) (by repeat (first | (with_reducible first | exact HK.out | apply KeepBut.set_ | apply k1q | apply keep_drew | apply keep_alloc | refine keep_far ?_ GW209.out _) | exact HK.out))) : w.heap.size ≤ gb210) : w0.heap.size ≤ gb210));have n7_:=qm ((by rw [hg];exact Nat.ne_of_lt (blk_lt (g:=gr) (o:=.cells #[.pointer (some ⟨g,0,none⟩),x1_,x2_] 68 (0,0)) (by (with_reducible repeat (first | refine knq ?_ _ | refine kdq ?_ | refine kaq ?_ _));exact BK209.out)) : gr ≠ gb210));have n8_:=qm ((by rw [hg];exact Nat.ne_of_gt (blk_lt (g:=gr) (o:=.cells #[.pointer (some ⟨g,0,none⟩),x1_,x2_] 68 (0,0)) (by (with_reducible repeat (first | refine knq ?_ _ | refine kdq ?_ | refine kaq ?_ _));exact BK209.out)) : gb210 ≠ gr));have n9_:=qm ((by rw [hg];exact Nat.ne_of_lt (IsS97.lt (show IsS97 w0 _ g s0_0 s0_1 s0_2 from by repeat (first | (with_reducible first | exact HI0.out | apply IsS97.alloc | apply IsS97.drewN | apply IsS97.drew | apply IsS97.set_0 | apply IsS97.set_1 | apply IsS97.set_2 | refine IsS97.far ?_ NB0_209.out _) | exact HI0.out))) : g ≠ gb210));have n10_:=qm ((by rw [hg];exact Nat.ne_of_gt (IsS97.lt (show IsS97 w0 _ g s0_0 s0_1 s0_2 from by repeat (first | (with_reducible first | exact HI0.out | apply IsS97.alloc | apply IsS97.drewN | apply IsS97.drew | apply IsS97.set_0 | apply IsS97.set_1 | apply IsS97.set_2 | refine IsS97.far ?_ NB0_209.out _) | exact HI0.out))) : gb210 ≠ g));clear HI0;clear BK209;clear HK;clear HB;have HI0:=n0_;have BK209:=n1_;have HK:=n2_;have HB:=n3_;have BK210:=n4_;have GW210:=n5_;have GE210:=n6_;have NB209_210:=n7_;have NB210_209:=n8_;have NB0_210:=n9_;have NB210_0:=n10_;clear n0_ n1_ n2_ n3_ n4_ n5_ n6_ n7_ n8_ n9_ n10_;clear hb hbox hg;have hcr_0:=(show w19.cell? ⟨gr,0,none⟩ = some (.pointer (some ⟨g,0,none⟩)) from (kcq BK209.out 0).trans rfl);have hcr_1:=(show w19.cell? ⟨gr,1,none⟩ = some x1_ from (kcq BK209.out 1).trans rfl).trans (congrArg some HX1_.out);have hcr_2:=(show w19.cell? ⟨gr,2,none⟩ = some x2_ from (kcq BK209.out 2).trans rfl).trans (congrArg some HX2_.out)) | ((with_reducible refine gcq (f:=41) rfl ?_);refine glq (some 8) rfl rfl Try.func41 (by kernel_rfl) rfl #[.pointer (some ⟨gr,0,none⟩)] rfl (by (try simp only [l3q,l4q,l5q]);first | done | rfl | (simp only [l1q,l2q];rfl)) ?_;(with_reducible refine (unblock_reader_any.calls k g s0_0 s0_1 s0_2 t211 t212 t213 t214 w0 _ ?side1 ?side2 A4.out gr (ReaderAt.mk (x1:=x1_) (x2:=x2_) (by (with_reducible repeat (first | refine knq ?_ _ | refine kdq ?_ | refine kaq ?_ _));exact BK209.out))).mono ?_);(case side1 => repeat (first | (with_reducible first | exact HI0.out | apply IsS97.alloc | apply IsS97.drewN | apply IsS97.drew | apply IsS97.set_0 | apply IsS97.set_1 | apply IsS97.set_2 | refine IsS97.far ?_ NB0_209.out _ | refine IsS97.far ?_ NB0_210.out _) | exact HI0.out));(case side2 => repeat (first | (with_reducible first | exact HB.out | apply qa | apply qn | apply qd | refine qb ?_ (IsS97.ge HI0.out) | refine qb ?_ GE209.out | refine qb ?_ GE210.out) | exact HB.out));rintro e w20 ⟨rfl,hi,hb,hk⟩;refine ⟨_,rfl,?_⟩;have n0_:=qm (KeepBut.blk hk (g':=gr) (o:=.cells #[.pointer (some ⟨g,0,none⟩),x1_,x2_] 68 (0,0)) (by (with_reducible repeat (first | refine knq ?_ _ | refine kdq ?_ | refine kaq ?_ _));exact BK209.out) NB209_0.out (by simp));have n1_:=qm (KeepBut.blk hk (g':=gb210) (o:=.cells #[.int .i64 0,.slice none 0 0] 59 (0,0)) (by (with_reducible repeat (first | refine knq ?_ _ | refine kdq ?_ | refine kaq ?_ _));exact BK210.out) NB210_0.out (by simp));have n2_:=qm (KeepBut.trans (by repeat (first | (with_reducible first | exact HK.out | apply KeepBut.set_ | apply k1q | apply keep_drew | apply keep_alloc | refine keep_far ?_ GW209.out _ | refine keep_far ?_ GW210.out _) | exact HK.out)) hk (.inl rfl));have n3_:=qm (hb);have n4_:=qm (hi);clear BK209;clear BK210;clear HK;clear HB;clear HI0;have BK209:=n0_;have BK210:=n1_;have HK:=n2_;have HB:=n3_;have HI0:=n4_;clear n0_ n1_ n2_ n3_ n4_;(try clear hb);(try clear hb2);(try clear hk);(try clear hi);have hcr_0:=(show w20.cell? ⟨gr,0,none⟩ = some (.pointer (some ⟨g,0,none⟩)) from (kcq BK209.out 0).trans rfl);have hcr_1:=(show w20.cell? ⟨gr,1,none⟩ = some x1_ from (kcq BK209.out 1).trans rfl).trans (congrArg some HX1_.out);have hcr_2:=(show w20.cell? ⟨gr,2,none⟩ = some x2_ from (kcq BK209.out 2).trans rfl).trans (congrArg some HX2_.out)) | ((with_reducible refine gdq (N:=4) rfl ?_);refine box_event ?hg (N:=4) ?hd (cs:=#[.int .i64 0,.slice none 0 0]) (t:=59) ?hr ?_;(case hd => rfl);(case hg => rfl);(case hr => first | (go_simp;done) | (go_simp;rfl));intro gb218 hg w21 hbox hb;have n0_:=qm (IsS97.below (by repeat (first | (with_reducible first | exact HI0.out | apply IsS97.alloc | apply IsS97.drewN | apply IsS97.drew | apply IsS97.set_0 | apply IsS97.set_1 | apply IsS97.set_2 | refine IsS97.far ?_ NB0_209.out _ | refine IsS97.far ?_ NB0_210.out _) | exact HI0.out)) hb);have n1_:=qm (blk_below (g:=gr) (o:=.cells #[.pointer (some ⟨g,0,none⟩),x1_,x2_] 68 (0,0)) (by (with_reducible repeat (first | refine knq ?_ _ | refine kdq ?_ | refine kaq ?_ _));exact BK209.out) hb);have n2_:=qm (blk_below (g:=gb210) (o:=.cells #[.int .i64 0,.slice none 0 0] 59 (0,0)) (by (with_reducible repeat (first | refine knq ?_ _ | refine kdq ?_ | refine kaq ?_ _));exact BK210.out) hb);have n3_:=qm (KeepBut.trans (by repeat (first | (with_reducible first | exact HK.out | apply KeepBut.set_ | apply k1q | apply keep_drew | apply keep_alloc | refine keep_far ?_ GW209.out _ | refine keep_far ?_ GW210.out _) | exact HK.out)) (KeepBut.of_below hb g none) (.inl rfl));have n4_:=qm (qt (by repeat (first | (with_reducible first | exact HB.out | apply qa | apply qn | apply qd | refine qb ?_ (IsS97.ge HI0.out) | refine qb ?_ GE209.out | refine qb ?_ GE210.out) | exact HB.out)) hb);have n5_:=qm (hbox);have n6_:=qm ((by rw [hg];exact (keep_size (w:=w) (g:=g) (row:=none) (by repeat (first | (with_reducible first | exact HK.out | apply KeepBut.set_ | apply k1q | apply keep_drew | apply keep_alloc | refine keep_far ?_ GW209.out _ | refine keep_far ?_ GW210.out _) | exact HK.out))) : w.heap.size ≤ gb218));have n7_:=qm ((Nat.le_trans HW0.out (by rw [hg];exact (keep_size (w:=w) (g:=g) (row:=none) (by repeat (first | (with_reducible first | exact HK.out | apply KeepBut.set_ | apply k1q | apply keep_drew | apply keep_alloc | refine keep_far ?_ GW209.out _ | refine keep_far ?_ GW210.out _) | exact HK.out))) : w.heap.size ≤ gb218) : w0.heap.size ≤ gb218));have n8_:=qm ((by rw [hg];exact Nat.ne_of_lt (blk_lt (g:=gr) (o:=.cells #[.pointer (some ⟨g,0,none⟩),x1_,x2_] 68 (0,0)) (by (with_reducible repeat (first | refine knq ?_ _ | refine kdq ?_ | refine kaq ?_ _));exact BK209.out)) : gr ≠ gb218));have n9_:=qm ((by rw [hg];exact Nat.ne_of_gt (blk_lt (g:=gr) (o:=.cells #[.pointer (some ⟨g,0,none⟩),x1_,x2_] 68 (0,0)) (by (with_reducible repeat (first | refine knq ?_ _ | refine kdq ?_ | refine kaq ?_ _));exact BK209.out)) : gb218 ≠ gr));have n10_:=qm ((by rw [hg];exact Nat.ne_of_lt (blk_lt (g:=gb210) (o:=.cells #[.int .i64 0,.slice none 0 0] 59 (0,0)) (by (with_reducible repeat (first | refine knq ?_ _ | refine kdq ?_ | refine kaq ?_ _));exact BK210.out)) : gb210 ≠ gb218));have n11_:=qm ((by rw [hg];exact Nat.ne_of_gt (blk_lt (g:=gb210) (o:=.cells #[.int .i64 0,.slice none 0 0] 59 (0,0)) (by (with_reducible repeat (first | refine knq ?_ _ | refine kdq ?_ | refine kaq ?_ _));exact BK210.out)) : gb218 ≠ gb210));have n12_:=qm ((by rw [hg];exact Nat.ne_of_lt (IsS97.lt (show IsS97 w0 _ g t212 t213 t214 from by repeat (first | (with_reducible first | exact HI0.out | apply IsS97.alloc | apply IsS97.drewN | apply IsS97.drew | apply IsS97.set_0 | apply IsS97.set_1 | apply IsS97.set_2 | refine IsS97.far ?_ NB0_209.out _ | refine IsS97.far ?_ NB0_210.out _) | exact HI0.out))) : g ≠ gb218));have n13_:=qm ((by rw [hg];exact Nat.ne_of_gt (IsS97.lt (show IsS97 w0 _ g t212 t213 t214 from by repeat (first | (with_reducible first | exact HI0.out | apply IsS97.alloc | apply IsS97.drewN | apply IsS97.drew | apply IsS97.set_0 | apply IsS97.set_1 | apply IsS97.set_2 | refine IsS97.far ?_ NB0_209.out _ | refine IsS97.far ?_ NB0_210.out _) | exact HI0.out))) : gb218 ≠ g));clear HI0;clear BK209;clear BK210;clear HK;clear HB;have HI0:=n0_;have BK209:=n1_;have BK210:=n2_;have HK:=n3_;have HB:=n4_;have BK218:=n5_;have GW218:=n6_;have GE218:=n7_;have NB209_218:=n8_;have NB218_209:=n9_;have NB210_218:=n10_;have NB218_210:=n11_;have NB0_218:=n12_;have NB218_0:=n13_;clear n0_ n1_ n2_ n3_ n4_ n5_ n6_ n7_ n8_ n9_ n10_ n11_ n12_ n13_;clear hb hbox hg;have hnb22:=NB218_209.out;have hnc22:=NB209_218.out;have hnb23:=NB218_210.out;have hnc23:=NB210_218.out;have hnb24:=NB218_0.out;have hnc24:=NB0_218.out;have hcz25_0 : w21.cell? ⟨gb218,0,none⟩ = some (.int .i64 0):=(kcq BK218.out 0).trans rfl;have hcz25_1 : w21.cell? ⟨gb218,1,none⟩ = some (.slice none 0 0):=(kcq BK218.out 1).trans rfl;have hfz25_0:=kfq BK218.out 0;have hfz25_1:=kfq BK218.out 1;have p219 : 0 ≤ (t211 : Int):=dq_ (by first | (with_reducible assumption) | assumption);have q219 : t211 < (l1.length : Int):=dq_ (by first | (with_reducible assumption) | assumption);obtain ⟨ad219,A219_1,c219_1,e219,hx219_0,hx219_1,hl219_1,hi219_1⟩:=at_T53 (Kd.C_foot_now HR1.out (show KeepBut w ((w21.setCell ⟨gb218,0,none⟩ (.int .i64 (wrap64 (t211)))).setCell ⟨gb218,1,none⟩ (.slice none 0 0)) g none from by repeat (first | (with_reducible first | exact HK.out | apply KeepBut.set_ | apply k1q | apply keep_drew | apply keep_alloc | refine keep_far ?_ GW209.out _ | refine keep_far ?_ GW210.out _ | refine keep_far ?_ GW218.out _) | exact HK.out))) t211 p219 q219;cases e219;have HF219_1:=qm (unblock_foot HR1.out (show KeepBut w ((w21.setCell ⟨gb218,0,none⟩ (.int .i64 (wrap64 (t211)))).setCell ⟨gb218,1,none⟩ (.slice none 0 0)) g none from by repeat (first | (with_reducible first | exact HK.out | apply KeepBut.set_ | apply k1q | apply keep_drew | apply keep_alloc | refine keep_far ?_ GW209.out _ | refine keep_far ?_ GW210.out _ | refine keep_far ?_ GW218.out _) | exact HK.out)) p219 q219 rfl hx219_1);have HR219_1:=qm hi219_1;have HC219_1:=qm hl219_1;clear hi219_1 hl219_1;replace p219:=eq_true p219;replace q219:=eq_true q219;have hcr_0:=(show w21.cell? ⟨gr,0,none⟩ = some (.pointer (some ⟨g,0,none⟩)) from (kcq BK209.out 0).trans rfl);have hcr_1:=(show w21.cell? ⟨gr,1,none⟩ = some x1_ from (kcq BK209.out 1).trans rfl).trans (congrArg some HX1_.out);have hcr_2:=(show w21.cell? ⟨gr,2,none⟩ = some x2_ from (kcq BK209.out 2).trans rfl).trans (congrArg some HX2_.out)))
    go_loopg [35] k (fun kq v35 w' => ∃ (x35_1 : Int) (x1000_1 : ByteArray) (x1001_1 : Int) (x1002_1 : Int) (x219001_1 : List (S61)) (u219001 : Value),v35 = .int .i64 x35_1 ∧ Aside0 (unblock_reader_event.l0 kq l2 ((rd_T53 l1 t211).f1) (((rd_T53 l1 t211).f1).length : Int) x35_1 x1000_1 x1001_1 x1002_1 (wrap64 (t211)) x219001_1 = some (r1,r2,r3,r4,r5)) ∧ Aside0 (kq ≤ k) ∧ Aside0 (Kd.R k61 61 w' w.heap.size (fun _ => True) u219001 x219001_1) ∧ Aside0 (w'.heap[gr]? = some (.cells #[.pointer (some ⟨g,0,none⟩),x1_,x2_] 68 (0,0))) ∧ Aside0 (w'.heap[gb210]? = some (.cells #[.int .i64 0,(.slice none 0 0)] 59 (0,0))) ∧ Aside0 (w'.heap[gb218]? = some (.cells #[.int .i64 (wrap64 (t211)),u219001] 59 (0,0))) ∧ Aside0 (IsS97 w0 w' g x1000_1 x1001_1 x1002_1) ∧ Aside0 (KeepBut w w' g none) ∧ Aside0 (Below w0.heap.size w0 w'))
    case atStart => exact ⟨(0),(t212),(t213),(t214),(([] : List (S61))),(.slice none 0 0),(by first | rfl | (simp;done) | (simp [*];done)),H',⟨Nat.le_refl _⟩,⟨by first | exact Kd.R_nil _ _ _ _ _ | exact Kd.N_nil _ _ _ _ _ | exact Kd.V_nil _ _ _ _ _ | exact Kd.Q_nil _ _ _ _ _ | exact Kd.S_nil _ _ _ _ _⟩,⟨by (with_reducible repeat (first | refine knq ?_ _ | refine kdq ?_ | refine kaq ?_ _));refine blk_far ?_ NB209_218.out _;(with_reducible repeat (first | refine knq ?_ _ | refine kdq ?_ | refine kaq ?_ _));refine blk_far ?_ NB209_218.out _;(with_reducible repeat (first | refine knq ?_ _ | refine kdq ?_ | refine kaq ?_ _));exact BK209.out⟩,⟨by (with_reducible repeat (first | refine knq ?_ _ | refine kdq ?_ | refine kaq ?_ _));refine blk_far ?_ NB210_218.out _;(with_reducible repeat (first | refine knq ?_ _ | refine kdq ?_ | refine kaq ?_ _));refine blk_far ?_ NB210_218.out _;(with_reducible repeat (first | refine knq ?_ _ | refine kdq ?_ | refine kaq ?_ _));exact BK210.out⟩,⟨by (with_reducible repeat (first | refine knq ?_ _ | refine kdq ?_ | refine kaq ?_ _));refine blk_put (cs:=#[.int .i64 (wrap64 (t211)),.slice none 0 0]) ?_ 1 _ rfl;(with_reducible repeat (first | refine knq ?_ _ | refine kdq ?_ | refine kaq ?_ _));refine blk_put (cs:=#[.int .i64 0,.slice none 0 0]) ?_ 0 _ rfl;(with_reducible repeat (first | refine knq ?_ _ | refine kdq ?_ | refine kaq ?_ _));exact BK218.out⟩,⟨by repeat (first | (with_reducible first | exact HI0.out | apply IsS97.alloc | apply IsS97.drewN | apply IsS97.drew | apply IsS97.set_0 | apply IsS97.set_1 | apply IsS97.set_2 | refine IsS97.far ?_ NB0_209.out _ | refine IsS97.far ?_ NB0_210.out _ | refine IsS97.far ?_ NB0_218.out _) | exact HI0.out)⟩,⟨by repeat (first | (with_reducible first | exact HK.out | apply KeepBut.set_ | apply k1q | apply keep_drew | apply keep_alloc | refine keep_far ?_ GW209.out _ | refine keep_far ?_ GW210.out _ | refine keep_far ?_ GW218.out _) | exact HK.out)⟩,⟨by repeat (first | (with_reducible first | exact HB.out | apply qa | apply qn | apply qd | refine qb ?_ (IsS97.ge HI0.out) | refine qb ?_ GE209.out | refine qb ?_ GE210.out | refine qb ?_ GE218.out) | exact HB.out)⟩⟩
    case round =>
     clear H'
     try clear c1
     try clear c2
     try clear p2
     try clear q2
     try clear hx2
     try clear c4
     try clear c5
     try clear c5b0
     try clear p6
     try clear c10
     try clear c11
     try clear c14
     try clear c16
     try clear c16b0
     try clear c17
     try clear c17b0
     try clear c21
     try clear p21
     try clear q21
     try clear hx21
     try clear c22
     try clear c23
     try clear c24
     try clear hcz12_0
     try clear hcz12_1
     try clear hcz12_2
     try clear hcz15_0
     try clear hcz15_1
     try clear hcz25_0
     try clear hcz25_1
     try clear hfz12_0
     try clear hfz12_1
     try clear hfz12_2
     try clear hfz15_0
     try clear hfz15_1
     try clear hfz25_0
     try clear hfz25_1
     try clear hx219_0
     try clear hx219_1
     try clear p219
     try clear q219
     obtain ⟨x35_1,x1000_1,x1001_1,x1002_1,x219001_1,u219001,rfl,HA,HK1,HO_219001,BK209,BK210,BK218,HI0,HK,HB⟩:=hrel
     cases gk with
     | zero => exact absurd HA.out (by simp [unblock_reader_event.l0])
     | succ k1 =>
      have H:=HA.out
      clear HA
      simp only [unblock_reader_event.l0] at H
      by_cases c26 : x35_1 < (((rd_T53 l1 t211).f1).length : Int)
      ·rw [if_pos c26] at H
       have c26b0 : decide (x35_1 < (((rd_T53 l1 t211).f1).length : Int)) = true:=dt_ c26
       clear c26
       by_cases c27 : 0 ≤ x35_1
       ·rw [if_pos c27] at H
        have c27b0 : decide (0 ≤ x35_1) = true:=dt_ c27
        clear c27
        by_cases c28 : x35_1 < (((rd_T53 l1 t211).f1).length : Int)
        ·rw [if_pos c28] at H
         have c28b0 : decide (x35_1 < (((rd_T53 l1 t211).f1).length : Int)) = true:=dt_ c28
         clear c28
         replace H:=obq.mp H
         obtain ⟨⟨t221,t222,t223,t224,t225,t226⟩,A290,H⟩:=H
         replace H : (if x219001_1.length < 4398046511104 then (unblock_reader_event.l0 k1 l2 ((rd_T53 l1 t211).f1) (((rd_T53 l1 t211).f1).length : Int) (wrap64 (x35_1 + 1)) t224 t225 t226 (wrap64 (t211)) (x219001_1 ++ [(⟨t221,t222,t223⟩ : S61)])) else (none)) = some (r1,r2,r3,r4,r5):=H
         have A29:=qm A290
         clear A290
         by_cases c30 : x219001_1.length < 4398046511104
         ·rw [if_pos c30] at H
          have LMc30:=qm c30
          clear c30
          obtain ⟨y227,hy227⟩ : ∃ y_ : List (S61),y_ = (x219001_1 ++ [(⟨t221,t222,t223⟩ : S61)]):=⟨_,rfl⟩
          replace H : (unblock_reader_event.l0 k1 l2 ((rd_T53 l1 t211).f1) (((rd_T53 l1 t211).f1).length : Int) (wrap64 (x35_1 + 1)) t224 t225 t226 (wrap64 (t211)) y227) = some (r1,r2,r3,r4,r5):=by first | (rw [hy227];with_reducible exact H) | (have H2_:=(Option.bind_some _ _).symm.trans H;rw [hy227];with_reducible exact H2_) | (have H2_:=(Option.bind_some _ _).symm.trans H;with_reducible exact H2_) | with_reducible exact H | (rw [hy227];exact H) | exact H
          have Ny227:=qm hy227
          clear hy227
          have H':=qm H
          clear H
          have p220 : 0 ≤ (x35_1 : Int):=dq_ (by first | (with_reducible assumption) | assumption)
          have q220 : x35_1 < (((rd_T53 l1 t211).f1).length : Int):=dq_ (by first | (with_reducible assumption) | assumption)
          obtain ⟨ad220,e220,hx220_0⟩:=Kd.at_int (Kd.C_foot_now HF219_1.out HK.out) x35_1 p220 q220
          cases e220
          replace p220:=eq_true p220
          replace q220:=eq_true q220
          try go_wp2
          have n0_:=qm (rdq HO_219001.out)
          have n1_:=qm (kdq BK209.out)
          have n2_:=qm (kdq BK210.out)
          have n3_:=qm (kdq BK218.out)
          have n4_:=qm (IsS97.drew HI0.out)
          have n5_:=qm (keep_drew HK.out)
          have n6_:=qm (qd HB.out)
          clear HO_219001
          clear BK209
          clear BK210
          clear BK218
          clear HI0
          clear HK
          clear HB
          have HO_219001:=n0_
          have BK209:=n1_
          have BK210:=n2_
          have BK218:=n3_
          have HI0:=n4_
          have HK:=n5_
          have HB:=n6_
          clear n0_ n1_ n2_ n3_ n4_ n5_ n6_
          refine start_ (n:=9) (S:=fun w' => w'.cell? ⟨gb218,0,none⟩ = some (.int .i64 (wrap64 (t211))) ∧ w'.cell? ⟨gb218,1,none⟩ = some (u219001)) (ds:=[8]) #[n_,n_,n_,n_,n_,n_,n_,n_,n_] (by kernel_rfl) rfl rfl ⟨(kcq BK218.out 0).trans rfl,(kcq BK218.out 1).trans rfl⟩ (fun hHeld => ?_);refine with_tabW unblock_reader_event.tab9 unblock_reader_event.bits9 (fun HT_ HW_ => ?_)
          generalize wr.drew = w31 at HO_219001 BK209 BK210 BK218 HI0 HK HB hHeld ⊢
          refine pure_ (i:=0) (N:=some 39) (v:=?_) (a':=?_) #[y_,n_,n_,n_,n_,n_,n_,n_,n_] rfl rfl (any_of HT_.out (by kernel_rfl)) (fun _ _ _ h => h) (Or.inl ⟨by rfl,?_⟩) ?_ ?_
          rotate_left
          ·intro w'
           go_simp
           with_reducible rfl
          rotate_left
          ·simp only [Act.put,sA_,sB_,sC_,i64_w,i32_w]
           rfl
          refine pure_ (i:=2) (N:=some 41) (v:=?_) (a':=?_) #[y_,n_,y_,n_,n_,n_,n_,n_,n_] rfl rfl (any_of HT_.out (by kernel_rfl)) (fun _ _ _ h => h) (Or.inl ⟨by rfl,?_⟩) ?_ ?_
          rotate_left
          ·intro w'
           go_simp
           with_reducible rfl
          rotate_left
          ·simp only [Act.put,sA_,sB_,sC_,i64_w,i32_w]
           rfl
          refine pure_ (i:=3) (N:=some 42) (v:=?_) (a':=?_) #[y_,n_,y_,y_,n_,n_,n_,n_,n_] rfl rfl (any_of HT_.out (by kernel_rfl)) (fun _ _ _ h => h) (Or.inl ⟨by rfl,?_⟩) ?_ ?_
          rotate_left
          ·intro w'
           go_simp
           with_reducible rfl
          rotate_left
          ·simp only [Act.put,sA_,sB_,sC_,i64_w,i32_w]
           rfl
          refine take_ (i:=1) (N:=some 40) (v:=?_) (a':=?_) #[y_,y_,y_,y_,n_,n_,n_,n_,n_] rfl rfl (take_ofW HT_.out HW_.out (by kernel_rfl)) (fun _ _ _ h => h) (Or.inl ⟨by rfl,?_⟩) hHeld ?_ ?_
          rotate_left
          ·rintro w' ⟨s0,s1⟩
           go_simp
           with_reducible rfl
          rotate_left
          ·simp only [Act.put,sA_,sB_,sC_,i64_w,i32_w]
           rfl
          refine one_ (i:=4) (N:=some 43) #[y_,y_,y_,y_,y_,n_,n_,n_,n_] rfl rfl (one_of HT_.out (by kernel_rfl)) (by decide) (fun K hK => ?_)
          refine goes_ Try.func67 (by kernel_rfl) rfl #[.pointer (some ⟨gr,0,none⟩),.int .i64 (rd ((rd_T53 l1 t211).f1) x35_1)] (by rfl) rfl rfl (by (try simp only [l3q,l4q,l5q]);first | done | rfl | (simp only [l1q,l2q];rfl)) ?_
          with_reducible refine (unblock_reader_arg.calls k1 g x1000_1 x1001_1 x1002_1 (rd ((rd_T53 l1 t211).f1) x35_1) A2 c2 l2 t221 t222 t223 t224 t225 t226 w0 _ ?side1 ?side2 ?side3 ?side4 ?side5 A29.out gr x1_ x2_ HX2_.out (by (with_reducible repeat (first | refine knq ?_ _ | refine kdq ?_ | refine kaq ?_ _));exact BK209.out) NB209_0.out GE209.out).mono ?_
          (case side1 => repeat (first | (with_reducible first | exact HI0.out | apply IsS97.alloc | apply IsS97.drewN | apply IsS97.drew | apply IsS97.set_0 | apply IsS97.set_1 | apply IsS97.set_2 | refine IsS97.far ?_ NB0_209.out _ | refine IsS97.far ?_ NB0_210.out _ | refine IsS97.far ?_ NB0_218.out _) | exact HI0.out))
          (case side2 => repeat (first | (with_reducible first | exact HB.out | apply qa | apply qn | apply qd | refine qb ?_ (IsS97.ge HI0.out) | refine qb ?_ GE209.out | refine qb ?_ GE210.out | refine qb ?_ GE218.out) | exact HB.out))
          (case side3 => exact Kd.C_keep (⟨#[]⟩ : ByteArray) HR2.out (by repeat (first | (with_reducible first | exact HK.out | apply KeepBut.set_ | apply k1q | apply keep_drew | apply keep_alloc | refine keep_far ?_ GW209.out _ | refine keep_far ?_ GW210.out _ | refine keep_far ?_ GW218.out _) | exact HK.out)) hf2)
          (case side4 => exact HC2.out)
          (case side5 => exact hf2)
          rintro e w32 ⟨rfl,hi,hb,hk⟩
          refine ⟨_,rfl,?_⟩
          have n0_:=qm (Kd.R_mono (Kd.R_keep (IsS97.apart (show IsS97 w0 _ g x1000_1 x1001_1 x1002_1 from by repeat (first | (with_reducible first | exact HI0.out | apply IsS97.alloc | apply IsS97.drewN | apply IsS97.drew | apply IsS97.set_0 | apply IsS97.set_1 | apply IsS97.set_2 | refine IsS97.far ?_ NB0_209.out _ | refine IsS97.far ?_ NB0_210.out _ | refine IsS97.far ?_ NB0_218.out _) | exact HI0.out)) (by (with_reducible repeat (first | apply raq | apply rnq | apply rdq));exact HO_219001.out) (by decide)) hk (fun _ h => h.2)) (fun _ h => h.1))
          have n1_:=qm (KeepBut.blk hk (g':=gr) (o:=.cells #[.pointer (some ⟨g,0,none⟩),x1_,x2_] 68 (0,0)) (by (with_reducible repeat (first | refine knq ?_ _ | refine kdq ?_ | refine kaq ?_ _));exact BK209.out) NB209_0.out (by simp))
          have n2_:=qm (KeepBut.blk hk (g':=gb210) (o:=.cells #[.int .i64 0,.slice none 0 0] 59 (0,0)) (by (with_reducible repeat (first | refine knq ?_ _ | refine kdq ?_ | refine kaq ?_ _));exact BK210.out) NB210_0.out (by simp))
          have n3_:=qm (KeepBut.blk hk (g':=gb218) (o:=.cells #[.int .i64 (wrap64 (t211)),u219001] 59 (0,0)) (by (with_reducible repeat (first | refine knq ?_ _ | refine kdq ?_ | refine kaq ?_ _));exact BK218.out) NB218_0.out (by simp))
          have n4_:=qm (KeepBut.trans (by repeat (first | (with_reducible first | exact HK.out | apply KeepBut.set_ | apply k1q | apply keep_drew | apply keep_alloc | refine keep_far ?_ GW209.out _ | refine keep_far ?_ GW210.out _ | refine keep_far ?_ GW218.out _) | exact HK.out)) hk (.inl rfl))
          have n5_:=qm (hb)
          have n6_:=qm (hi)
          clear HO_219001
          clear BK209
          clear BK210
          clear BK218
          clear HK
          clear HB
          clear HI0
          have HO_219001:=n0_
          have BK209:=n1_
          have BK210:=n2_
          have BK218:=n3_
          have HK:=n4_
          have HB:=n5_
          have HI0:=n6_
          clear n0_ n1_ n2_ n3_ n4_ n5_ n6_
          (try clear hb)
          (try clear hb2)
          (try clear hk)
          (try clear hi)
          refine hK.out _ _ ⟨(kcq BK218.out 0).trans rfl,(kcq BK218.out 1).trans rfl⟩ (fun hHeld => ?_)
          clear hK K
          refine norm_ (a':=?_) ?_ ?_
          rotate_left
          ·show Act.put _ (some 43) _ = _
           simp only [Act.put,sA_,sB_,sC_,i64_w,i32_w]
           rfl
          refine one_ (i:=5) (N:=some 44) #[y_,y_,y_,y_,y_,y_,n_,n_,n_] rfl rfl (one_of HT_.out (by kernel_rfl)) (by decide) (fun K hK => ?_)
          refine value_ (w1:=?_) (v:=?_) (by rfl) rfl ?_ ?_
          rotate_left 2
          ·go_simp
           constructor
           ·rfl
           ·rfl
          refine hK.out _ _ ⟨(kcq (kaq BK218.out _) 0).trans rfl,(kcq (kaq BK218.out _) 1).trans rfl⟩ (fun hHeld => ?_)
          clear hK K
          refine norm_ (a':=?_) ?_ ?_
          rotate_left
          ·show Act.put _ (some 44) _ = _
           simp only [Act.put,sA_,sB_,sC_,i64_w,i32_w]
           rfl
          refine one_ (i:=6) (N:=some 45) #[y_,y_,y_,y_,y_,y_,y_,n_,n_] rfl rfl (one_of HT_.out (by kernel_rfl)) (by decide) (fun K hK => ?_)
          refine Kd.R_append_step k61 w.heap.size (by rfl) (.tmp 40) (.tmp 44) 57 61 (.agg #[(.int .i64 0),(.int .i64 0),(.string ⟨#[]⟩)]) 32 rfl Try.underlying57 info61 rfl (by decide) (by omega) u219001 x219001_1 (⟨t221,t222,t223⟩ : S61) [.int .i64 t221,.int .i64 t222,.string t223] (fun _ => True) (fun _ => False) rfl rfl ?aP (fun _ hk => hk.elim) ?aF ?aO (Below.refl _ _) ?aS ?aL ?_
          (case aP => exact k61_mkM _ _ _ (⟨t221,t222,t223⟩ : S61))
          (case aF => exact (fun _ _ => trivial))
          (case aO => exact (by (with_reducible repeat (first | apply raq | apply rnq | apply rdq));exact HO_219001.out))
          (case aS => exact (keep_size (w:=w) (g:=g) (row:=none) (by repeat (first | (with_reducible first | exact HK.out | apply KeepBut.set_ | apply k1q | apply keep_drew | apply keep_alloc | refine keep_far ?_ GW209.out _ | refine keep_far ?_ GW210.out _ | refine keep_far ?_ GW218.out _) | exact HK.out))))
          (case aL => have:=LMc30.out;omega)
          intro v228 w33 ho hb hg hat
          rw [← Ny227.out] at ho
          have n0_:=qm (blk_grown (g:=gr) (o:=.cells #[.pointer (some ⟨g,0,none⟩),x1_,x2_] 68 (0,0)) (by (with_reducible repeat (first | refine knq ?_ _ | refine kdq ?_ | refine kaq ?_ _));exact BK209.out) hg (Kd.R_ne HO_219001.out BK209.out (by decide)))
          have n1_:=qm (blk_grown (g:=gb210) (o:=.cells #[.int .i64 0,.slice none 0 0] 59 (0,0)) (by (with_reducible repeat (first | refine knq ?_ _ | refine kdq ?_ | refine kaq ?_ _));exact BK210.out) hg (Kd.R_ne HO_219001.out BK210.out (by decide)))
          have n2_:=qm (blk_grown (g:=gb218) (o:=.cells #[.int .i64 (wrap64 (t211)),u219001] 59 (0,0)) (by (with_reducible repeat (first | refine knq ?_ _ | refine kdq ?_ | refine kaq ?_ _));exact BK218.out) hg (Kd.R_ne HO_219001.out BK218.out (by decide)))
          have n3_:=qm (IsS97.grown (by repeat (first | (with_reducible first | exact HI0.out | apply IsS97.alloc | apply IsS97.drewN | apply IsS97.drew | apply IsS97.set_0 | apply IsS97.set_1 | apply IsS97.set_2 | refine IsS97.far ?_ NB0_209.out _ | refine IsS97.far ?_ NB0_210.out _ | refine IsS97.far ?_ NB0_218.out _) | exact HI0.out)) hg (IsS97.own_ne HI0.out HO_219001.out (by decide)))
          have n4_:=qm (below_weaken (by repeat (first | (with_reducible first | exact HB.out | apply qa | apply qn | apply qd | refine qb ?_ (IsS97.ge HI0.out) | refine qb ?_ GE209.out | refine qb ?_ GE210.out | refine qb ?_ GE218.out) | exact HB.out)) HL.out hb)
          have n5_:=qm (KeepBut.trans (by repeat (first | (with_reducible first | exact HK.out | apply KeepBut.set_ | apply k1q | apply keep_drew | apply keep_alloc | refine keep_far ?_ GW209.out _ | refine keep_far ?_ GW210.out _ | refine keep_far ?_ GW218.out _) | exact HK.out)) (KeepBut.of_grown hg g) (Kd.R_base2 HO_219001.out))
          have n6_:=qm (ho)
          clear BK209
          clear BK210
          clear BK218
          clear HI0
          clear HB
          clear HK
          clear HO_219001
          have BK209:=n0_
          have BK210:=n1_
          have BK218:=n2_
          have HI0:=n3_
          have HB:=n4_
          have HK:=n5_
          have HO229:=n6_
          clear n0_ n1_ n2_ n3_ n4_ n5_ n6_
          clear ho hb hg hat
          obtain ⟨Ao34,co34,eo34⟩:=Kd.R_slice HO229.out
          (first | subst eo34 | (injection eo34 with f1_ f2_ f3_;have f4_:=f1_.symm;have f5_:=f3_.symm;clear f1_ f2_ f3_;subst f4_;subst f5_))
          refine hK.out _ _ ⟨(kcq BK218.out 0).trans rfl,(kcq BK218.out 1).trans rfl⟩ (fun hHeld => ?_)
          clear hK K
          refine norm_ (a':=?_) ?_ ?_
          rotate_left
          ·show Act.put _ (some 45) _ = _
           simp only [Act.put,sA_,sB_,sC_,i64_w,i32_w]
           rfl
          refine pure_ (i:=7) (N:=some 46) (v:=?_) (a':=?_) #[y_,y_,y_,y_,y_,y_,y_,y_,n_] rfl rfl (any_of HT_.out (by kernel_rfl)) (fun _ _ _ h => h) (Or.inl ⟨by rfl,?_⟩) ?_ ?_
          rotate_left
          ·intro w'
           go_simp
           with_reducible rfl
          rotate_left
          ·simp only [Act.put,sA_,sB_,sC_,i64_w,i32_w]
           rfl
          refine last_ (i:=8) (N:=none) #[y_,y_,y_,y_,y_,y_,y_,y_,y_] rfl rfl (one_of HT_.out (by kernel_rfl)) (by decide) (fun K hK => ?_)
          have hs35 : w33.cell? ⟨gb218,1,none⟩ = some (u219001):=(kcq BK218.out 1).trans rfl
          have hfs35:=kfq BK218.out 1
          have hns35_0:=NB209_218.out
          have hns35_1:=NB210_218.out
          have hms35_0:=NB218_209.out
          have hms35_1:=NB218_210.out
          refine skip_ (w1:=?_) (by rfl) rfl ?_ ?_
          rotate_left
          ·go_simp
           rfl
          refine hK.out _ _ ?_
          clear hK K
          refine done_ (done_of HT_.out (by kernel_rfl)) ?_
          try go_wp2
          go_roundg k1
          case measure => have:=HK1.out;omega
          case rel => exact ⟨(wrap64 (x35_1 + 1)),(t224),(t225),(t226),(y227),(.slice Ao34 y227.length co34),(by first | rfl | (simp;done) | (simp [*];done)),H',⟨by have:=HK1.out;omega⟩,⟨by (with_reducible repeat (first | apply raq | apply rnq | apply rdq));exact Kd.R_mono (Kd.R_far (p:=⟨gb218,1,none⟩) (Kd.R_types HO229.out BK218.out (by decide)) (fun _ hk => hk.2) (.slice Ao34 y227.length co34)) (fun _ hk => trivial)⟩,⟨by (with_reducible repeat (first | refine knq ?_ _ | refine kdq ?_ | refine kaq ?_ _));refine blk_far ?_ NB209_218.out _;(with_reducible repeat (first | refine knq ?_ _ | refine kdq ?_ | refine kaq ?_ _));exact BK209.out⟩,⟨by (with_reducible repeat (first | refine knq ?_ _ | refine kdq ?_ | refine kaq ?_ _));refine blk_far ?_ NB210_218.out _;(with_reducible repeat (first | refine knq ?_ _ | refine kdq ?_ | refine kaq ?_ _));exact BK210.out⟩,⟨by (with_reducible repeat (first | refine knq ?_ _ | refine kdq ?_ | refine kaq ?_ _));refine blk_put (cs:=#[.int .i64 (wrap64 (t211)),u219001]) ?_ 1 _ rfl;(with_reducible repeat (first | refine knq ?_ _ | refine kdq ?_ | refine kaq ?_ _));exact BK218.out⟩,⟨by repeat (first | (with_reducible first | exact HI0.out | apply IsS97.alloc | apply IsS97.drewN | apply IsS97.drew | apply IsS97.set_0 | apply IsS97.set_1 | apply IsS97.set_2 | refine IsS97.far ?_ NB0_209.out _ | refine IsS97.far ?_ NB0_210.out _ | refine IsS97.far ?_ NB0_218.out _) | exact HI0.out)⟩,⟨by repeat (first | (with_reducible first | exact HK.out | apply KeepBut.set_ | apply k1q | apply keep_drew | apply keep_alloc | refine keep_far ?_ GW209.out _ | refine keep_far ?_ GW210.out _ | refine keep_far ?_ GW218.out _) | exact HK.out)⟩,⟨by repeat (first | (with_reducible first | exact HB.out | apply qa | apply qn | apply qd | refine qb ?_ (IsS97.ge HI0.out) | refine qb ?_ GE209.out | refine qb ?_ GE210.out | refine qb ?_ GE218.out) | exact HB.out)⟩⟩
         ·rw [if_neg c30] at H
          exact absurd H (by simp)
        ·rw [if_neg c28] at H
         exact absurd H (by simp)
       ·rw [if_neg c27] at H
        exact absurd H (by simp)
      ·rw [if_neg c26] at H
       have c26b0 : decide (x35_1 < (((rd_T53 l1 t211).f1).length : Int)) = false:=decide_eq_false c26
       clear c26
       simp only [o2q,Prod.mk.injEq] at H
       obtain ⟨rfl,rfl,rfl,rfl,rfl⟩:=H
       have hnb36:=NB218_209.out
       have hnc36:=NB209_218.out
       have hnb37:=NB218_210.out
       have hnc37:=NB210_218.out
       have hnb38:=NB218_0.out
       have hnc38:=NB0_218.out
       have hcz39_0 : wr.cell? ⟨gb218,0,none⟩ = some (.int .i64 (wrap64 (t211))):=(kcq BK218.out 0).trans rfl
       have hcz39_1 : wr.cell? ⟨gb218,1,none⟩ = some (u219001):=(kcq BK218.out 1).trans rfl
       have hfz39_0:=kfq BK218.out 0
       have hfz39_1:=kfq BK218.out 1
       have hnb40:=NB210_209.out
       have hnc40:=NB209_210.out
       have hnb41:=NB210_0.out
       have hnc41:=NB0_210.out
       have hcz42_0 : wr.cell? ⟨gb210,0,none⟩ = some (.int .i64 0):=(kcq BK210.out 0).trans rfl
       have hcz42_1 : wr.cell? ⟨gb210,1,none⟩ = some (.slice none 0 0):=(kcq BK210.out 1).trans rfl
       have hfz42_0:=kfq BK210.out 0
       have hfz42_1:=kfq BK210.out 1
       obtain ⟨Ao43,co43,eo43⟩:=Kd.R_slice HO_219001.out
       subst eo43
       go_wp2
       refine bodyPost_ret (results_cell_row rfl _ _ gb210 59 #[.int .i64 (wrap64 (t211)),.slice Ao43 x219001_1.length co43] (0,0) _ rfl (by (with_reducible repeat (first | refine knq ?_ _ | refine kdq ?_ | refine kaq ?_ _));refine blk_put (cs:=#[.int .i64 (wrap64 (t211)),.slice none 0 0]) ?_ 1 _ rfl;(with_reducible repeat (first | refine knq ?_ _ | refine kdq ?_ | refine kaq ?_ _));refine blk_put (cs:=#[.int .i64 0,.slice none 0 0]) ?_ 0 _ rfl;(with_reducible repeat (first | refine knq ?_ _ | refine kdq ?_ | refine kaq ?_ _));exact BK210.out) Try.underlying59 rfl (by kernel_rfl)) rfl ?_
       exact ⟨_,by first | rfl | (simp [errW_none,errW_some] <;> rfl) | (simp [*,errW_none,errW_some] <;> rfl),by (with_reducible repeat (first | apply raq | apply rnq | apply rdq));exact Kd.R_mono (Kd.R_far (p:=⟨gb210,1,none⟩) (Kd.R_far (p:=⟨gb210,0,none⟩) (Kd.R_types HO_219001.out BK210.out (by decide)) (fun _ hk => hk.2) (.int .i64 (wrap64 (t211)))) (fun _ hk => hk.2) (.slice Ao43 x219001_1.length co43)) (fun _ hk => trivial),by repeat (first | (with_reducible first | exact HI0.out | apply IsS97.alloc | apply IsS97.drewN | apply IsS97.drew | apply IsS97.set_0 | apply IsS97.set_1 | apply IsS97.set_2 | refine IsS97.far ?_ NB0_209.out _ | refine IsS97.far ?_ NB0_210.out _ | refine IsS97.far ?_ NB0_218.out _) | exact HI0.out),by repeat (first | (with_reducible first | exact HB.out | apply qa | apply qn | apply qd | refine qb ?_ (IsS97.ge HI0.out) | refine qb ?_ GE209.out | refine qb ?_ GE210.out | refine qb ?_ GE218.out) | exact HB.out),by repeat (first | (with_reducible first | exact HK.out | apply KeepBut.set_ | apply k1q | apply keep_drew | apply keep_alloc | refine keep_far ?_ GW209.out _ | refine keep_far ?_ GW210.out _ | refine keep_far ?_ GW218.out _) | exact HK.out)⟩
   ·rw [if_neg c17] at H
    exact absurd H (by simp)
  ·rw [if_neg c16] at H
   exact absurd H (by simp)

end Go.Proofs.Ytmmfakdncjeoeaa.PU
