-- Contracts of Go functions, each with its plain Lean function: written by wip/tools/myprint.py of this work (the kit's print, with contracts proved by hand spliced in).
import Derived.Test.YtmmfakdncjeoeaaPUx0
import Derived.Test.YtmmfakdncjeoeaaPUx7
import Derived.Test.YtmmfakdncjeoeaaPUx8
import Derived.Test.YtmmfakdncjeoeaaPUx9
import Derived.Test.YtmmfakdncjeoeaaShort
namespace Go.Proofs.Ytmmfakdncjeoeaa.PU
open Go.Proofs.YtmmfakdncjeoeaaShort
open Go.RowKit Go.Proofs.YtmmfakdncjeoeaaW.PrintWords Go.Proofs.YtmmfakdncjeoeaaW.PrintLast Go.Proofs.YtmmfakdncjeoeaaW.PrintMore
attribute [local go_sem] max2_int min2_int max_two min_two max_three min_three max_four min_four   -- for this text's walks alone
set_option linter.unusedVariables false
set_option linter.unusedSimpArgs false

/-! ### unblock_reader_points: function 22 -/
mutual
def unblock_reader_points.j0 : Nat → List (S53) → Int → Int → ByteArray → Int → Int → Int → Option ((List (S56)) × ByteArray × Int × Int)
 | 0, _, _, _, _, _, _, _ => none
 | k + 1, x1, x3, x4, x1000, x1001, x1002, x231000 => (unblock_reader_count.f k x1000 x1001 x1002 4096).bind fun bt242 => (unblock_reader_points.l0 k x1 x3 x4 bt242.1 0 bt242.2.1 bt242.2.2.1 bt242.2.2.2 x231000 ([] : List ByteArray))
def unblock_reader_points.l0 : Nat → List (S53) → Int → Int → Int → Int → ByteArray → Int → Int → Int → List ByteArray → Option ((List (S56)) × ByteArray × Int × Int)
 | 0, _, _, _, _, _, _, _, _, _, _ => none
 | k + 1, x1, x3, x4, x21, x22, x1000, x1001, x1002, x231000, x231002 => if x22 < x21 then ((cursor_Cursor_Text.f k x1000 x1001 x1002 200).bind fun bt246 => (if x231002.length < 8796093022208 then (unblock_reader_points.l0 k x1 x3 x4 x21 (wrap64 (x22 + 1)) bt246.2.1 bt246.2.2.1 bt246.2.2.2 x231000 (x231002 ++ [bt246.1])) else (none))) else (unblock_reader_points.l1 k x1 x3 ([] : List (S56)) x4 0 x231002 x1000 x1001 x1002)
def unblock_reader_points.l1 : Nat → List (S53) → Int → List (S56) → Int → Int → List ByteArray → ByteArray → Int → Int → Option ((List (S56)) × ByteArray × Int × Int)
 | 0, _, _, _, _, _, _, _, _, _ => none
 | k + 1, x1, x3, x5, x39, x40, x87, x1000, x1001, x1002 => if x40 < x39 then (if x40 > 0 then ((unblock_reader_any.f k x1000 x1001 x1002).bind fun bt253 => (if bt253.1 > (IntKind.u64.wrap (18446744073709551615 - x3)) then ((cursor_Cursor_Stop.f bt253.2.1 bt253.2.2.1 bt253.2.2.2 8).bind fun bt257 => (unblock_reader_points.j3 k x1 (IntKind.u64.wrap (x3 + bt253.1)) x5 x39 x40 x87 bt257.1 bt257.2.1 bt257.2.2)) else (unblock_reader_points.j3 k x1 (IntKind.u64.wrap (x3 + bt253.1)) x5 x39 x40 x87 bt253.2.1 bt253.2.2.1 bt253.2.2.2))) else (unblock_reader_points.j3 k x1 x3 x5 x39 x40 x87 x1000 x1001 x1002)) else (some (x5, x1000, x1001, x1002))
def unblock_reader_points.j3 : Nat → List (S53) → Int → List (S56) → Int → Int → List ByteArray → ByteArray → Int → Int → Option ((List (S56)) × ByteArray × Int × Int)
 | 0, _, _, _, _, _, _, _, _, _ => none
 | k + 1, x1, x3, x5, x39, x40, x87, x1000, x1001, x1002 => (unblock_reader_count.f k x1000 x1001 x1002 1024).bind fun bt261 => (unblock_reader_points.l2 k x1 x3 x5 x39 x40 bt261.1 0 x87 bt261.2.1 bt261.2.2.1 bt261.2.2.2 x3 ([] : List (S59)))
def unblock_reader_points.l2 : Nat → List (S53) → Int → List (S56) → Int → Int → Int → Int → List ByteArray → ByteArray → Int → Int → Int → List (S59) → Option ((List (S56)) × ByteArray × Int × Int)
 | 0, _, _, _, _, _, _, _, _, _, _, _, _, _ => none
 | k + 1, x1, x3, x5, x39, x40, x62, x63, x87, x1000, x1001, x1002, x261000, x261001 => if x63 < x62 then ((unblock_reader_event.f k x1000 x1001 x1002 x1 x87).bind fun bt268 => (if x261001.length < 4398046511104 then ((cursor_Cursor_Err.f bt268.2.2.1 bt268.2.2.2.1 bt268.2.2.2.2).bind fun bt278 => (if bt278.1 = 0 then (unblock_reader_points.l2 k x1 x3 x5 x39 x40 x62 (wrap64 (x63 + 1)) x87 bt278.2.1 bt278.2.2.1 bt278.2.2.2 x261000 (x261001 ++ [(⟨bt268.1, bt268.2.1⟩ : S59)])) else (some (x5, bt278.2.1, bt278.2.2.1, bt278.2.2.2)))) else (none))) else (if x5.length < 4398046511104 then (unblock_reader_points.l1 k x1 x3 (x5 ++ [(⟨x261000, x261001⟩ : S56)]) x39 (wrap64 (x40 + 1)) x87 x1000 x1001 x1002) else (none))
end
def unblock_reader_points.f (k : Nat) (s0_0 : ByteArray) (s0_1 : Int) (s0_2 : Int) (l1 : List (S53)) : Option ((List (S56)) × ByteArray × Int × Int) := (unblock_reader_any.f k s0_0 s0_1 s0_2).bind fun bt231 => ((unblock_reader_count.f k bt231.2.1 bt231.2.2.1 bt231.2.2.2 1024).bind fun bt235 => (if bt235.1 = 0 then ((cursor_Cursor_Stop.f bt235.2.1 bt235.2.2.1 bt235.2.2.2 4).bind fun bt239 => (unblock_reader_points.j0 k l1 bt231.1 bt235.1 bt239.1 bt239.2.1 bt239.2.2 771177)) else (unblock_reader_points.j0 k l1 bt231.1 bt235.1 bt235.2.1 bt235.2.2.1 bt235.2.2.2 771177)))
def unblock_reader_points.T7 : Bool × List (List Nat × List Nat) := (true, [([], []), ([], []), ([1], [1]), ([2], [2]), ([3], [3]), ([], []), ([5], [5]), ([6], [6]), ([7], [7]), ([8], [8]), ([9], [9]), ([4, 10, 9], [4, 10]), ([0, 0, 1, 2, 3, 4, 5, 6, 7, 8, 9, 10, 11], [0]), ([12, 0, 1, 2, 3, 4, 5, 6, 7, 8, 9, 10, 11], [12]), ([13, 11, 11, 0, 1, 2, 3, 4, 5, 6, 7, 8, 9, 10, 11], [11, 13])])
def unblock_reader_points.B7 : List Nat := [0, 0, 2, 6, 14, 0, 32, 96, 224, 480, 992, 2046, 4095, 8191, 16383]
theorem unblock_reader_points.tab7 : rtab .any (opsOf Try.f22 7) = unblock_reader_points.T7 := by kernel_rfl
theorem unblock_reader_points.bits7 : waitsOk unblock_reader_points.T7.2 unblock_reader_points.B7 = true := by kernel_rfl
def unblock_reader_points.T21 : Bool × List (List Nat × List Nat) := (true, [([], []), ([0], [0]), ([], []), ([2], [2]), ([3], [3]), ([1, 4, 3], [1, 4]), ([0, 1, 2, 3, 4, 5], []), ([6, 5, 5, 0, 1, 2, 3, 4, 5], [5, 6])])
def unblock_reader_points.B21 : List Nat := [0, 1, 0, 4, 12, 31, 63, 127]
theorem unblock_reader_points.tab21 : rtab .any (opsOf Try.f22 21) = unblock_reader_points.T21 := by kernel_rfl
theorem unblock_reader_points.bits21 : waitsOk unblock_reader_points.T21.2 unblock_reader_points.B21 = true := by kernel_rfl
set_option maxHeartbeats 8000000 in
set_option maxRecDepth 100000 in
theorem unblock_reader_points.calls (k : Nat) (g : Nat) (s0_0 : ByteArray) (s0_1 : Int) (s0_2 : Int) (A1 : Option Addr) (c1 : Nat) (gr : Nat) (l1 : List (S53)) (r1 : List (S56)) (r2 : ByteArray) (r3 : Int) (r4 : Int) (w0 w : World) (hI : IsS97 w0 w g s0_0 s0_1 s0_2) (hB : Below w0.heap.size w0 w) (hr1 : ∀ W_,KeepBut w W_ g (some gr) → Kd.C k53 W_ A1 l1.length l1) (hc1 : l1.length ≤ c1) (h : unblock_reader_points.f k s0_0 s0_1 s0_2 l1 = some (r1,r2,r3,r4)) (x1_ : Value) (hx1_ : x1_ = .slice A1 l1.length c1) (hr_ : w.heap[gr]? = some (.cells #[.pointer (some ⟨g,0,none⟩),x1_,.slice none 0 0] 68 (0,0))) (hne_ : gr ≠ g) (hge_ : w0.heap.size ≤ gr) :
  Calls Try.prog 22 #[.pointer (some ⟨gr,0,none⟩)] w fun e w' => ∃ v0_ : Value,e = .returned (v0_) ∧ Kd.R k56 56 w' w.heap.size (fun _ => True) v0_ r1 ∧ IsS97 w0 w' g r2 r3 r4 ∧ Below w0.heap.size w0 w' ∧ KeepBut w w' g (some gr) ∧ ∃ v_ : Value,w'.heap[gr]? = some (.cells #[.pointer (some ⟨g,0,none⟩),x1_,v_] 68 (0,0)):=by
 have BK230:=qm hr_
 have GE230:=qm hge_
 have NB230_0:=qm hne_
 have NB0_230:=qm (Ne.symm hne_)
 clear hr_ hge_ hne_
 have HX1_:=qm hx1_
 clear hx1_
 have hcr_0:=(show w.cell? ⟨gr,0,none⟩ = some (.pointer (some ⟨g,0,none⟩)) from (kcq BK230.out 0).trans rfl)
 have hcr_1:=(show w.cell? ⟨gr,1,none⟩ = some x1_ from (kcq BK230.out 1).trans rfl).trans (congrArg some HX1_.out)
 have hu68:=Try.underlying68
 have hu56:=Try.underlying56
 have HR1:=qm hr1
 have HC1:=qm hc1
 clear hr1 hc1
 have HI0:=qm hI
 have HK:=qm (KeepBut.refl w g (some gr))
 have HL:=qm hB.size
 clear hI
 have HW0:=qm hB.size
 have HB:=qm hB
 clear hB
 have H : ((unblock_reader_any.f k s0_0 s0_1 s0_2).bind fun bt231 => ((unblock_reader_count.f k bt231.2.1 bt231.2.2.1 bt231.2.2.2 1024).bind fun bt235 => (if bt235.1 = 0 then ((cursor_Cursor_Stop.f bt235.2.1 bt235.2.2.1 bt235.2.2.2 4).bind fun bt239 => (unblock_reader_points.j0 k l1 bt231.1 bt235.1 bt239.1 bt239.2.1 bt239.2.2 771177)) else (unblock_reader_points.j0 k l1 bt231.1 bt235.1 bt235.2.1 bt235.2.2.1 bt235.2.2.2 771177)))) = some (r1,r2,r3,r4):=h
 clear h
 replace H:=obq.mp H
 obtain ⟨⟨t231,t232,t233,t234⟩,A30,H⟩:=H
 replace H : ((unblock_reader_count.f k t232 t233 t234 1024).bind fun bt235 => (if bt235.1 = 0 then ((cursor_Cursor_Stop.f bt235.2.1 bt235.2.2.1 bt235.2.2.2 4).bind fun bt239 => (unblock_reader_points.j0 k l1 t231 bt235.1 bt239.1 bt239.2.1 bt239.2.2 771177)) else (unblock_reader_points.j0 k l1 t231 bt235.1 bt235.2.1 bt235.2.2.1 bt235.2.2.2 771177))) = some (r1,r2,r3,r4):=H
 have A3:=qm A30
 clear A30
 replace H:=obq.mp H
 obtain ⟨⟨t235,t236,t237,t238⟩,A40,H⟩:=H
 replace H : (if t235 = 0 then ((cursor_Cursor_Stop.f t236 t237 t238 4).bind fun bt239 => (unblock_reader_points.j0 k l1 t231 t235 bt239.1 bt239.2.1 bt239.2.2 771177)) else (unblock_reader_points.j0 k l1 t231 t235 t236 t237 t238 771177)) = some (r1,r2,r3,r4):=H
 have A4:=qm A40
 clear A40
 have HC5:=qm H
 clear H
 go_enter Try.func22,Try.ntmps22
 go_wp2
 go_step3
 go_upto_if 14 with (first | ((with_reducible refine gcq (f:=41) rfl ?_);refine glq (some 10) rfl rfl Try.func41 (by kernel_rfl) rfl #[.pointer (some ⟨gr,0,none⟩)] rfl (by (try simp only [l3q,l4q,l5q]);first | done | rfl | (simp only [l1q,l2q];rfl)) ?_;(with_reducible refine (unblock_reader_any.calls k g s0_0 s0_1 s0_2 t231 t232 t233 t234 w0 _ ?side1 ?side2 A3.out gr (ReaderAt.mk (x1:=x1_) (x2:=.slice none 0 0) (by (with_reducible repeat (first | refine knq ?_ _ | refine kdq ?_ | refine kaq ?_ _));exact BK230.out))).mono ?_);(case side1 => repeat (first | (with_reducible first | exact HI0.out | apply IsS97.alloc | apply IsS97.drewN | apply IsS97.drew | apply IsS97.set_0 | apply IsS97.set_1 | apply IsS97.set_2 | refine IsS97.far ?_ NB0_230.out _) | exact HI0.out));(case side2 => repeat (first | (with_reducible first | exact HB.out | apply qa | apply qn | apply qd | refine qb ?_ (IsS97.ge HI0.out) | refine qb ?_ GE230.out) | exact HB.out));rintro e w7 ⟨rfl,hi,hb,hk⟩;refine ⟨_,rfl,?_⟩;have n0_:=qm (KeepBut.blk hk (g':=gr) (o:=.cells #[.pointer (some ⟨g,0,none⟩),x1_,.slice none 0 0] 68 (0,0)) (by (with_reducible repeat (first | refine knq ?_ _ | refine kdq ?_ | refine kaq ?_ _));exact BK230.out) NB230_0.out (by simp));have n1_:=qm (keepR_trans (w:=w) (r:=gr) (by repeat (first | (with_reducible first | exact HK.out | apply KeepBut.set_ | apply k1q | apply keep_drew | apply keepR_alloc | apply keepR_set) | exact HK.out)) hk);have n2_:=qm (hb);have n3_:=qm (hi);clear BK230;clear HK;clear HB;clear HI0;have BK230:=n0_;have HK:=n1_;have HB:=n2_;have HI0:=n3_;clear n0_ n1_ n2_ n3_;(try clear hb);(try clear hb2);(try clear hk);(try clear hi)) | ((with_reducible refine gcq (f:=42) rfl ?_);refine glq (some 12) rfl rfl Try.func42 (by kernel_rfl) rfl #[.pointer (some ⟨gr,0,none⟩),.int .u64 1024] rfl (by (try simp only [l3q,l4q,l5q]);first | done | rfl | (simp only [l1q,l2q];rfl)) ?_;(with_reducible refine (unblock_reader_count.calls k g t232 t233 t234 1024 t235 t236 t237 t238 w0 _ ?side1 ?side2 A4.out gr (ReaderAt.mk (x1:=x1_) (x2:=.slice none 0 0) (by (with_reducible repeat (first | refine knq ?_ _ | refine kdq ?_ | refine kaq ?_ _));exact BK230.out))).mono ?_);(case side1 => repeat (first | (with_reducible first | exact HI0.out | apply IsS97.alloc | apply IsS97.drewN | apply IsS97.drew | apply IsS97.set_0 | apply IsS97.set_1 | apply IsS97.set_2 | refine IsS97.far ?_ NB0_230.out _) | exact HI0.out));(case side2 => repeat (first | (with_reducible first | exact HB.out | apply qa | apply qn | apply qd | refine qb ?_ (IsS97.ge HI0.out) | refine qb ?_ GE230.out) | exact HB.out));rintro e w8 ⟨rfl,hi,hb,hk⟩;refine ⟨_,rfl,?_⟩;have n0_:=qm (KeepBut.blk hk (g':=gr) (o:=.cells #[.pointer (some ⟨g,0,none⟩),x1_,.slice none 0 0] 68 (0,0)) (by (with_reducible repeat (first | refine knq ?_ _ | refine kdq ?_ | refine kaq ?_ _));exact BK230.out) NB230_0.out (by simp));have n1_:=qm (keepR_trans (w:=w) (r:=gr) (by repeat (first | (with_reducible first | exact HK.out | apply KeepBut.set_ | apply k1q | apply keep_drew | apply keepR_alloc | apply keepR_set) | exact HK.out)) hk);have n2_:=qm (hb);have n3_:=qm (hi);clear BK230;clear HK;clear HB;clear HI0;have BK230:=n0_;have HK:=n1_;have HB:=n2_;have HI0:=n3_;clear n0_ n1_ n2_ n3_;(try clear hb);(try clear hb2);(try clear hk);(try clear hi)))
 (try simp only [Act.put,l6q,l7q,l8q])
 go_cut [] (fun wc => ∃ (kq : Nat) (x1000_4 : ByteArray) (x1001_4 : Int) (x1002_4 : Int),Aside0 (unblock_reader_points.j0 kq l1 t231 t235 x1000_4 x1001_4 x1002_4 771177 = some (r1,r2,r3,r4)) ∧ Aside0 (kq ≤ k) ∧ Aside0 (wc.heap[gr]? = some (.cells #[.pointer (some ⟨g,0,none⟩),x1_,(.slice none 0 0)] 68 (0,0))) ∧ Aside0 (IsS97 w0 wc g x1000_4 x1001_4 x1002_4) ∧ Aside0 (KeepBut w wc g (some gr)) ∧ Aside0 (Below w0.heap.size w0 wc))
 case first =>
  have H:=HC5.out
  clear HC5
  by_cases c9 : t235 = 0
  ·rw [if_pos c9] at H
   have c9b0 : (t235 == 0) = true:=beq_iff_eq.mpr c9
   have c9b1 : (t235 != 0) = false:=b2q.mpr c9
   clear c9
   (first | rw [c9b0] | (simp only [i64_w,i32_w];rw [c9b0]) | skip)
   replace H:=obq.mp H
   obtain ⟨⟨t239,t240,t241⟩,A100,H⟩:=H
   replace H : (unblock_reader_points.j0 k l1 t231 t235 t239 t240 t241 771177) = some (r1,r2,r3,r4):=H
   have A10:=qm A100
   clear A100
   have H':=qm H
   clear H
   have hnb11:=NB230_0.out
   have hnc11:=NB0_230.out
   have hcz12_0 : w8.cell? ⟨gr,0,none⟩ = some (.pointer (some ⟨g,0,none⟩)):=(kcq BK230.out 0).trans rfl
   have hcz12_1:=(show w8.cell? ⟨gr,1,none⟩ = some x1_ from (kcq BK230.out 1).trans rfl).trans (congrArg some HX1_.out)
   have hcz12_2 : w8.cell? ⟨gr,2,none⟩ = some (.slice none 0 0):=(kcq BK230.out 2).trans rfl
   have hfz12_0:=kfq BK230.out 0
   have hfz12_1:=kfq BK230.out 1
   have hfz12_2:=kfq BK230.out 2
   go_wp2_with (first | ((with_reducible refine gcq (f:=43) rfl ?_);refine glq (some 19) rfl rfl Try.func43 (by kernel_rfl) rfl #[.pointer (some ⟨g,0,none⟩),.int .i64 4] rfl (by (try simp only [l3q,l4q,l5q]);first | done | rfl | (simp only [l1q,l2q];rfl)) ?_;(with_reducible refine (cursor_Cursor_Stop.calls g t236 t237 t238 4 t239 t240 t241 w0 _ ?side1 ?side2 A10.out).mono ?_);(case side1 => repeat (first | (with_reducible first | exact HI0.out | apply IsS97.alloc | apply IsS97.drewN | apply IsS97.drew | apply IsS97.set_0 | apply IsS97.set_1 | apply IsS97.set_2 | refine IsS97.far ?_ NB0_230.out _) | exact HI0.out));(case side2 => repeat (first | (with_reducible first | exact HB.out | apply qa | apply qn | apply qd | refine qb ?_ (IsS97.ge HI0.out) | refine qb ?_ GE230.out) | exact HB.out));rintro e w13 ⟨rfl,hi,hb,hk⟩;refine ⟨_,rfl,?_⟩;have n0_:=qm (KeepBut.blk hk (g':=gr) (o:=.cells #[.pointer (some ⟨g,0,none⟩),x1_,.slice none 0 0] 68 (0,0)) (by (with_reducible repeat (first | refine knq ?_ _ | refine kdq ?_ | refine kaq ?_ _));exact BK230.out) NB230_0.out (by simp));have n1_:=qm (keepR_trans (w:=w) (r:=gr) (by repeat (first | (with_reducible first | exact HK.out | apply KeepBut.set_ | apply k1q | apply keep_drew | apply keepR_alloc | apply keepR_set) | exact HK.out)) hk);have n2_:=qm (hb);have n3_:=qm (hi);clear BK230;clear HK;clear HB;clear HI0;have BK230:=n0_;have HK:=n1_;have HB:=n2_;have HI0:=n3_;clear n0_ n1_ n2_ n3_;(try clear hb);(try clear hb2);(try clear hk);(try clear hi);have hcr_0:=(show w13.cell? ⟨gr,0,none⟩ = some (.pointer (some ⟨g,0,none⟩)) from (kcq BK230.out 0).trans rfl);have hcr_1:=(show w13.cell? ⟨gr,1,none⟩ = some x1_ from (kcq BK230.out 1).trans rfl).trans (congrArg some HX1_.out)))
   go_meet
   case rel => exact ⟨_,(t239),(t240),(t241),H',⟨by first | omega | exact Nat.le_refl _⟩,⟨by (with_reducible repeat (first | refine knq ?_ _ | refine kdq ?_ | refine kaq ?_ _));exact BK230.out⟩,⟨by repeat (first | (with_reducible first | exact HI0.out | apply IsS97.alloc | apply IsS97.drewN | apply IsS97.drew | apply IsS97.set_0 | apply IsS97.set_1 | apply IsS97.set_2 | refine IsS97.far ?_ NB0_230.out _) | exact HI0.out)⟩,⟨by repeat (first | (with_reducible first | exact HK.out | apply KeepBut.set_ | apply k1q | apply keep_drew | apply keepR_alloc | apply keepR_set) | exact HK.out)⟩,⟨by repeat (first | (with_reducible first | exact HB.out | apply qa | apply qn | apply qd | refine qb ?_ (IsS97.ge HI0.out) | refine qb ?_ GE230.out) | exact HB.out)⟩⟩
  ·rw [if_neg c9] at H
   have c9b0 : (t235 == 0) = false:=b1q.mpr c9
   have c9b1 : (t235 != 0) = true:=bne_iff_ne.mpr c9
   (first | rw [c9b0] | (simp only [i64_w,i32_w];rw [c9b0]) | skip)
   have H':=qm H
   clear H
   go_wp2
   go_meet
   case rel => exact ⟨_,(t236),(t237),(t238),H',⟨by first | omega | exact Nat.le_refl _⟩,⟨by (with_reducible repeat (first | refine knq ?_ _ | refine kdq ?_ | refine kaq ?_ _));exact BK230.out⟩,⟨by repeat (first | (with_reducible first | exact HI0.out | apply IsS97.alloc | apply IsS97.drewN | apply IsS97.drew | apply IsS97.set_0 | apply IsS97.set_1 | apply IsS97.set_2 | refine IsS97.far ?_ NB0_230.out _) | exact HI0.out)⟩,⟨by repeat (first | (with_reducible first | exact HK.out | apply KeepBut.set_ | apply k1q | apply keep_drew | apply keepR_alloc | apply keepR_set) | exact HK.out)⟩,⟨by repeat (first | (with_reducible first | exact HB.out | apply qa | apply qn | apply qd | refine qb ?_ (IsS97.ge HI0.out) | refine qb ?_ GE230.out) | exact HB.out)⟩⟩
 case rest =>
  clear HC5
  (try clear c1);(try clear c2);(try clear p2);(try clear c4);(try clear c9);(try clear c9b0);(try clear c9b1);(try clear c11);(try clear hcz12_0);(try clear hcz12_1);(try clear hcz12_2);(try clear hfz12_0);(try clear hfz12_1);(try clear hfz12_2)
  obtain ⟨kq,x1000_4,x1001_4,x1002_4,HA,HJ4,BK230,HI0,HK,HB⟩:=hcut
  cases kq with
  | zero => exact absurd HA.out (by simp [unblock_reader_points.j0])
  | succ kj4 =>
   have H:=HA.out
   clear HA
   simp only [unblock_reader_points.j0] at H
   replace H:=obq.mp H
   obtain ⟨⟨t242,t243,t244,t245⟩,A140,H⟩:=H
   replace H : (unblock_reader_points.l0 kj4 l1 t231 t235 t242 0 t243 t244 t245 771177 ([] : List ByteArray)) = some (r1,r2,r3,r4):=H
   have A14:=qm A140
   clear A140
   have H':=qm H
   clear H
   go_wp2_with (first | ((with_reducible refine gcq (f:=42) rfl ?_);refine glq (some 21) rfl rfl Try.func42 (by kernel_rfl) rfl #[.pointer (some ⟨gr,0,none⟩),.int .u64 4096] rfl (by (try simp only [l3q,l4q,l5q]);first | done | rfl | (simp only [l1q,l2q];rfl)) ?_;(with_reducible refine (unblock_reader_count.calls kj4 g x1000_4 x1001_4 x1002_4 4096 t242 t243 t244 t245 w0 _ ?side1 ?side2 A14.out gr (ReaderAt.mk (x1:=x1_) (x2:=.slice none 0 0) (by (with_reducible repeat (first | refine knq ?_ _ | refine kdq ?_ | refine kaq ?_ _));exact BK230.out))).mono ?_);(case side1 => repeat (first | (with_reducible first | exact HI0.out | apply IsS97.alloc | apply IsS97.drewN | apply IsS97.drew | apply IsS97.set_0 | apply IsS97.set_1 | apply IsS97.set_2 | refine IsS97.far ?_ NB0_230.out _) | exact HI0.out));(case side2 => repeat (first | (with_reducible first | exact HB.out | apply qa | apply qn | apply qd | refine qb ?_ (IsS97.ge HI0.out) | refine qb ?_ GE230.out) | exact HB.out));rintro e w15 ⟨rfl,hi,hb,hk⟩;refine ⟨_,rfl,?_⟩;have n0_:=qm (KeepBut.blk hk (g':=gr) (o:=.cells #[.pointer (some ⟨g,0,none⟩),x1_,.slice none 0 0] 68 (0,0)) (by (with_reducible repeat (first | refine knq ?_ _ | refine kdq ?_ | refine kaq ?_ _));exact BK230.out) NB230_0.out (by simp));have n1_:=qm (keepR_trans (w:=w) (r:=gr) (by repeat (first | (with_reducible first | exact HK.out | apply KeepBut.set_ | apply k1q | apply keep_drew | apply keepR_alloc | apply keepR_set) | exact HK.out)) hk);have n2_:=qm (hb);have n3_:=qm (hi);clear BK230;clear HK;clear HB;clear HI0;have BK230:=n0_;have HK:=n1_;have HB:=n2_;have HI0:=n3_;clear n0_ n1_ n2_ n3_;(try clear hb);(try clear hb2);(try clear hk);(try clear hi);have hcr_0:=(show w15.cell? ⟨gr,0,none⟩ = some (.pointer (some ⟨g,0,none⟩)) from (kcq BK230.out 0).trans rfl);have hcr_1:=(show w15.cell? ⟨gr,1,none⟩ = some x1_ from (kcq BK230.out 1).trans rfl).trans (congrArg some HX1_.out)))
   try (go_step3;go_wp2)
   go_loopg [22] kj4 (fun kq v22 w' => ∃ (x22_2 : Int) (x1000_2 : ByteArray) (x1001_2 : Int) (x1002_2 : Int) (x231002_2 : List ByteArray) (u231002 : Value),v22 = .int .i64 x22_2 ∧ Aside0 (unblock_reader_points.l0 kq l1 t231 t235 t242 x22_2 x1000_2 x1001_2 x1002_2 771177 x231002_2 = some (r1,r2,r3,r4)) ∧ Aside0 (kq ≤ kj4) ∧ Aside0 (Kd.R Kd.string 9 w' w.heap.size (fun _ => True) u231002 x231002_2) ∧ Aside0 (w'.heap[gr]? = some (.cells #[.pointer (some ⟨g,0,none⟩),x1_,u231002] 68 (0,0))) ∧ Aside0 (IsS97 w0 w' g x1000_2 x1001_2 x1002_2) ∧ Aside0 (KeepBut w w' g (some gr)) ∧ Aside0 (Below w0.heap.size w0 w'))
   case atStart => exact ⟨(0),(t243),(t244),(t245),(([] : List ByteArray)),(.slice none 0 0),(by first | rfl | (simp;done) | (simp [*];done)),H',⟨Nat.le_refl _⟩,⟨by first | exact Kd.R_nil _ _ _ _ _ | exact Kd.N_nil _ _ _ _ _ | exact Kd.V_nil _ _ _ _ _ | exact Kd.Q_nil _ _ _ _ _ | exact Kd.S_nil _ _ _ _ _⟩,⟨by (with_reducible repeat (first | refine knq ?_ _ | refine kdq ?_ | refine kaq ?_ _));exact BK230.out⟩,⟨by repeat (first | (with_reducible first | exact HI0.out | apply IsS97.alloc | apply IsS97.drewN | apply IsS97.drew | apply IsS97.set_0 | apply IsS97.set_1 | apply IsS97.set_2 | refine IsS97.far ?_ NB0_230.out _) | exact HI0.out)⟩,⟨by repeat (first | (with_reducible first | exact HK.out | apply KeepBut.set_ | apply k1q | apply keep_drew | apply keepR_alloc | apply keepR_set) | exact HK.out)⟩,⟨by repeat (first | (with_reducible first | exact HB.out | apply qa | apply qn | apply qd | refine qb ?_ (IsS97.ge HI0.out) | refine qb ?_ GE230.out) | exact HB.out)⟩⟩
   case round =>
    clear H'
    (try clear c1);(try clear c2);(try clear p2);(try clear p3);(try clear c4);(try clear c9);(try clear c9b0);(try clear c9b1);(try clear c11);(try clear hcz12_0);(try clear hcz12_1);(try clear hcz12_2);(try clear hfz12_0);(try clear hfz12_1);(try clear hfz12_2);(try clear p2)
    obtain ⟨x22_2,x1000_2,x1001_2,x1002_2,x231002_2,u231002,rfl,HA,HK2,HO_231002,BK230,HI0,HK,HB⟩:=hrel
    cases gk with
    | zero => exact absurd HA.out (by simp [unblock_reader_points.l0])
    | succ k2 =>
     have H:=HA.out
     clear HA
     simp only [unblock_reader_points.l0] at H
     by_cases c16 : x22_2 < t242
     ·rw [if_pos c16] at H
      have c16b0 : decide (x22_2 < t242) = true:=dt_ c16
      clear c16
      replace H:=obq.mp H
      obtain ⟨⟨t246,t247,t248,t249⟩,A170,H⟩:=H
      replace H : (if x231002_2.length < 8796093022208 then (unblock_reader_points.l0 k2 l1 t231 t235 t242 (wrap64 (x22_2 + 1)) t247 t248 t249 771177 (x231002_2 ++ [t246])) else (none)) = some (r1,r2,r3,r4):=H
      have A17:=qm A170
      clear A170
      by_cases c18 : x231002_2.length < 8796093022208
      ·rw [if_pos c18] at H
       have LMc18:=qm c18
       clear c18
       obtain ⟨y250,hy250⟩ : ∃ y_ : List ByteArray,y_ = (x231002_2 ++ [t246]):=⟨_,rfl⟩
       replace H : (unblock_reader_points.l0 k2 l1 t231 t235 t242 (wrap64 (x22_2 + 1)) t247 t248 t249 771177 y250) = some (r1,r2,r3,r4):=by first | (rw [hy250];with_reducible exact H) | (have H2_:=(Option.bind_some _ _).symm.trans H;rw [hy250];with_reducible exact H2_) | (have H2_:=(Option.bind_some _ _).symm.trans H;with_reducible exact H2_) | with_reducible exact H | (rw [hy250];exact H) | exact H
       have Ny250:=qm hy250
       clear hy250
       have H':=qm H
       clear H
       try go_wp2
       have n0_:=qm (rdq HO_231002.out)
       have n1_:=qm (kdq BK230.out)
       have n2_:=qm (IsS97.drew HI0.out)
       have n3_:=qm (keep_drew HK.out)
       have n4_:=qm (qd HB.out)
       clear HO_231002
       clear BK230
       clear HI0
       clear HK
       clear HB
       have HO_231002:=n0_
       have BK230:=n1_
       have HI0:=n2_
       have HK:=n3_
       have HB:=n4_
       clear n0_ n1_ n2_ n3_ n4_
       refine start_ (n:=15) (S:=fun w' => w'.cell? ⟨gr,0,none⟩ = some (.pointer (some ⟨g,0,none⟩)) ∧ w'.cell? ⟨gr,1,none⟩ = some (x1_) ∧ w'.cell? ⟨gr,2,none⟩ = some (u231002)) (ds:=[14]) #[n_,n_,n_,n_,n_,n_,n_,n_,n_,n_,n_,n_,n_,n_,n_] (by kernel_rfl) rfl rfl ⟨(kcq BK230.out 0).trans rfl,(kcq BK230.out 1).trans rfl,(kcq BK230.out 2).trans rfl⟩ (fun hHeld => ?_);refine with_tabW unblock_reader_points.tab7 unblock_reader_points.bits7 (fun HT_ HW_ => ?_)
       generalize wr.drew = w19 at HO_231002 BK230 HI0 HK HB hHeld ⊢
       refine pure_ (i:=0) (N:=some 24) (v:=?_) (a':=?_) #[y_,n_,n_,n_,n_,n_,n_,n_,n_,n_,n_,n_,n_,n_,n_] rfl rfl (any_of HT_.out (by kernel_rfl)) (fun _ _ _ h => h) (Or.inl ⟨by rfl,?_⟩) ?_ ?_
       rotate_left
       ·intro w'
        go_simp
        with_reducible rfl
       rotate_left
       ·simp only [Act.put,sA_,sB_,sC_,i64_w,i32_w]
        rfl
       refine pure_ (i:=1) (N:=some 25) (v:=?_) (a':=?_) #[y_,y_,n_,n_,n_,n_,n_,n_,n_,n_,n_,n_,n_,n_,n_] rfl rfl (any_of HT_.out (by kernel_rfl)) (fun _ _ _ h => h) (Or.inl ⟨by rfl,?_⟩) ?_ ?_
       rotate_left
       ·intro w'
        go_simp
        with_reducible rfl
       rotate_left
       ·simp only [Act.put,sA_,sB_,sC_,i64_w,i32_w]
        rfl
       refine pure_ (i:=2) (N:=some 26) (v:=?_) (a':=?_) #[y_,y_,y_,n_,n_,n_,n_,n_,n_,n_,n_,n_,n_,n_,n_] rfl rfl (any_of HT_.out (by kernel_rfl)) (fun _ _ _ h => h) (Or.inl ⟨by rfl,?_⟩) ?_ ?_
       rotate_left
       ·intro w'
        go_simp
        with_reducible rfl
       rotate_left
       ·simp only [Act.put,sA_,sB_,sC_,i64_w,i32_w]
        rfl
       refine pure_ (i:=3) (N:=some 27) (v:=?_) (a':=?_) #[y_,y_,y_,y_,n_,n_,n_,n_,n_,n_,n_,n_,n_,n_,n_] rfl rfl (any_of HT_.out (by kernel_rfl)) (fun _ _ _ h => h) (Or.inl ⟨by rfl,?_⟩) ?_ ?_
       rotate_left
       ·intro w'
        go_simp
        with_reducible rfl
       rotate_left
       ·simp only [Act.put,sA_,sB_,sC_,i64_w,i32_w]
        rfl
       refine pure_ (i:=5) (N:=some 29) (v:=?_) (a':=?_) #[y_,y_,y_,y_,n_,y_,n_,n_,n_,n_,n_,n_,n_,n_,n_] rfl rfl (any_of HT_.out (by kernel_rfl)) (fun _ _ _ h => h) (Or.inl ⟨by rfl,?_⟩) ?_ ?_
       rotate_left
       ·intro w'
        go_simp
        with_reducible rfl
       rotate_left
       ·simp only [Act.put,sA_,sB_,sC_,i64_w,i32_w]
        rfl
       refine pure_ (i:=6) (N:=some 30) (v:=?_) (a':=?_) #[y_,y_,y_,y_,n_,y_,y_,n_,n_,n_,n_,n_,n_,n_,n_] rfl rfl (any_of HT_.out (by kernel_rfl)) (fun _ _ _ h => h) (Or.inl ⟨by rfl,?_⟩) ?_ ?_
       rotate_left
       ·intro w'
        go_simp
        with_reducible rfl
       rotate_left
       ·simp only [Act.put,sA_,sB_,sC_,i64_w,i32_w]
        rfl
       refine pure_ (i:=7) (N:=some 31) (v:=?_) (a':=?_) #[y_,y_,y_,y_,n_,y_,y_,y_,n_,n_,n_,n_,n_,n_,n_] rfl rfl (any_of HT_.out (by kernel_rfl)) (fun _ _ _ h => h) (Or.inl ⟨by rfl,?_⟩) ?_ ?_
       rotate_left
       ·intro w'
        go_simp
        with_reducible rfl
       rotate_left
       ·simp only [Act.put,sA_,sB_,sC_,i64_w,i32_w]
        rfl
       refine take_ (i:=4) (N:=some 28) (v:=?_) (a':=?_) #[y_,y_,y_,y_,y_,y_,y_,y_,n_,n_,n_,n_,n_,n_,n_] rfl rfl (take_ofW HT_.out HW_.out (by kernel_rfl)) (fun _ _ _ h => h) (Or.inl ⟨by rfl,?_⟩) hHeld ?_ ?_
       rotate_left
       ·rintro w' ⟨s0,s1,s2⟩
        go_simp
        with_reducible rfl
       rotate_left
       ·simp only [Act.put,sA_,sB_,sC_,i64_w,i32_w]
        rfl
       refine take_ (i:=8) (N:=some 32) (v:=?_) (a':=?_) #[y_,y_,y_,y_,y_,y_,y_,y_,y_,n_,n_,n_,n_,n_,n_] rfl rfl (take_ofW HT_.out HW_.out (by kernel_rfl)) (fun _ _ _ h => h) (Or.inl ⟨by rfl,?_⟩) hHeld ?_ ?_
       rotate_left
       ·rintro w' ⟨s0,s1,s2⟩
        go_simp
        with_reducible rfl
       rotate_left
       ·simp only [Act.put,sA_,sB_,sC_,i64_w,i32_w]
        rfl
       refine one_ (i:=9) (N:=some 33) #[y_,y_,y_,y_,y_,y_,y_,y_,y_,y_,n_,n_,n_,n_,n_] rfl rfl (one_of HT_.out (by kernel_rfl)) (by decide) (fun K hK => ?_)
       refine goes_ Try.func44 (by kernel_rfl) rfl #[.pointer (some ⟨g,0,none⟩),.int .i64 200] (by rfl) rfl rfl (by (try simp only [l3q,l4q,l5q]);first | done | rfl | (simp only [l1q,l2q];rfl)) ?_
       with_reducible refine (cursor_Cursor_Text.calls k2 g x1000_2 x1001_2 x1002_2 200 t246 t247 t248 t249 w0 _ ?side1 ?side2 A17.out).mono ?_
       (case side1 => repeat (first | (with_reducible first | exact HI0.out | apply IsS97.alloc | apply IsS97.drewN | apply IsS97.drew | apply IsS97.set_0 | apply IsS97.set_1 | apply IsS97.set_2 | refine IsS97.far ?_ NB0_230.out _) | exact HI0.out))
       (case side2 => repeat (first | (with_reducible first | exact HB.out | apply qa | apply qn | apply qd | refine qb ?_ (IsS97.ge HI0.out) | refine qb ?_ GE230.out) | exact HB.out))
       rintro e w20 ⟨rfl,hi,hb,hk⟩
       refine ⟨_,rfl,?_⟩
       have n0_:=qm (Kd.R_mono (Kd.R_keep (IsS97.apart (show IsS97 w0 _ g x1000_2 x1001_2 x1002_2 from by repeat (first | (with_reducible first | exact HI0.out | apply IsS97.alloc | apply IsS97.drewN | apply IsS97.drew | apply IsS97.set_0 | apply IsS97.set_1 | apply IsS97.set_2 | refine IsS97.far ?_ NB0_230.out _) | exact HI0.out)) (by (with_reducible repeat (first | apply raq | apply rnq | apply rdq));exact HO_231002.out) (by decide)) hk (fun _ h => h.2)) (fun _ h => h.1))
       have n1_:=qm (KeepBut.blk hk (g':=gr) (o:=.cells #[.pointer (some ⟨g,0,none⟩),x1_,u231002] 68 (0,0)) (by (with_reducible repeat (first | refine knq ?_ _ | refine kdq ?_ | refine kaq ?_ _));exact BK230.out) NB230_0.out (by simp))
       have n2_:=qm (keepR_trans (w:=w) (r:=gr) (by repeat (first | (with_reducible first | exact HK.out | apply KeepBut.set_ | apply k1q | apply keep_drew | apply keepR_alloc | apply keepR_set) | exact HK.out)) hk)
       have n3_:=qm (hb)
       have n4_:=qm (hi)
       clear HO_231002
       clear BK230
       clear HK
       clear HB
       clear HI0
       have HO_231002:=n0_
       have BK230:=n1_
       have HK:=n2_
       have HB:=n3_
       have HI0:=n4_
       clear n0_ n1_ n2_ n3_ n4_
       (try clear hb)
       (try clear hb2)
       (try clear hk)
       (try clear hi)
       refine hK.out _ _ ⟨(kcq BK230.out 0).trans rfl,(kcq BK230.out 1).trans rfl,(kcq BK230.out 2).trans rfl⟩ (fun hHeld => ?_)
       clear hK K
       refine norm_ (a':=?_) ?_ ?_
       rotate_left
       ·show Act.put _ (some 33) _ = _
        simp only [Act.put,sA_,sB_,sC_,i64_w,i32_w]
        rfl
       refine one_ (i:=10) (N:=some 34) #[y_,y_,y_,y_,y_,y_,y_,y_,y_,y_,y_,n_,n_,n_,n_] rfl rfl (one_of HT_.out (by kernel_rfl)) (by decide) (fun K hK => ?_)
       refine value_ (w1:=?_) (v:=?_) (by rfl) rfl ?_ ?_
       rotate_left 2
       ·go_simp
        constructor
        ·rfl
        ·rfl
       refine hK.out _ _ ⟨(kcq (kaq BK230.out _) 0).trans rfl,(kcq (kaq BK230.out _) 1).trans rfl,(kcq (kaq BK230.out _) 2).trans rfl⟩ (fun hHeld => ?_)
       clear hK K
       refine norm_ (a':=?_) ?_ ?_
       rotate_left
       ·show Act.put _ (some 34) _ = _
        simp only [Act.put,sA_,sB_,sC_,i64_w,i32_w]
        rfl
       refine one_ (i:=11) (N:=some 35) #[y_,y_,y_,y_,y_,y_,y_,y_,y_,y_,y_,y_,n_,n_,n_] rfl rfl (one_of HT_.out (by kernel_rfl)) (by decide) (fun K hK => ?_)
       refine Kd.R_append_step Kd.string w.heap.size (by rfl) (.tmp 28) (.tmp 34) 66 9 (.string ⟨#[]⟩) 16 rfl Try.underlying66 info9 rfl (by decide) (by omega) u231002 x231002_2 t246 [.string t246] (fun _ => True) (fun _ => False) rfl rfl ?aP (fun _ hk => hk.elim) ?aF ?aO (Below.refl _ _) ?aS ?aL ?_
       (case aP => exact rfl)
       (case aF => exact (fun _ _ => trivial))
       (case aO => exact (by (with_reducible repeat (first | apply raq | apply rnq | apply rdq));exact HO_231002.out))
       (case aS => exact (keep_size (w:=w) (g:=g) (row:=some gr) (by repeat (first | (with_reducible first | exact HK.out | apply KeepBut.set_ | apply k1q | apply keep_drew | apply keepR_alloc | apply keepR_set) | exact HK.out))))
       (case aL => have:=LMc18.out;omega)
       intro v251 w21 ho hb hg hat
       rw [← Ny250.out] at ho
       have n0_:=qm (blk_grown (g:=gr) (o:=.cells #[.pointer (some ⟨g,0,none⟩),x1_,u231002] 68 (0,0)) (by (with_reducible repeat (first | refine knq ?_ _ | refine kdq ?_ | refine kaq ?_ _));exact BK230.out) hg (Kd.R_ne HO_231002.out BK230.out (by decide)))
       have n1_:=qm (IsS97.grown (by repeat (first | (with_reducible first | exact HI0.out | apply IsS97.alloc | apply IsS97.drewN | apply IsS97.drew | apply IsS97.set_0 | apply IsS97.set_1 | apply IsS97.set_2 | refine IsS97.far ?_ NB0_230.out _) | exact HI0.out)) hg (IsS97.own_ne HI0.out HO_231002.out (by decide)))
       have n2_:=qm (below_weaken (by repeat (first | (with_reducible first | exact HB.out | apply qa | apply qn | apply qd | refine qb ?_ (IsS97.ge HI0.out) | refine qb ?_ GE230.out) | exact HB.out)) HL.out hb)
       have n3_:=qm (keepR_grown (w:=w) (r:=gr) (by repeat (first | (with_reducible first | exact HK.out | apply KeepBut.set_ | apply k1q | apply keep_drew | apply keepR_alloc | apply keepR_set) | exact HK.out)) hg (Kd.R_base2 HO_231002.out))
       have n4_:=qm (ho)
       clear BK230
       clear HI0
       clear HB
       clear HK
       clear HO_231002
       have BK230:=n0_
       have HI0:=n1_
       have HB:=n2_
       have HK:=n3_
       have HO252:=n4_
       clear n0_ n1_ n2_ n3_ n4_
       clear ho hb hg hat
       obtain ⟨Ao22,co22,eo22⟩:=Kd.R_slice HO252.out
       (first | subst eo22 | (injection eo22 with f1_ f2_ f3_;have f4_:=f1_.symm;have f5_:=f3_.symm;clear f1_ f2_ f3_;subst f4_;subst f5_))
       refine hK.out _ _ ⟨(kcq BK230.out 0).trans rfl,(kcq BK230.out 1).trans rfl,(kcq BK230.out 2).trans rfl⟩ (fun hHeld => ?_)
       clear hK K
       refine norm_ (a':=?_) ?_ ?_
       rotate_left
       ·show Act.put _ (some 35) _ = _
        simp only [Act.put,sA_,sB_,sC_,i64_w,i32_w]
        rfl
       refine pure_ (i:=12) (N:=some 36) (v:=?_) (a':=?_) #[y_,y_,y_,y_,y_,y_,y_,y_,y_,y_,y_,y_,y_,n_,n_] rfl rfl (any_of HT_.out (by kernel_rfl)) (fun _ _ _ h => h) (Or.inl ⟨by rfl,?_⟩) ?_ ?_
       rotate_left
       ·intro w'
        go_simp
        with_reducible rfl
       rotate_left
       ·simp only [Act.put,sA_,sB_,sC_,i64_w,i32_w]
        rfl
       refine pure_ (i:=13) (N:=some 37) (v:=?_) (a':=?_) #[y_,y_,y_,y_,y_,y_,y_,y_,y_,y_,y_,y_,y_,y_,n_] rfl rfl (any_of HT_.out (by kernel_rfl)) (fun _ _ _ h => h) (Or.inl ⟨by rfl,?_⟩) ?_ ?_
       rotate_left
       ·intro w'
        go_simp
        with_reducible rfl
       rotate_left
       ·simp only [Act.put,sA_,sB_,sC_,i64_w,i32_w]
        rfl
       refine last_ (i:=14) (N:=none) #[y_,y_,y_,y_,y_,y_,y_,y_,y_,y_,y_,y_,y_,y_,y_] rfl rfl (one_of HT_.out (by kernel_rfl)) (by decide) (fun K hK => ?_)
       have hs23 : w21.cell? ⟨gr,2,none⟩ = some (u231002):=(kcq BK230.out 2).trans rfl
       have hfs23:=kfq BK230.out 2
       refine skip_ (w1:=?_) (by rfl) rfl ?_ ?_
       rotate_left
       ·go_simp
        rfl
       refine hK.out _ _ ?_
       clear hK K
       refine done_ (done_of HT_.out (by kernel_rfl)) ?_
       try go_wp2
       go_roundg k2
       case measure => have:=HJ4.out;have:=HK2.out;omega
       case rel => exact ⟨(wrap64 (x22_2 + 1)),(t247),(t248),(t249),(y250),(.slice Ao22 y250.length co22),(by first | rfl | (simp;done) | (simp [*];done)),H',⟨by have:=HJ4.out;have:=HK2.out;omega⟩,⟨by (with_reducible repeat (first | apply raq | apply rnq | apply rdq));exact Kd.R_mono (Kd.R_far (p:=⟨gr,2,none⟩) (Kd.R_types HO252.out BK230.out (by decide)) (fun _ hk => hk.2) (.slice Ao22 y250.length co22)) (fun _ hk => trivial)⟩,⟨by (with_reducible repeat (first | refine knq ?_ _ | refine kdq ?_ | refine kaq ?_ _));refine blk_put (cs:=#[.pointer (some ⟨g,0,none⟩),x1_,u231002]) ?_ 2 _ rfl;(with_reducible repeat (first | refine knq ?_ _ | refine kdq ?_ | refine kaq ?_ _));exact BK230.out⟩,⟨by repeat (first | (with_reducible first | exact HI0.out | apply IsS97.alloc | apply IsS97.drewN | apply IsS97.drew | apply IsS97.set_0 | apply IsS97.set_1 | apply IsS97.set_2 | refine IsS97.far ?_ NB0_230.out _) | exact HI0.out)⟩,⟨by repeat (first | (with_reducible first | exact HK.out | apply KeepBut.set_ | apply k1q | apply keep_drew | apply keepR_alloc | apply keepR_set) | exact HK.out)⟩,⟨by repeat (first | (with_reducible first | exact HB.out | apply qa | apply qn | apply qd | refine qb ?_ (IsS97.ge HI0.out) | refine qb ?_ GE230.out) | exact HB.out)⟩⟩
      ·rw [if_neg c18] at H
       exact absurd H (by simp)
     ·rw [if_neg c16] at H
      have c16b0 : decide (x22_2 < t242) = false:=decide_eq_false c16
      clear c16
      have H':=qm H
      clear H
      have hnb24:=NB230_0.out
      have hnc24:=NB0_230.out
      have hcz25_0 : wr.cell? ⟨gr,0,none⟩ = some (.pointer (some ⟨g,0,none⟩)):=(kcq BK230.out 0).trans rfl
      have hcz25_1:=(show wr.cell? ⟨gr,1,none⟩ = some x1_ from (kcq BK230.out 1).trans rfl).trans (congrArg some HX1_.out)
      have hcz25_2 : wr.cell? ⟨gr,2,none⟩ = some (u231002):=(kcq BK230.out 2).trans rfl
      have hfz25_0:=kfq BK230.out 0
      have hfz25_1:=kfq BK230.out 1
      have hfz25_2:=kfq BK230.out 2
      go_wp2
      try (go_step3;go_wp2)
      go_loopg [3,5,40] k2 (fun kq v3 v5 v40 w' => ∃ (x3_3 : Int) (x5_3 : List (S56)) (x40_3 : Int) (x1000_3 : ByteArray) (x1001_3 : Int) (x1002_3 : Int),v3 = .int .u64 x3_3 ∧ v40 = .int .i64 x40_3 ∧ Aside0 (unblock_reader_points.l1 kq l1 x3_3 x5_3 t235 x40_3 x231002_2 x1000_3 x1001_3 x1002_3 = some (r1,r2,r3,r4)) ∧ Aside0 (kq ≤ k2) ∧ Aside0 (Kd.R k56 56 w' w.heap.size (fun _ => True) v5 x5_3) ∧ Aside0 (Kd.R Kd.string 9 w' w.heap.size (fun _ => True) u231002 x231002_2) ∧ Aside0 (Kd.R Kd.string 9 w' w.heap.size (fun _ => True) u231002 x231002_2) ∧ Aside0 (w'.heap[gr]? = some (.cells #[.pointer (some ⟨g,0,none⟩),x1_,u231002] 68 (0,0))) ∧ Aside0 (IsS97 w0 w' g x1000_3 x1001_3 x1002_3) ∧ Aside0 (KeepBut w w' g (some gr)) ∧ Aside0 (Below w0.heap.size w0 w'))
      case atStart => exact ⟨(t231),(([] : List (S56))),(0),(x1000_2),(x1001_2),(x1002_2),(by first | rfl | (simp;done) | (simp [*];done)),(by first | rfl | (simp;done) | (simp [*];done)),H',⟨Nat.le_refl _⟩,⟨by first | exact Kd.R_nil _ _ _ _ _ | exact Kd.N_nil _ _ _ _ _ | exact Kd.V_nil _ _ _ _ _ | exact Kd.Q_nil _ _ _ _ _ | exact Kd.S_nil _ _ _ _ _⟩,⟨by (with_reducible repeat (first | apply raq | apply rnq | apply rdq));exact HO_231002.out⟩,⟨by (with_reducible repeat (first | apply raq | apply rnq | apply rdq));exact HO_231002.out⟩,⟨by (with_reducible repeat (first | refine knq ?_ _ | refine kdq ?_ | refine kaq ?_ _));exact BK230.out⟩,⟨by repeat (first | (with_reducible first | exact HI0.out | apply IsS97.alloc | apply IsS97.drewN | apply IsS97.drew | apply IsS97.set_0 | apply IsS97.set_1 | apply IsS97.set_2 | refine IsS97.far ?_ NB0_230.out _) | exact HI0.out)⟩,⟨by repeat (first | (with_reducible first | exact HK.out | apply KeepBut.set_ | apply k1q | apply keep_drew | apply keepR_alloc | apply keepR_set) | exact HK.out)⟩,⟨by repeat (first | (with_reducible first | exact HB.out | apply qa | apply qn | apply qd | refine qb ?_ (IsS97.ge HI0.out) | refine qb ?_ GE230.out) | exact HB.out)⟩⟩
      case round =>
       clear H'
       (try clear c1);(try clear c2);(try clear p2);(try clear p3);(try clear c4);(try clear p6);(try clear c9);(try clear c9b0);(try clear c9b1);(try clear c11);(try clear c16);(try clear c16b0);(try clear c18);(try clear c22);(try clear c24);(try clear hcz12_0);(try clear hcz12_1);(try clear hcz12_2);(try clear hcz25_0);(try clear hcz25_1);(try clear hcz25_2);(try clear hfz12_0);(try clear hfz12_1);(try clear hfz12_2);(try clear hfz25_0);(try clear hfz25_1);(try clear hfz25_2);(try clear p2);(try clear p3)
       obtain ⟨x3_3,x5_3,x40_3,x1000_3,x1001_3,x1002_3,rfl,rfl,HA,HK3,HO_5,HO_87,HO_231002,BK230,HI0,HK,HB⟩:=hrel
       cases gk with
       | zero => exact absurd HA.out (by simp [unblock_reader_points.l1])
       | succ k3 =>
        have H:=HA.out
        clear HA
        simp only [unblock_reader_points.l1] at H
        by_cases c26 : x40_3 < t235
        ·rw [if_pos c26] at H
         have c26b0 : decide (x40_3 < t235) = true:=dt_ c26
         clear c26
         have HC27:=qm H
         clear H
         go_upto_if 44 with (fail)
         go_cut [3] (fun v3 wc => ∃ (kq : Nat) (x3_26 : Int) (x1000_26 : ByteArray) (x1001_26 : Int) (x1002_26 : Int),v3 = .int .u64 x3_26 ∧ Aside0 (unblock_reader_points.j3 kq l1 x3_26 x5_3 t235 x40_3 x231002_2 x1000_26 x1001_26 x1002_26 = some (r1,r2,r3,r4)) ∧ Aside0 (kq ≤ k3) ∧ Aside0 (Kd.R k56 56 wc w.heap.size (fun _ => True) u5 x5_3) ∧ Aside0 (Kd.R Kd.string 9 wc w.heap.size (fun _ => True) u231002 x231002_2) ∧ Aside0 (Kd.R Kd.string 9 wc w.heap.size (fun _ => True) u231002 x231002_2) ∧ Aside0 (wc.heap[gr]? = some (.cells #[.pointer (some ⟨g,0,none⟩),x1_,u231002] 68 (0,0))) ∧ Aside0 (IsS97 w0 wc g x1000_26 x1001_26 x1002_26) ∧ Aside0 (KeepBut w wc g (some gr)) ∧ Aside0 (Below w0.heap.size w0 wc))
         case first =>
          have H:=HC27.out
          clear HC27
          by_cases c28 : x40_3 > 0
          ·rw [if_pos c28] at H
           have c28b0 : decide (0 < x40_3) = true:=dt_ c28
           clear c28
           (first | rw [c28b0] | (simp only [i64_w,i32_w];rw [c28b0]) | skip)
           replace H:=obq.mp H
           obtain ⟨⟨t253,t254,t255,t256⟩,A290,H⟩:=H
           replace H : (if t253 > (IntKind.u64.wrap (18446744073709551615 - x3_3)) then ((cursor_Cursor_Stop.f t254 t255 t256 8).bind fun bt257 => (unblock_reader_points.j3 k3 l1 (IntKind.u64.wrap (x3_3 + t253)) x5_3 t235 x40_3 x231002_2 bt257.1 bt257.2.1 bt257.2.2)) else (unblock_reader_points.j3 k3 l1 (IntKind.u64.wrap (x3_3 + t253)) x5_3 t235 x40_3 x231002_2 t254 t255 t256)) = some (r1,r2,r3,r4):=H
           have A29:=qm A290
           clear A290
           by_cases c30 : t253 > (IntKind.u64.wrap (18446744073709551615 - x3_3))
           ·rw [if_pos c30] at H
            have c30b0 : decide ((IntKind.u64.wrap (18446744073709551615 - x3_3)) < t253) = true:=dt_ c30
            clear c30
            replace H:=obq.mp H
            obtain ⟨⟨t257,t258,t259⟩,A310,H⟩:=H
            replace H : (unblock_reader_points.j3 k3 l1 (IntKind.u64.wrap (x3_3 + t253)) x5_3 t235 x40_3 x231002_2 t257 t258 t259) = some (r1,r2,r3,r4):=H
            have A31:=qm A310
            clear A310
            have H':=qm H
            clear H
            go_wp2_with (first | ((with_reducible refine gcq (f:=41) rfl ?_);refine glq (some 46) rfl rfl Try.func41 (by kernel_rfl) rfl #[.pointer (some ⟨gr,0,none⟩)] rfl (by (try simp only [l3q,l4q,l5q]);first | done | rfl | (simp only [l1q,l2q];rfl)) ?_;(with_reducible refine (unblock_reader_any.calls k3 g x1000_3 x1001_3 x1002_3 t253 t254 t255 t256 w0 _ ?side1 ?side2 A29.out gr (ReaderAt.mk (x1:=x1_) (x2:=u231002) (by (with_reducible repeat (first | refine knq ?_ _ | refine kdq ?_ | refine kaq ?_ _));exact BK230.out))).mono ?_);(case side1 => repeat (first | (with_reducible first | exact HI0.out | apply IsS97.alloc | apply IsS97.drewN | apply IsS97.drew | apply IsS97.set_0 | apply IsS97.set_1 | apply IsS97.set_2 | refine IsS97.far ?_ NB0_230.out _) | exact HI0.out));(case side2 => repeat (first | (with_reducible first | exact HB.out | apply qa | apply qn | apply qd | refine qb ?_ (IsS97.ge HI0.out) | refine qb ?_ GE230.out) | exact HB.out));rintro e w32 ⟨rfl,hi,hb,hk⟩;refine ⟨_,rfl,?_⟩;have n0_:=qm (Kd.R_mono (Kd.R_keep (IsS97.apart (show IsS97 w0 _ g x1000_3 x1001_3 x1002_3 from by repeat (first | (with_reducible first | exact HI0.out | apply IsS97.alloc | apply IsS97.drewN | apply IsS97.drew | apply IsS97.set_0 | apply IsS97.set_1 | apply IsS97.set_2 | refine IsS97.far ?_ NB0_230.out _) | exact HI0.out)) (by (with_reducible repeat (first | apply raq | apply rnq | apply rdq));exact HO_5.out) (by decide)) hk (fun _ h => h.2)) (fun _ h => h.1));have n1_:=qm (Kd.R_mono (Kd.R_keep (IsS97.apart (show IsS97 w0 _ g x1000_3 x1001_3 x1002_3 from by repeat (first | (with_reducible first | exact HI0.out | apply IsS97.alloc | apply IsS97.drewN | apply IsS97.drew | apply IsS97.set_0 | apply IsS97.set_1 | apply IsS97.set_2 | refine IsS97.far ?_ NB0_230.out _) | exact HI0.out)) (by (with_reducible repeat (first | apply raq | apply rnq | apply rdq));exact HO_87.out) (by decide)) hk (fun _ h => h.2)) (fun _ h => h.1));have n2_:=qm (Kd.R_mono (Kd.R_keep (IsS97.apart (show IsS97 w0 _ g x1000_3 x1001_3 x1002_3 from by repeat (first | (with_reducible first | exact HI0.out | apply IsS97.alloc | apply IsS97.drewN | apply IsS97.drew | apply IsS97.set_0 | apply IsS97.set_1 | apply IsS97.set_2 | refine IsS97.far ?_ NB0_230.out _) | exact HI0.out)) (by (with_reducible repeat (first | apply raq | apply rnq | apply rdq));exact HO_231002.out) (by decide)) hk (fun _ h => h.2)) (fun _ h => h.1));have n3_:=qm (KeepBut.blk hk (g':=gr) (o:=.cells #[.pointer (some ⟨g,0,none⟩),x1_,u231002] 68 (0,0)) (by (with_reducible repeat (first | refine knq ?_ _ | refine kdq ?_ | refine kaq ?_ _));exact BK230.out) NB230_0.out (by simp));have n4_:=qm (keepR_trans (w:=w) (r:=gr) (by repeat (first | (with_reducible first | exact HK.out | apply KeepBut.set_ | apply k1q | apply keep_drew | apply keepR_alloc | apply keepR_set) | exact HK.out)) hk);have n5_:=qm (hb);have n6_:=qm (hi);clear HO_5;clear HO_87;clear HO_231002;clear BK230;clear HK;clear HB;clear HI0;have HO_5:=n0_;have HO_87:=n1_;have HO_231002:=n2_;have BK230:=n3_;have HK:=n4_;have HB:=n5_;have HI0:=n6_;clear n0_ n1_ n2_ n3_ n4_ n5_ n6_;(try clear hb);(try clear hb2);(try clear hk);(try clear hi);have hnb33:=NB230_0.out;have hnc33:=NB0_230.out;have hcz34_0 : w32.cell? ⟨gr,0,none⟩ = some (.pointer (some ⟨g,0,none⟩)):=(kcq BK230.out 0).trans rfl;have hcz34_1:=(show w32.cell? ⟨gr,1,none⟩ = some x1_ from (kcq BK230.out 1).trans rfl).trans (congrArg some HX1_.out);have hcz34_2 : w32.cell? ⟨gr,2,none⟩ = some (u231002):=(kcq BK230.out 2).trans rfl;have hfz34_0:=kfq BK230.out 0;have hfz34_1:=kfq BK230.out 1;have hfz34_2:=kfq BK230.out 2;have hcr_0:=(show w32.cell? ⟨gr,0,none⟩ = some (.pointer (some ⟨g,0,none⟩)) from (kcq BK230.out 0).trans rfl);have hcr_1:=(show w32.cell? ⟨gr,1,none⟩ = some x1_ from (kcq BK230.out 1).trans rfl).trans (congrArg some HX1_.out)) | ((with_reducible refine gcq (f:=43) rfl ?_);refine glq (some 55) rfl rfl Try.func43 (by kernel_rfl) rfl #[.pointer (some ⟨g,0,none⟩),.int .i64 8] rfl (by (try simp only [l3q,l4q,l5q]);first | done | rfl | (simp only [l1q,l2q];rfl)) ?_;(with_reducible refine (cursor_Cursor_Stop.calls g t254 t255 t256 8 t257 t258 t259 w0 _ ?side1 ?side2 A31.out).mono ?_);(case side1 => repeat (first | (with_reducible first | exact HI0.out | apply IsS97.alloc | apply IsS97.drewN | apply IsS97.drew | apply IsS97.set_0 | apply IsS97.set_1 | apply IsS97.set_2 | refine IsS97.far ?_ NB0_230.out _) | exact HI0.out));(case side2 => repeat (first | (with_reducible first | exact HB.out | apply qa | apply qn | apply qd | refine qb ?_ (IsS97.ge HI0.out) | refine qb ?_ GE230.out) | exact HB.out));rintro e w35 ⟨rfl,hi,hb,hk⟩;refine ⟨_,rfl,?_⟩;have n0_:=qm (Kd.R_mono (Kd.R_keep (IsS97.apart (show IsS97 w0 _ g t254 t255 t256 from by repeat (first | (with_reducible first | exact HI0.out | apply IsS97.alloc | apply IsS97.drewN | apply IsS97.drew | apply IsS97.set_0 | apply IsS97.set_1 | apply IsS97.set_2 | refine IsS97.far ?_ NB0_230.out _) | exact HI0.out)) (by (with_reducible repeat (first | apply raq | apply rnq | apply rdq));exact HO_5.out) (by decide)) hk (fun _ h => h.2)) (fun _ h => h.1));have n1_:=qm (Kd.R_mono (Kd.R_keep (IsS97.apart (show IsS97 w0 _ g t254 t255 t256 from by repeat (first | (with_reducible first | exact HI0.out | apply IsS97.alloc | apply IsS97.drewN | apply IsS97.drew | apply IsS97.set_0 | apply IsS97.set_1 | apply IsS97.set_2 | refine IsS97.far ?_ NB0_230.out _) | exact HI0.out)) (by (with_reducible repeat (first | apply raq | apply rnq | apply rdq));exact HO_87.out) (by decide)) hk (fun _ h => h.2)) (fun _ h => h.1));have n2_:=qm (Kd.R_mono (Kd.R_keep (IsS97.apart (show IsS97 w0 _ g t254 t255 t256 from by repeat (first | (with_reducible first | exact HI0.out | apply IsS97.alloc | apply IsS97.drewN | apply IsS97.drew | apply IsS97.set_0 | apply IsS97.set_1 | apply IsS97.set_2 | refine IsS97.far ?_ NB0_230.out _) | exact HI0.out)) (by (with_reducible repeat (first | apply raq | apply rnq | apply rdq));exact HO_231002.out) (by decide)) hk (fun _ h => h.2)) (fun _ h => h.1));have n3_:=qm (KeepBut.blk hk (g':=gr) (o:=.cells #[.pointer (some ⟨g,0,none⟩),x1_,u231002] 68 (0,0)) (by (with_reducible repeat (first | refine knq ?_ _ | refine kdq ?_ | refine kaq ?_ _));exact BK230.out) NB230_0.out (by simp));have n4_:=qm (keepR_trans (w:=w) (r:=gr) (by repeat (first | (with_reducible first | exact HK.out | apply KeepBut.set_ | apply k1q | apply keep_drew | apply keepR_alloc | apply keepR_set) | exact HK.out)) hk);have n5_:=qm (hb);have n6_:=qm (hi);clear HO_5;clear HO_87;clear HO_231002;clear BK230;clear HK;clear HB;clear HI0;have HO_5:=n0_;have HO_87:=n1_;have HO_231002:=n2_;have BK230:=n3_;have HK:=n4_;have HB:=n5_;have HI0:=n6_;clear n0_ n1_ n2_ n3_ n4_ n5_ n6_;(try clear hb);(try clear hb2);(try clear hk);(try clear hi);have hcr_0:=(show w35.cell? ⟨gr,0,none⟩ = some (.pointer (some ⟨g,0,none⟩)) from (kcq BK230.out 0).trans rfl);have hcr_1:=(show w35.cell? ⟨gr,1,none⟩ = some x1_ from (kcq BK230.out 1).trans rfl).trans (congrArg some HX1_.out)))
            go_meet
            case rel => exact ⟨_,(IntKind.u64.wrap (x3_3 + t253)),(t257),(t258),(t259),(by first | rfl | (simp;done) | (simp [*];done)),H',⟨by have:=HJ4.out;have:=HK2.out;have:=HK3.out;first | omega | exact Nat.le_refl _⟩,⟨by (with_reducible repeat (first | apply raq | apply rnq | apply rdq));exact HO_5.out⟩,⟨by (with_reducible repeat (first | apply raq | apply rnq | apply rdq));exact HO_87.out⟩,⟨by (with_reducible repeat (first | apply raq | apply rnq | apply rdq));exact HO_231002.out⟩,⟨by (with_reducible repeat (first | refine knq ?_ _ | refine kdq ?_ | refine kaq ?_ _));exact BK230.out⟩,⟨by repeat (first | (with_reducible first | exact HI0.out | apply IsS97.alloc | apply IsS97.drewN | apply IsS97.drew | apply IsS97.set_0 | apply IsS97.set_1 | apply IsS97.set_2 | refine IsS97.far ?_ NB0_230.out _) | exact HI0.out)⟩,⟨by repeat (first | (with_reducible first | exact HK.out | apply KeepBut.set_ | apply k1q | apply keep_drew | apply keepR_alloc | apply keepR_set) | exact HK.out)⟩,⟨by repeat (first | (with_reducible first | exact HB.out | apply qa | apply qn | apply qd | refine qb ?_ (IsS97.ge HI0.out) | refine qb ?_ GE230.out) | exact HB.out)⟩⟩
           ·rw [if_neg c30] at H
            have c30b0 : decide ((IntKind.u64.wrap (18446744073709551615 - x3_3)) < t253) = false:=decide_eq_false c30
            clear c30
            have H':=qm H
            clear H
            go_wp2_with (first | ((with_reducible refine gcq (f:=41) rfl ?_);refine glq (some 46) rfl rfl Try.func41 (by kernel_rfl) rfl #[.pointer (some ⟨gr,0,none⟩)] rfl (by (try simp only [l3q,l4q,l5q]);first | done | rfl | (simp only [l1q,l2q];rfl)) ?_;(with_reducible refine (unblock_reader_any.calls k3 g x1000_3 x1001_3 x1002_3 t253 t254 t255 t256 w0 _ ?side1 ?side2 A29.out gr (ReaderAt.mk (x1:=x1_) (x2:=u231002) (by (with_reducible repeat (first | refine knq ?_ _ | refine kdq ?_ | refine kaq ?_ _));exact BK230.out))).mono ?_);(case side1 => repeat (first | (with_reducible first | exact HI0.out | apply IsS97.alloc | apply IsS97.drewN | apply IsS97.drew | apply IsS97.set_0 | apply IsS97.set_1 | apply IsS97.set_2 | refine IsS97.far ?_ NB0_230.out _) | exact HI0.out));(case side2 => repeat (first | (with_reducible first | exact HB.out | apply qa | apply qn | apply qd | refine qb ?_ (IsS97.ge HI0.out) | refine qb ?_ GE230.out) | exact HB.out));rintro e w36 ⟨rfl,hi,hb,hk⟩;refine ⟨_,rfl,?_⟩;have n0_:=qm (Kd.R_mono (Kd.R_keep (IsS97.apart (show IsS97 w0 _ g x1000_3 x1001_3 x1002_3 from by repeat (first | (with_reducible first | exact HI0.out | apply IsS97.alloc | apply IsS97.drewN | apply IsS97.drew | apply IsS97.set_0 | apply IsS97.set_1 | apply IsS97.set_2 | refine IsS97.far ?_ NB0_230.out _) | exact HI0.out)) (by (with_reducible repeat (first | apply raq | apply rnq | apply rdq));exact HO_5.out) (by decide)) hk (fun _ h => h.2)) (fun _ h => h.1));have n1_:=qm (Kd.R_mono (Kd.R_keep (IsS97.apart (show IsS97 w0 _ g x1000_3 x1001_3 x1002_3 from by repeat (first | (with_reducible first | exact HI0.out | apply IsS97.alloc | apply IsS97.drewN | apply IsS97.drew | apply IsS97.set_0 | apply IsS97.set_1 | apply IsS97.set_2 | refine IsS97.far ?_ NB0_230.out _) | exact HI0.out)) (by (with_reducible repeat (first | apply raq | apply rnq | apply rdq));exact HO_87.out) (by decide)) hk (fun _ h => h.2)) (fun _ h => h.1));have n2_:=qm (Kd.R_mono (Kd.R_keep (IsS97.apart (show IsS97 w0 _ g x1000_3 x1001_3 x1002_3 from by repeat (first | (with_reducible first | exact HI0.out | apply IsS97.alloc | apply IsS97.drewN | apply IsS97.drew | apply IsS97.set_0 | apply IsS97.set_1 | apply IsS97.set_2 | refine IsS97.far ?_ NB0_230.out _) | exact HI0.out)) (by (with_reducible repeat (first | apply raq | apply rnq | apply rdq));exact HO_231002.out) (by decide)) hk (fun _ h => h.2)) (fun _ h => h.1));have n3_:=qm (KeepBut.blk hk (g':=gr) (o:=.cells #[.pointer (some ⟨g,0,none⟩),x1_,u231002] 68 (0,0)) (by (with_reducible repeat (first | refine knq ?_ _ | refine kdq ?_ | refine kaq ?_ _));exact BK230.out) NB230_0.out (by simp));have n4_:=qm (keepR_trans (w:=w) (r:=gr) (by repeat (first | (with_reducible first | exact HK.out | apply KeepBut.set_ | apply k1q | apply keep_drew | apply keepR_alloc | apply keepR_set) | exact HK.out)) hk);have n5_:=qm (hb);have n6_:=qm (hi);clear HO_5;clear HO_87;clear HO_231002;clear BK230;clear HK;clear HB;clear HI0;have HO_5:=n0_;have HO_87:=n1_;have HO_231002:=n2_;have BK230:=n3_;have HK:=n4_;have HB:=n5_;have HI0:=n6_;clear n0_ n1_ n2_ n3_ n4_ n5_ n6_;(try clear hb);(try clear hb2);(try clear hk);(try clear hi);have hcr_0:=(show w36.cell? ⟨gr,0,none⟩ = some (.pointer (some ⟨g,0,none⟩)) from (kcq BK230.out 0).trans rfl);have hcr_1:=(show w36.cell? ⟨gr,1,none⟩ = some x1_ from (kcq BK230.out 1).trans rfl).trans (congrArg some HX1_.out)))
            go_meet
            case rel => exact ⟨_,(IntKind.u64.wrap (x3_3 + t253)),(t254),(t255),(t256),(by first | rfl | (simp;done) | (simp [*];done)),H',⟨by have:=HJ4.out;have:=HK2.out;have:=HK3.out;first | omega | exact Nat.le_refl _⟩,⟨by (with_reducible repeat (first | apply raq | apply rnq | apply rdq));exact HO_5.out⟩,⟨by (with_reducible repeat (first | apply raq | apply rnq | apply rdq));exact HO_87.out⟩,⟨by (with_reducible repeat (first | apply raq | apply rnq | apply rdq));exact HO_231002.out⟩,⟨by (with_reducible repeat (first | refine knq ?_ _ | refine kdq ?_ | refine kaq ?_ _));exact BK230.out⟩,⟨by repeat (first | (with_reducible first | exact HI0.out | apply IsS97.alloc | apply IsS97.drewN | apply IsS97.drew | apply IsS97.set_0 | apply IsS97.set_1 | apply IsS97.set_2 | refine IsS97.far ?_ NB0_230.out _) | exact HI0.out)⟩,⟨by repeat (first | (with_reducible first | exact HK.out | apply KeepBut.set_ | apply k1q | apply keep_drew | apply keepR_alloc | apply keepR_set) | exact HK.out)⟩,⟨by repeat (first | (with_reducible first | exact HB.out | apply qa | apply qn | apply qd | refine qb ?_ (IsS97.ge HI0.out) | refine qb ?_ GE230.out) | exact HB.out)⟩⟩
          ·rw [if_neg c28] at H
           have c28b0 : decide (0 < x40_3) = false:=decide_eq_false c28
           clear c28
           (first | rw [c28b0] | (simp only [i64_w,i32_w];rw [c28b0]) | skip)
           have H':=qm H
           clear H
           go_wp2
           go_meet
           case rel => exact ⟨_,(x3_3),(x1000_3),(x1001_3),(x1002_3),(by first | rfl | (simp;done) | (simp [*];done)),H',⟨by have:=HJ4.out;have:=HK2.out;have:=HK3.out;first | omega | exact Nat.le_refl _⟩,⟨by (with_reducible repeat (first | apply raq | apply rnq | apply rdq));exact HO_5.out⟩,⟨by (with_reducible repeat (first | apply raq | apply rnq | apply rdq));exact HO_87.out⟩,⟨by (with_reducible repeat (first | apply raq | apply rnq | apply rdq));exact HO_231002.out⟩,⟨by (with_reducible repeat (first | refine knq ?_ _ | refine kdq ?_ | refine kaq ?_ _));exact BK230.out⟩,⟨by repeat (first | (with_reducible first | exact HI0.out | apply IsS97.alloc | apply IsS97.drewN | apply IsS97.drew | apply IsS97.set_0 | apply IsS97.set_1 | apply IsS97.set_2 | refine IsS97.far ?_ NB0_230.out _) | exact HI0.out)⟩,⟨by repeat (first | (with_reducible first | exact HK.out | apply KeepBut.set_ | apply k1q | apply keep_drew | apply keepR_alloc | apply keepR_set) | exact HK.out)⟩,⟨by repeat (first | (with_reducible first | exact HB.out | apply qa | apply qn | apply qd | refine qb ?_ (IsS97.ge HI0.out) | refine qb ?_ GE230.out) | exact HB.out)⟩⟩
         case rest =>
          clear HC27
          (try clear c1);(try clear c2);(try clear p2);(try clear c3);(try clear p3);(try clear c4);(try clear p6);(try clear c9);(try clear c9b0);(try clear c9b1);(try clear c11);(try clear c16);(try clear c16b0);(try clear c18);(try clear c22);(try clear c24);(try clear c26);(try clear c26b0);(try clear c28);(try clear c28b0);(try clear c30);(try clear c30b0);(try clear c33);(try clear hcz12_0);(try clear hcz12_1);(try clear hcz12_2);(try clear hcz25_0);(try clear hcz25_1);(try clear hcz25_2);(try clear hcz34_0);(try clear hcz34_1);(try clear hcz34_2);(try clear hfz12_0);(try clear hfz12_1);(try clear hfz12_2);(try clear hfz25_0);(try clear hfz25_1);(try clear hfz25_2);(try clear hfz34_0);(try clear hfz34_1);(try clear hfz34_2);(try clear p2);(try clear p3);(try clear p6)
          obtain ⟨kq,x3_26,x1000_26,x1001_26,x1002_26,rfl,HA,HJ26,HO_5,HO_87,HO_231002,BK230,HI0,HK,HB⟩:=hcut
          cases kq with
          | zero => exact absurd HA.out (by simp [unblock_reader_points.j3])
          | succ kj26 =>
           have H:=HA.out
           clear HA
           simp only [unblock_reader_points.j3] at H
           replace H:=obq.mp H
           obtain ⟨⟨t261,t262,t263,t264⟩,A370,H⟩:=H
           replace H : (unblock_reader_points.l2 kj26 l1 x3_26 x5_3 t235 x40_3 t261 0 x231002_2 t262 t263 t264 x3_26 ([] : List (S59))) = some (r1,r2,r3,r4):=H
           have A37:=qm A370
           clear A370
           have H':=qm H
           clear H
           go_wp2_with (first | ((with_reducible refine gdq (N:=8) rfl ?_);refine box_event ?hg (N:=8) ?hd (cs:=#[.int .u64 0,.slice none 0 0]) (t:=56) ?hr ?_;(case hd => rfl);(case hg => rfl);(case hr => first | (go_simp;done) | (go_simp;rfl));intro gb260 hg w38 hbox hb;have n0_:=qm (Kd.R_below (Kd.R_elderB (by (with_reducible repeat (first | apply raq | apply rnq | apply rdq));exact HO_5.out) gb260 (Nat.le_of_eq hg.symm)) hb);have n1_:=qm (Kd.R_below (by (with_reducible repeat (first | apply raq | apply rnq | apply rdq));exact HO_87.out) hb);have n2_:=qm (Kd.R_below (by (with_reducible repeat (first | apply raq | apply rnq | apply rdq));exact HO_231002.out) hb);have n3_:=qm (blk_below (g:=gr) (o:=.cells #[.pointer (some ⟨g,0,none⟩),x1_,u231002] 68 (0,0)) (by (with_reducible repeat (first | refine knq ?_ _ | refine kdq ?_ | refine kaq ?_ _));exact BK230.out) hb);have n4_:=qm (IsS97.below (by repeat (first | (with_reducible first | exact HI0.out | apply IsS97.alloc | apply IsS97.drewN | apply IsS97.drew | apply IsS97.set_0 | apply IsS97.set_1 | apply IsS97.set_2 | refine IsS97.far ?_ NB0_230.out _) | exact HI0.out)) hb);have n5_:=qm (keepR_trans (w:=w) (r:=gr) (by repeat (first | (with_reducible first | exact HK.out | apply KeepBut.set_ | apply k1q | apply keep_drew | apply keepR_alloc | apply keepR_set) | exact HK.out)) (KeepBut.of_below hb g none));have n6_:=qm (qt (by repeat (first | (with_reducible first | exact HB.out | apply qa | apply qn | apply qd | refine qb ?_ (IsS97.ge HI0.out) | refine qb ?_ GE230.out) | exact HB.out)) hb);have n7_:=qm (hbox);have n8_:=qm ((by rw [hg];exact (keep_size (w:=w) (g:=g) (row:=some gr) (by repeat (first | (with_reducible first | exact HK.out | apply KeepBut.set_ | apply k1q | apply keep_drew | apply keepR_alloc | apply keepR_set) | exact HK.out))) : w.heap.size ≤ gb260));have n9_:=qm ((Nat.le_trans HW0.out (by rw [hg];exact (keep_size (w:=w) (g:=g) (row:=some gr) (by repeat (first | (with_reducible first | exact HK.out | apply KeepBut.set_ | apply k1q | apply keep_drew | apply keepR_alloc | apply keepR_set) | exact HK.out))) : w.heap.size ≤ gb260) : w0.heap.size ≤ gb260));have n10_:=qm ((by rw [hg];exact Nat.ne_of_lt (blk_lt (g:=gr) (o:=.cells #[.pointer (some ⟨g,0,none⟩),x1_,u231002] 68 (0,0)) (by (with_reducible repeat (first | refine knq ?_ _ | refine kdq ?_ | refine kaq ?_ _));exact BK230.out)) : gr ≠ gb260));have n11_:=qm ((by rw [hg];exact Nat.ne_of_gt (blk_lt (g:=gr) (o:=.cells #[.pointer (some ⟨g,0,none⟩),x1_,u231002] 68 (0,0)) (by (with_reducible repeat (first | refine knq ?_ _ | refine kdq ?_ | refine kaq ?_ _));exact BK230.out)) : gb260 ≠ gr));have n12_:=qm ((by rw [hg];exact Nat.ne_of_lt (IsS97.lt (show IsS97 w0 _ g x1000_26 x1001_26 x1002_26 from by repeat (first | (with_reducible first | exact HI0.out | apply IsS97.alloc | apply IsS97.drewN | apply IsS97.drew | apply IsS97.set_0 | apply IsS97.set_1 | apply IsS97.set_2 | refine IsS97.far ?_ NB0_230.out _) | exact HI0.out))) : g ≠ gb260));have n13_:=qm ((by rw [hg];exact Nat.ne_of_gt (IsS97.lt (show IsS97 w0 _ g x1000_26 x1001_26 x1002_26 from by repeat (first | (with_reducible first | exact HI0.out | apply IsS97.alloc | apply IsS97.drewN | apply IsS97.drew | apply IsS97.set_0 | apply IsS97.set_1 | apply IsS97.set_2 | refine IsS97.far ?_ NB0_230.out _) | exact HI0.out))) : gb260 ≠ g));clear HO_5;clear HO_87;clear HO_231002;clear BK230;clear HI0;clear HK;clear HB;have HO_5:=n0_;have HO_87:=n1_;have HO_231002:=n2_;have BK230:=n3_;have HI0:=n4_;have HK:=n5_;have HB:=n6_;have BK260:=n7_;have GW260:=n8_;have GE260:=n9_;have NB230_260:=n10_;have NB260_230:=n11_;have NB0_260:=n12_;have NB260_0:=n13_;clear n0_ n1_ n2_ n3_ n4_ n5_ n6_ n7_ n8_ n9_ n10_ n11_ n12_ n13_;clear hb hbox hg;have hnb39:=NB260_230.out;have hnc39:=NB230_260.out;have hnb40:=NB260_0.out;have hnc40:=NB0_260.out;have hcz41_0 : w38.cell? ⟨gb260,0,none⟩ = some (.int .u64 0):=(kcq BK260.out 0).trans rfl;have hcz41_1 : w38.cell? ⟨gb260,1,none⟩ = some (.slice none 0 0):=(kcq BK260.out 1).trans rfl;have hfz41_0:=kfq BK260.out 0;have hfz41_1:=kfq BK260.out 1;have hcr_0:=(show w38.cell? ⟨gr,0,none⟩ = some (.pointer (some ⟨g,0,none⟩)) from (kcq BK230.out 0).trans rfl);have hcr_1:=(show w38.cell? ⟨gr,1,none⟩ = some x1_ from (kcq BK230.out 1).trans rfl).trans (congrArg some HX1_.out)) | ((with_reducible refine gcq (f:=42) rfl ?_);refine glq (some 62) rfl rfl Try.func42 (by kernel_rfl) rfl #[.pointer (some ⟨gr,0,none⟩),.int .u64 1024] rfl (by (try simp only [l3q,l4q,l5q]);first | done | rfl | (simp only [l1q,l2q];rfl)) ?_;(with_reducible refine (unblock_reader_count.calls kj26 g x1000_26 x1001_26 x1002_26 1024 t261 t262 t263 t264 w0 _ ?side1 ?side2 A37.out gr (ReaderAt.mk (x1:=x1_) (x2:=u231002) (by (with_reducible repeat (first | refine knq ?_ _ | refine kdq ?_ | refine kaq ?_ _));refine blk_far ?_ NB230_260.out _;(with_reducible repeat (first | refine knq ?_ _ | refine kdq ?_ | refine kaq ?_ _));refine blk_far ?_ NB230_260.out _;(with_reducible repeat (first | refine knq ?_ _ | refine kdq ?_ | refine kaq ?_ _));exact BK230.out))).mono ?_);(case side1 => repeat (first | (with_reducible first | exact HI0.out | apply IsS97.alloc | apply IsS97.drewN | apply IsS97.drew | apply IsS97.set_0 | apply IsS97.set_1 | apply IsS97.set_2 | refine IsS97.far ?_ NB0_230.out _ | refine IsS97.far ?_ NB0_260.out _) | exact HI0.out));(case side2 => repeat (first | (with_reducible first | exact HB.out | apply qa | apply qn | apply qd | refine qb ?_ (IsS97.ge HI0.out) | refine qb ?_ GE230.out | refine qb ?_ GE260.out) | exact HB.out));rintro e w42 ⟨rfl,hi,hb,hk⟩;refine ⟨_,rfl,?_⟩;have n0_:=qm (Kd.R_mono (Kd.R_keep (IsS97.apart (show IsS97 w0 _ g x1000_26 x1001_26 x1002_26 from by repeat (first | (with_reducible first | exact HI0.out | apply IsS97.alloc | apply IsS97.drewN | apply IsS97.drew | apply IsS97.set_0 | apply IsS97.set_1 | apply IsS97.set_2 | refine IsS97.far ?_ NB0_230.out _ | refine IsS97.far ?_ NB0_260.out _) | exact HI0.out)) (by (with_reducible repeat (first | apply raq | apply rnq | apply rdq));exact (Kd.R_mono (Kd.R_far (p:=⟨gb260,1,none⟩) (Kd.R_far (p:=⟨gb260,0,none⟩) (Kd.R_mono HO_5.out (fun k_ hk => (⟨hk,hk.2⟩ : _ ∧ k_ ≠ gb260))) (fun _ hk => hk.2) (.int .u64 x3_26)) (fun _ hk => hk.2) (.slice none 0 0)) (fun _ h_ => h_.1))) (by decide)) hk (fun _ h => h.2)) (fun _ h => h.1));have n1_:=qm (Kd.R_mono (Kd.R_keep (IsS97.apart (show IsS97 w0 _ g x1000_26 x1001_26 x1002_26 from by repeat (first | (with_reducible first | exact HI0.out | apply IsS97.alloc | apply IsS97.drewN | apply IsS97.drew | apply IsS97.set_0 | apply IsS97.set_1 | apply IsS97.set_2 | refine IsS97.far ?_ NB0_230.out _ | refine IsS97.far ?_ NB0_260.out _) | exact HI0.out)) (by (with_reducible repeat (first | apply raq | apply rnq | apply rdq));exact (Kd.R_mono (Kd.R_far (p:=⟨gb260,1,none⟩) (Kd.R_far (p:=⟨gb260,0,none⟩) (Kd.R_types HO_87.out BK260.out (by decide)) (fun _ hk => hk.2) (.int .u64 x3_26)) (fun _ hk => hk.2) (.slice none 0 0)) (fun _ h_ => h_.1))) (by decide)) hk (fun _ h => h.2)) (fun _ h => h.1));have n2_:=qm (Kd.R_mono (Kd.R_keep (IsS97.apart (show IsS97 w0 _ g x1000_26 x1001_26 x1002_26 from by repeat (first | (with_reducible first | exact HI0.out | apply IsS97.alloc | apply IsS97.drewN | apply IsS97.drew | apply IsS97.set_0 | apply IsS97.set_1 | apply IsS97.set_2 | refine IsS97.far ?_ NB0_230.out _ | refine IsS97.far ?_ NB0_260.out _) | exact HI0.out)) (by (with_reducible repeat (first | apply raq | apply rnq | apply rdq));exact (Kd.R_mono (Kd.R_far (p:=⟨gb260,1,none⟩) (Kd.R_far (p:=⟨gb260,0,none⟩) (Kd.R_types HO_231002.out BK260.out (by decide)) (fun _ hk => hk.2) (.int .u64 x3_26)) (fun _ hk => hk.2) (.slice none 0 0)) (fun _ h_ => h_.1))) (by decide)) hk (fun _ h => h.2)) (fun _ h => h.1));have n3_:=qm (KeepBut.blk hk (g':=gr) (o:=.cells #[.pointer (some ⟨g,0,none⟩),x1_,u231002] 68 (0,0)) (by (with_reducible repeat (first | refine knq ?_ _ | refine kdq ?_ | refine kaq ?_ _));refine blk_far ?_ NB230_260.out _;(with_reducible repeat (first | refine knq ?_ _ | refine kdq ?_ | refine kaq ?_ _));refine blk_far ?_ NB230_260.out _;(with_reducible repeat (first | refine knq ?_ _ | refine kdq ?_ | refine kaq ?_ _));exact BK230.out) NB230_0.out (by simp));have n4_:=qm (KeepBut.blk hk (g':=gb260) (o:=.cells #[.int .u64 x3_26,.slice none 0 0] 56 (0,0)) (by (with_reducible repeat (first | refine knq ?_ _ | refine kdq ?_ | refine kaq ?_ _));refine blk_put (cs:=#[.int .u64 x3_26,.slice none 0 0]) ?_ 1 _ rfl;(with_reducible repeat (first | refine knq ?_ _ | refine kdq ?_ | refine kaq ?_ _));refine blk_put (cs:=#[.int .u64 0,.slice none 0 0]) ?_ 0 _ rfl;(with_reducible repeat (first | refine knq ?_ _ | refine kdq ?_ | refine kaq ?_ _));exact BK260.out) NB260_0.out (by simp));have n5_:=qm (keepR_trans (w:=w) (r:=gr) (by repeat (first | (with_reducible first | exact HK.out | apply KeepBut.set_ | apply k1q | apply keep_drew | apply keepR_alloc | apply keepR_set | refine keep_far ?_ GW260.out _) | exact HK.out)) hk);have n6_:=qm (hb);have n7_:=qm (hi);clear HO_5;clear HO_87;clear HO_231002;clear BK230;clear BK260;clear HK;clear HB;clear HI0;have HO_5:=n0_;have HO_87:=n1_;have HO_231002:=n2_;have BK230:=n3_;have BK260:=n4_;have HK:=n5_;have HB:=n6_;have HI0:=n7_;clear n0_ n1_ n2_ n3_ n4_ n5_ n6_ n7_;(try clear hb);(try clear hb2);(try clear hk);(try clear hi);have hcr_0:=(show w42.cell? ⟨gr,0,none⟩ = some (.pointer (some ⟨g,0,none⟩)) from (kcq BK230.out 0).trans rfl);have hcr_1:=(show w42.cell? ⟨gr,1,none⟩ = some x1_ from (kcq BK230.out 1).trans rfl).trans (congrArg some HX1_.out)))
           try (go_step3;go_wp2)
           go_loopg [63] kj26 (fun kq v63 w' => ∃ (x63_5 : Int) (x1000_5 : ByteArray) (x1001_5 : Int) (x1002_5 : Int) (x261001_5 : List (S59)) (u261001 : Value),v63 = .int .i64 x63_5 ∧ Aside0 (unblock_reader_points.l2 kq l1 x3_26 x5_3 t235 x40_3 t261 x63_5 x231002_2 x1000_5 x1001_5 x1002_5 x3_26 x261001_5 = some (r1,r2,r3,r4)) ∧ Aside0 (kq ≤ kj26) ∧ Aside0 (Kd.R k56 56 w' w.heap.size (fun k_ => some k_ ≠ (u261001 : Value).ownBlock ∧ k_ ≠ gb260) u5 x5_3) ∧ Aside0 (Kd.R Kd.string 9 w' w.heap.size (fun _ => True) u231002 x231002_2) ∧ Aside0 (Kd.R Kd.string 9 w' w.heap.size (fun _ => True) u231002 x231002_2) ∧ Aside0 (Kd.S k59 59 w' w.heap.size (fun _ => True) u261001 x261001_5) ∧ Aside0 (w'.heap[gr]? = some (.cells #[.pointer (some ⟨g,0,none⟩),x1_,u231002] 68 (0,0))) ∧ Aside0 (w'.heap[gb260]? = some (.cells #[.int .u64 x3_26,u261001] 56 (0,0))) ∧ Aside0 (IsS97 w0 w' g x1000_5 x1001_5 x1002_5) ∧ Aside0 (KeepBut w w' g (some gr)) ∧ Aside0 (Below w0.heap.size w0 w'))
           case atStart => exact ⟨(0),(t262),(t263),(t264),(([] : List (S59))),(.slice none 0 0),(by first | rfl | (simp;done) | (simp [*];done)),H',⟨Nat.le_refl _⟩,⟨by (with_reducible repeat (first | apply raq | apply rnq | apply rdq));exact Kd.R_mono HO_5.out (fun _ hk => ⟨(by simp [Value.ownBlock]),hk.2⟩)⟩,⟨by (with_reducible repeat (first | apply raq | apply rnq | apply rdq));exact HO_87.out⟩,⟨by (with_reducible repeat (first | apply raq | apply rnq | apply rdq));exact HO_231002.out⟩,⟨by first | exact Kd.S_nil _ _ _ _ _ | exact Kd.N_nil _ _ _ _ _ | exact Kd.V_nil _ _ _ _ _ | exact Kd.Q_nil _ _ _ _ _ | exact Kd.R_nil _ _ _ _ _⟩,⟨by (with_reducible repeat (first | refine knq ?_ _ | refine kdq ?_ | refine kaq ?_ _));exact BK230.out⟩,⟨by (with_reducible repeat (first | refine knq ?_ _ | refine kdq ?_ | refine kaq ?_ _));exact BK260.out⟩,⟨by repeat (first | (with_reducible first | exact HI0.out | apply IsS97.alloc | apply IsS97.drewN | apply IsS97.drew | apply IsS97.set_0 | apply IsS97.set_1 | apply IsS97.set_2 | refine IsS97.far ?_ NB0_230.out _ | refine IsS97.far ?_ NB0_260.out _) | exact HI0.out)⟩,⟨by repeat (first | (with_reducible first | exact HK.out | apply KeepBut.set_ | apply k1q | apply keep_drew | apply keepR_alloc | apply keepR_set | refine keep_far ?_ GW260.out _) | exact HK.out)⟩,⟨by repeat (first | (with_reducible first | exact HB.out | apply qa | apply qn | apply qd | refine qb ?_ (IsS97.ge HI0.out) | refine qb ?_ GE230.out | refine qb ?_ GE260.out) | exact HB.out)⟩⟩
           case round =>
            clear H'
            (try clear c1);(try clear c2);(try clear p2);(try clear c3);(try clear p3);(try clear c4);(try clear p6);(try clear c9);(try clear c9b0);(try clear c9b1);(try clear c11);(try clear c16);(try clear c16b0);(try clear c18);(try clear c22);(try clear c24);(try clear c26);(try clear c26b0);(try clear c28);(try clear c28b0);(try clear c30);(try clear c30b0);(try clear c33);(try clear c39);(try clear c40);(try clear c41);(try clear c42);(try clear hcz12_0);(try clear hcz12_1);(try clear hcz12_2);(try clear hcz25_0);(try clear hcz25_1);(try clear hcz25_2);(try clear hcz34_0);(try clear hcz34_1);(try clear hcz34_2);(try clear hcz41_0);(try clear hcz41_1);(try clear hfz12_0);(try clear hfz12_1);(try clear hfz12_2);(try clear hfz25_0);(try clear hfz25_1);(try clear hfz25_2);(try clear hfz34_0);(try clear hfz34_1);(try clear hfz34_2);(try clear hfz41_0);(try clear hfz41_1);(try clear p2);(try clear p3);(try clear p6)
            obtain ⟨x63_5,x1000_5,x1001_5,x1002_5,x261001_5,u261001,rfl,HA,HK5,HO_5,HO_87,HO_231002,HO_261001,BK230,BK260,HI0,HK,HB⟩:=hrel
            cases gk with
            | zero => exact absurd HA.out (by simp [unblock_reader_points.l2])
            | succ k5 =>
             have H:=HA.out
             clear HA
             simp only [unblock_reader_points.l2] at H
             by_cases c43 : x63_5 < t261
             ·rw [if_pos c43] at H
              have c43b0 : decide (x63_5 < t261) = true:=dt_ c43
              clear c43
              replace H:=obq.mp H
              obtain ⟨⟨t268,t269,t272,t273,t274⟩,A440,H⟩:=H
              replace H : (if x261001_5.length < 4398046511104 then ((cursor_Cursor_Err.f t272 t273 t274).bind fun bt278 => (if bt278.1 = 0 then (unblock_reader_points.l2 k5 l1 x3_26 x5_3 t235 x40_3 t261 (wrap64 (x63_5 + 1)) x231002_2 bt278.2.1 bt278.2.2.1 bt278.2.2.2 x3_26 (x261001_5 ++ [(⟨t268,t269⟩ : S59)])) else (some (x5_3,bt278.2.1,bt278.2.2.1,bt278.2.2.2)))) else (none)) = some (r1,r2,r3,r4):=H
              have A44:=qm A440
              clear A440
              by_cases c45 : x261001_5.length < 4398046511104
              ·rw [if_pos c45] at H
               have LMc45:=qm c45
               clear c45
               obtain ⟨y275,hy275⟩ : ∃ y_ : List (S59),y_ = (x261001_5 ++ [(⟨t268,t269⟩ : S59)]):=⟨_,rfl⟩
               replace H : ((cursor_Cursor_Err.f t272 t273 t274).bind fun bt278 => (if bt278.1 = 0 then (unblock_reader_points.l2 k5 l1 x3_26 x5_3 t235 x40_3 t261 (wrap64 (x63_5 + 1)) x231002_2 bt278.2.1 bt278.2.2.1 bt278.2.2.2 x3_26 y275) else (some (x5_3,bt278.2.1,bt278.2.2.1,bt278.2.2.2)))) = some (r1,r2,r3,r4):=by first | (rw [hy275];with_reducible exact H) | (have H2_:=(Option.bind_some _ _).symm.trans H;rw [hy275];with_reducible exact H2_) | (have H2_:=(Option.bind_some _ _).symm.trans H;with_reducible exact H2_) | with_reducible exact H | (rw [hy275];exact H) | exact H
               have Ny275:=qm hy275
               clear hy275
               replace H:=obq.mp H
               obtain ⟨⟨t278,t279,t280,t281⟩,A460,H⟩:=H
               replace H : (if t278 = 0 then (unblock_reader_points.l2 k5 l1 x3_26 x5_3 t235 x40_3 t261 (wrap64 (x63_5 + 1)) x231002_2 t279 t280 t281 x3_26 y275) else (some (x5_3,t279,t280,t281))) = some (r1,r2,r3,r4):=H
               have A46:=qm A460
               clear A460
               by_cases c47 : t278 = 0
               ·rw [if_pos c47] at H
                have c47b0 : (t278 == 0) = true:=beq_iff_eq.mpr c47
                have c47b1 : (t278 != 0) = false:=b2q.mpr c47
                clear c47
                have H':=qm H
                clear H
                try go_wp2
                have n0_:=qm (rdq HO_5.out)
                have n1_:=qm (rdq HO_87.out)
                have n2_:=qm (rdq HO_231002.out)
                have n3_:=qm (Kd.S_drew HO_261001.out)
                have n4_:=qm (kdq BK230.out)
                have n5_:=qm (kdq BK260.out)
                have n6_:=qm (IsS97.drew HI0.out)
                have n7_:=qm (keep_drew HK.out)
                have n8_:=qm (qd HB.out)
                clear HO_5
                clear HO_87
                clear HO_231002
                clear HO_261001
                clear BK230
                clear BK260
                clear HI0
                clear HK
                clear HB
                have HO_5:=n0_
                have HO_87:=n1_
                have HO_231002:=n2_
                have HO_261001:=n3_
                have BK230:=n4_
                have BK260:=n5_
                have HI0:=n6_
                have HK:=n7_
                have HB:=n8_
                clear n0_ n1_ n2_ n3_ n4_ n5_ n6_ n7_ n8_
                obtain ⟨Ao49,co49,eo49⟩:=Kd.R_slice HO_87.out
                (first | subst eo49 | (injection eo49 with f1_ f2_ f3_;have f4_:=f1_.symm;have f5_:=f3_.symm;clear f1_ f2_ f3_;subst f4_;subst f5_))
                refine start_ (n:=8) (S:=fun w' => w'.cell? ⟨gb260,0,none⟩ = some (.int .u64 x3_26) ∧ w'.cell? ⟨gb260,1,none⟩ = some (u261001)) (ds:=[7]) #[n_,n_,n_,n_,n_,n_,n_,n_] (by kernel_rfl) rfl rfl ⟨(kcq BK260.out 0).trans rfl,(kcq BK260.out 1).trans rfl⟩ (fun hHeld => ?_);refine with_tabW unblock_reader_points.tab21 unblock_reader_points.bits21 (fun HT_ HW_ => ?_)
                generalize wr.drew = w48 at HO_5 HO_87 HO_231002 HO_261001 BK230 BK260 HI0 HK HB hHeld ⊢
                refine pure_ (i:=0) (N:=some 65) (v:=?_) (a':=?_) #[y_,n_,n_,n_,n_,n_,n_,n_] rfl rfl (any_of HT_.out (by kernel_rfl)) (fun _ _ _ h => h) (Or.inl ⟨by rfl,?_⟩) ?_ ?_
                rotate_left
                ·intro w'
                 go_simp
                 with_reducible rfl
                rotate_left
                ·simp only [Act.put,sA_,sB_,sC_,i64_w,i32_w]
                 rfl
                refine pure_ (i:=2) (N:=some 67) (v:=?_) (a':=?_) #[y_,n_,y_,n_,n_,n_,n_,n_] rfl rfl (any_of HT_.out (by kernel_rfl)) (fun _ _ _ h => h) (Or.inl ⟨by rfl,?_⟩) ?_ ?_
                rotate_left
                ·intro w'
                 go_simp
                 with_reducible rfl
                rotate_left
                ·simp only [Act.put,sA_,sB_,sC_,i64_w,i32_w]
                 rfl
                refine take_ (i:=1) (N:=some 66) (v:=?_) (a':=?_) #[y_,y_,y_,n_,n_,n_,n_,n_] rfl rfl (take_ofW HT_.out HW_.out (by kernel_rfl)) (fun _ _ _ h => h) (Or.inl ⟨by rfl,?_⟩) hHeld ?_ ?_
                rotate_left
                ·rintro w' ⟨s0,s1⟩
                 go_simp
                 with_reducible rfl
                rotate_left
                ·simp only [Act.put,sA_,sB_,sC_,i64_w,i32_w]
                 rfl
                refine one_ (i:=3) (N:=some 68) #[y_,y_,y_,y_,n_,n_,n_,n_] rfl rfl (one_of HT_.out (by kernel_rfl)) (by decide) (fun K hK => ?_)
                refine goes_ Try.func45 (by kernel_rfl) rfl #[.pointer (some ⟨gr,0,none⟩)] (by rfl) rfl rfl (by (try simp only [l3q,l4q,l5q]);first | done | rfl | (simp only [l1q,l2q];rfl)) ?_
                with_reducible refine (unblock_reader_event.calls k5 g x1000_5 x1001_5 x1002_5 A1 c1 l1 Ao49 co49 x231002_2 t268 t269 t272 t273 t274 w0 _ ?side1 ?side2 ?side3 ?side4 ?side5 ?side6 ?side7 A44.out gr x1_ (.slice Ao49 x231002_2.length co49) HX1_.out rfl (by (with_reducible repeat (first | refine knq ?_ _ | refine kdq ?_ | refine kaq ?_ _));exact BK230.out) NB230_0.out GE230.out).mono ?_
                (case side1 => repeat (first | (with_reducible first | exact HI0.out | apply IsS97.alloc | apply IsS97.drewN | apply IsS97.drew | apply IsS97.set_0 | apply IsS97.set_1 | apply IsS97.set_2 | refine IsS97.far ?_ NB0_230.out _ | refine IsS97.far ?_ NB0_260.out _) | exact HI0.out))
                (case side2 => repeat (first | (with_reducible first | exact HB.out | apply qa | apply qn | apply qd | refine qb ?_ (IsS97.ge HI0.out) | refine qb ?_ GE230.out | refine qb ?_ GE260.out) | exact HB.out))
                (case side3 => exact footR_step (r:=gr) HR1.out (by repeat (first | (with_reducible first | exact HK.out | apply KeepBut.set_ | apply k1q | apply keep_drew | apply keepR_alloc | apply keepR_set | refine keep_far ?_ GW260.out _) | exact HK.out)))
                (case side4 => exact HC1.out)
                (case side5 => repeat (first | exact (Kd.R_reads' HO_87.out).2.2 | (with_reducible first | refine caq ?_ _ | refine cnq ?_ _ | refine cdq ?_)))
                (case side6 => exact (Kd.R_reads' HO_87.out).2.1)
                (case side7 => exact far_slice (IsS97.own_ne HI0.out HO_87.out (by decide)))
                rintro e w50 ⟨v270,rfl,ho0,hi,hb,hk⟩
                refine ⟨_,rfl,?_⟩
                have n0_:=qm (Kd.R_mono (Kd.R_told (Kd.R_oldK (IsS97.apart (show IsS97 w0 _ g x1000_5 x1001_5 x1002_5 from by repeat (first | (with_reducible first | exact HI0.out | apply IsS97.alloc | apply IsS97.drewN | apply IsS97.drew | apply IsS97.set_0 | apply IsS97.set_1 | apply IsS97.set_2 | refine IsS97.far ?_ NB0_230.out _ | refine IsS97.far ?_ NB0_260.out _) | exact HI0.out)) (by (with_reducible repeat (first | apply raq | apply rnq | apply rdq));exact HO_5.out) (by decide)) hk) (Kd.R_base ho0)) (fun _ h_ => h_.1))
                have n1_:=qm (Kd.R_mono (Kd.R_keep (IsS97.apart (show IsS97 w0 _ g x1000_5 x1001_5 x1002_5 from by repeat (first | (with_reducible first | exact HI0.out | apply IsS97.alloc | apply IsS97.drewN | apply IsS97.drew | apply IsS97.set_0 | apply IsS97.set_1 | apply IsS97.set_2 | refine IsS97.far ?_ NB0_230.out _ | refine IsS97.far ?_ NB0_260.out _) | exact HI0.out)) (by (with_reducible repeat (first | apply raq | apply rnq | apply rdq));exact HO_87.out) (by decide)) hk (fun _ h => h.2)) (fun _ h => h.1))
                have n2_:=qm (Kd.R_mono (Kd.R_keep (IsS97.apart (show IsS97 w0 _ g x1000_5 x1001_5 x1002_5 from by repeat (first | (with_reducible first | exact HI0.out | apply IsS97.alloc | apply IsS97.drewN | apply IsS97.drew | apply IsS97.set_0 | apply IsS97.set_1 | apply IsS97.set_2 | refine IsS97.far ?_ NB0_230.out _ | refine IsS97.far ?_ NB0_260.out _) | exact HI0.out)) (by (with_reducible repeat (first | apply raq | apply rnq | apply rdq));exact HO_231002.out) (by decide)) hk (fun _ h => h.2)) (fun _ h => h.1))
                have n3_:=qm (Kd.S_mono (Kd.S_told (Kd.S_oldK (IsS97.apartS (show IsS97 w0 _ g x1000_5 x1001_5 x1002_5 from by repeat (first | (with_reducible first | exact HI0.out | apply IsS97.alloc | apply IsS97.drewN | apply IsS97.drew | apply IsS97.set_0 | apply IsS97.set_1 | apply IsS97.set_2 | refine IsS97.far ?_ NB0_230.out _ | refine IsS97.far ?_ NB0_260.out _) | exact HI0.out)) (by (with_reducible repeat (first | apply Kd.S_alloc | apply Kd.S_drewN | apply Kd.S_drew));exact HO_261001.out) (by decide)) hk) (Kd.R_base ho0)) (fun _ h_ => h_.1))
                have n4_:=qm (KeepBut.blk hk (g':=gr) (o:=.cells #[.pointer (some ⟨g,0,none⟩),x1_,.slice Ao49 x231002_2.length co49] 68 (0,0)) (by (with_reducible repeat (first | refine knq ?_ _ | refine kdq ?_ | refine kaq ?_ _));exact BK230.out) NB230_0.out (by simp))
                have n5_:=qm (KeepBut.blk hk (g':=gb260) (o:=.cells #[.int .u64 x3_26,u261001] 56 (0,0)) (by (with_reducible repeat (first | refine knq ?_ _ | refine kdq ?_ | refine kaq ?_ _));exact BK260.out) NB260_0.out (by simp))
                have n6_:=qm (Kd.R_lower ho0 (keep_size (w:=w) (g:=g) (row:=some gr) (by repeat (first | (with_reducible first | exact HK.out | apply KeepBut.set_ | apply k1q | apply keep_drew | apply keepR_alloc | apply keepR_set | refine keep_far ?_ GW260.out _) | exact HK.out))))
                have n7_:=qm (keepR_trans (w:=w) (r:=gr) (by repeat (first | (with_reducible first | exact HK.out | apply KeepBut.set_ | apply k1q | apply keep_drew | apply keepR_alloc | apply keepR_set | refine keep_far ?_ GW260.out _) | exact HK.out)) hk)
                have n8_:=qm (hb)
                have n9_:=qm (hi)
                clear HO_5
                clear HO_87
                clear HO_231002
                clear HO_261001
                clear BK230
                clear BK260
                clear HK
                clear HB
                clear HI0
                have HO_5:=n0_
                have HO_87:=n1_
                have HO_231002:=n2_
                have HO_261001:=n3_
                have BK230:=n4_
                have BK260:=n5_
                have HO271:=n6_
                have HK:=n7_
                have HB:=n8_
                have HI0:=n9_
                clear n0_ n1_ n2_ n3_ n4_ n5_ n6_ n7_ n8_ n9_
                (try clear hb)
                (try clear hb2)
                (try clear hk)
                (try clear hi)
                (try clear ho0)
                obtain ⟨Ao52,co52,eo52⟩:=Kd.R_slice HO271.out
                (first | subst eo52 | (injection eo52 with f1_ f2_ f3_;have f4_:=f1_.symm;have f5_:=f3_.symm;clear f1_ f2_ f3_;subst f4_;subst f5_))
                refine hK.out _ _ ⟨(kcq BK260.out 0).trans rfl,(kcq BK260.out 1).trans rfl⟩ (fun hHeld => ?_)
                clear hK K
                refine norm_ (a':=?_) ?_ ?_
                rotate_left
                ·show Act.put _ (some 68) _ = _
                 simp only [Act.put,sA_,sB_,sC_,i64_w,i32_w]
                 rfl
                refine one_ (i:=4) (N:=some 69) #[y_,y_,y_,y_,y_,n_,n_,n_] rfl rfl (one_of HT_.out (by kernel_rfl)) (by decide) (fun K hK => ?_)
                refine value_ (w1:=?_) (v:=?_) (by rfl) rfl ?_ ?_
                rotate_left 2
                ·go_simp
                 constructor
                 ·rfl
                 ·rfl
                refine hK.out _ _ ⟨(kcq (kaq BK260.out _) 0).trans rfl,(kcq (kaq BK260.out _) 1).trans rfl⟩ (fun hHeld => ?_)
                clear hK K
                refine norm_ (a':=?_) ?_ ?_
                rotate_left
                ·show Act.put _ (some 69) _ = _
                 simp only [Act.put,sA_,sB_,sC_,i64_w,i32_w]
                 rfl
                refine one_ (i:=5) (N:=some 70) #[y_,y_,y_,y_,y_,y_,n_,n_] rfl rfl (one_of HT_.out (by kernel_rfl)) (by decide) (fun K hK => ?_)
                refine Kd.S_append_step k59 w.heap.size (by rfl) (.tmp 66) (.tmp 69) 54 59 (.agg #[(.int .i64 0),(.slice none 0 0)]) 32 rfl Try.underlying54 info59 rfl (by decide) (by omega) u261001 x261001_5 (⟨t268,t269⟩ : S59) [.int .i64 t268,.slice Ao52 t269.length co52] (fun _ => True) (fun k_ => some k_ = (.slice Ao52 t269.length co52 : Value).ownBlock) rfl rfl ?aP (fun k_ hk_ => ((Kd.R_mono (ok':=fun k_ => ((fun _ => True)) k_ ∧ some k_ ≠ (u261001 : Value).ownBlock) (Kd.R_apart' (HO271.out) (Kd.S_typed HO_261001.out) (by decide)) (fun k_ hk => ⟨trivial,hk.2⟩))).1 k_ hk_.symm) ?aF ?aO (Below.refl _ _) ?aS ?aL ?_
                (case aP => exact k59_mkM _ _ _ (⟨t268,t269⟩ : S59) (Kd.R_mono (Kd.R_tight rfl (Kd.R_mono (ok':=fun k_ => ((fun _ => True)) k_ ∧ some k_ ≠ (u261001 : Value).ownBlock) (Kd.R_apart' (HO271.out) (Kd.S_typed HO_261001.out) (by decide)) (fun k_ hk => ⟨trivial,hk.2⟩))) (fun _ h_ => h_)))
                (case aF => exact (fun _ _ => trivial))
                (case aO => exact (by (with_reducible repeat (first | apply Kd.S_alloc | apply Kd.S_drewN | apply Kd.S_drew));exact Kd.S_mono HO_261001.out (fun k_ hk => ⟨trivial,fun e_ => hk.2 e_⟩)))
                (case aS => exact (keep_size (w:=w) (g:=g) (row:=some gr) (by repeat (first | (with_reducible first | exact HK.out | apply KeepBut.set_ | apply k1q | apply keep_drew | apply keepR_alloc | apply keepR_set | refine keep_far ?_ GW260.out _) | exact HK.out))))
                (case aL => have:=LMc45.out;omega)
                intro v276 w51 ho hb hg hat
                rw [← Ny275.out] at ho
                have n0_:=qm (Kd.R_after (ok:=(fun k_ => some k_ ≠ (.slice Ao52 t269.length co52 : Value).ownBlock ∧ k_ ≠ gb260)) (by (with_reducible repeat (first | apply raq | apply rnq | apply rdq));exact Kd.R_mono HO_5.out (fun _ hk => ⟨⟨hk.2,hk.1.2⟩,hk.1.1⟩)) hg hat)
                have n1_:=qm (Kd.R_over' (by (with_reducible repeat (first | apply raq | apply rnq | apply rdq));exact HO_87.out) (Kd.S_typed (by (with_reducible repeat (first | apply Kd.S_alloc | apply Kd.S_drewN | apply Kd.S_drew));exact HO_261001.out)) (by decide) hg)
                have n2_:=qm (Kd.R_over' (by (with_reducible repeat (first | apply raq | apply rnq | apply rdq));exact HO_231002.out) (Kd.S_typed (by (with_reducible repeat (first | apply Kd.S_alloc | apply Kd.S_drewN | apply Kd.S_drew));exact HO_261001.out)) (by decide) hg)
                have n3_:=qm (blk_grown (g:=gr) (o:=.cells #[.pointer (some ⟨g,0,none⟩),x1_,.slice Ao49 x231002_2.length co49] 68 (0,0)) (by (with_reducible repeat (first | refine knq ?_ _ | refine kdq ?_ | refine kaq ?_ _));exact BK230.out) hg (Kd.S_ne HO_261001.out BK230.out (by decide)))
                have n4_:=qm (blk_grown (g:=gb260) (o:=.cells #[.int .u64 x3_26,u261001] 56 (0,0)) (by (with_reducible repeat (first | refine knq ?_ _ | refine kdq ?_ | refine kaq ?_ _));exact BK260.out) hg (Kd.S_ne HO_261001.out BK260.out (by decide)))
                have n5_:=qm (IsS97.grown (by repeat (first | (with_reducible first | exact HI0.out | apply IsS97.alloc | apply IsS97.drewN | apply IsS97.drew | apply IsS97.set_0 | apply IsS97.set_1 | apply IsS97.set_2 | refine IsS97.far ?_ NB0_230.out _ | refine IsS97.far ?_ NB0_260.out _) | exact HI0.out)) hg (IsS97.own_neS HI0.out HO_261001.out (by decide)))
                have n6_:=qm (below_weaken (by repeat (first | (with_reducible first | exact HB.out | apply qa | apply qn | apply qd | refine qb ?_ (IsS97.ge HI0.out) | refine qb ?_ GE230.out | refine qb ?_ GE260.out) | exact HB.out)) HL.out hb)
                have n7_:=qm (keepR_grown (w:=w) (r:=gr) (by repeat (first | (with_reducible first | exact HK.out | apply KeepBut.set_ | apply k1q | apply keep_drew | apply keepR_alloc | apply keepR_set | refine keep_far ?_ GW260.out _) | exact HK.out)) hg (Kd.S_base2 HO_261001.out))
                have n8_:=qm (ho)
                clear HO_5
                clear HO_87
                clear HO_231002
                clear BK230
                clear BK260
                clear HI0
                clear HB
                clear HK
                clear HO_261001
                clear HO271
                have HO_5:=n0_
                have HO_87:=n1_
                have HO_231002:=n2_
                have BK230:=n3_
                have BK260:=n4_
                have HI0:=n5_
                have HB:=n6_
                have HK:=n7_
                have HO277:=n8_
                clear n0_ n1_ n2_ n3_ n4_ n5_ n6_ n7_ n8_
                clear ho hb hg hat
                obtain ⟨Ao53,co53,eo53⟩:=Kd.S_slice HO277.out
                (first | subst eo53 | (injection eo53 with f1_ f2_ f3_;have f4_:=f1_.symm;have f5_:=f3_.symm;clear f1_ f2_ f3_;subst f4_;subst f5_))
                refine hK.out _ _ ⟨(kcq BK260.out 0).trans rfl,(kcq BK260.out 1).trans rfl⟩ (fun hHeld => ?_)
                clear hK K
                refine norm_ (a':=?_) ?_ ?_
                rotate_left
                ·show Act.put _ (some 70) _ = _
                 simp only [Act.put,sA_,sB_,sC_,i64_w,i32_w]
                 rfl
                refine pure_ (i:=6) (N:=some 71) (v:=?_) (a':=?_) #[y_,y_,y_,y_,y_,y_,y_,n_] rfl rfl (any_of HT_.out (by kernel_rfl)) (fun _ _ _ h => h) (Or.inl ⟨by rfl,?_⟩) ?_ ?_
                rotate_left
                ·intro w'
                 go_simp
                 with_reducible rfl
                rotate_left
                ·simp only [Act.put,sA_,sB_,sC_,i64_w,i32_w]
                 rfl
                refine last_ (i:=7) (N:=none) #[y_,y_,y_,y_,y_,y_,y_,y_] rfl rfl (one_of HT_.out (by kernel_rfl)) (by decide) (fun K hK => ?_)
                have hs54 : w51.cell? ⟨gb260,1,none⟩ = some (u261001):=(kcq BK260.out 1).trans rfl
                have hfs54:=kfq BK260.out 1
                have hns54_0:=NB230_260.out
                have hms54_0:=NB260_230.out
                refine skip_ (w1:=?_) (by rfl) rfl ?_ ?_
                rotate_left
                ·go_simp
                 rfl
                refine hK.out _ _ ?_
                clear hK K
                refine done_ (done_of HT_.out (by kernel_rfl)) ?_
                have hnb55:=NB230_260.out
                have hnc55:=NB260_230.out
                have hnb56:=NB230_0.out
                have hnc56:=NB0_230.out
                have hcz57_0 : w51.cell? ⟨gr,0,none⟩ = some (.pointer (some ⟨g,0,none⟩)):=(kcq BK230.out 0).trans rfl
                have hcz57_1:=(show w51.cell? ⟨gr,1,none⟩ = some x1_ from (kcq BK230.out 1).trans rfl).trans (congrArg some HX1_.out)
                have hcz57_2 : w51.cell? ⟨gr,2,none⟩ = some (.slice Ao49 x231002_2.length co49):=(kcq BK230.out 2).trans rfl
                have hfz57_0:=kfq BK230.out 0
                have hfz57_1:=kfq BK230.out 1
                have hfz57_2:=kfq BK230.out 2
                try go_wp2_with (first | ((with_reducible refine gcq (f:=24) rfl ?_);refine glq (some 76) rfl rfl Try.func24 (by kernel_rfl) rfl #[.pointer (some ⟨g,0,none⟩)] rfl (by (try simp only [l3q,l4q,l5q]);first | done | rfl | (simp only [l1q,l2q];rfl)) ?_;(with_reducible refine (cursor_Cursor_Err.calls g t272 t273 t274 t278 t279 t280 t281 w0 _ ?side1 ?side2 A46.out).mono ?_);(case side1 => repeat (first | (with_reducible first | exact HI0.out | apply IsS97.alloc | apply IsS97.drewN | apply IsS97.drew | apply IsS97.set_0 | apply IsS97.set_1 | apply IsS97.set_2 | refine IsS97.far ?_ NB0_230.out _ | refine IsS97.far ?_ NB0_260.out _) | exact HI0.out));(case side2 => repeat (first | (with_reducible first | exact HB.out | apply qa | apply qn | apply qd | refine qb ?_ (IsS97.ge HI0.out) | refine qb ?_ GE230.out | refine qb ?_ GE260.out) | exact HB.out));rintro e w58 ⟨rfl,hi,hb,hk⟩;refine ⟨_,rfl,?_⟩;have n0_:=qm (Kd.R_mono (Kd.R_keep (IsS97.apart (show IsS97 w0 _ g t272 t273 t274 from by repeat (first | (with_reducible first | exact HI0.out | apply IsS97.alloc | apply IsS97.drewN | apply IsS97.drew | apply IsS97.set_0 | apply IsS97.set_1 | apply IsS97.set_2 | refine IsS97.far ?_ NB0_230.out _ | refine IsS97.far ?_ NB0_260.out _) | exact HI0.out)) (by (with_reducible repeat (first | apply raq | apply rnq | apply rdq));exact (Kd.R_mono (Kd.R_far (p:=⟨gb260,1,none⟩) (Kd.R_mono HO_5.out (fun k_ hk => (⟨hk,hk.1.2⟩ : _ ∧ k_ ≠ gb260))) (fun _ hk => hk.2) (.slice Ao53 y275.length co53)) (fun _ h_ => h_.1))) (by decide)) hk (fun _ h => h.2)) (fun _ h => h.1));have n1_:=qm (Kd.R_mono (Kd.R_keep (IsS97.apart (show IsS97 w0 _ g t272 t273 t274 from by repeat (first | (with_reducible first | exact HI0.out | apply IsS97.alloc | apply IsS97.drewN | apply IsS97.drew | apply IsS97.set_0 | apply IsS97.set_1 | apply IsS97.set_2 | refine IsS97.far ?_ NB0_230.out _ | refine IsS97.far ?_ NB0_260.out _) | exact HI0.out)) (by (with_reducible repeat (first | apply raq | apply rnq | apply rdq));exact (Kd.R_mono (Kd.R_far (p:=⟨gb260,1,none⟩) (Kd.R_types HO_87.out BK260.out (by decide)) (fun _ hk => hk.2) (.slice Ao53 y275.length co53)) (fun _ h_ => h_.1))) (by decide)) hk (fun _ h => h.2)) (fun _ h => h.1));have n2_:=qm (Kd.R_mono (Kd.R_keep (IsS97.apart (show IsS97 w0 _ g t272 t273 t274 from by repeat (first | (with_reducible first | exact HI0.out | apply IsS97.alloc | apply IsS97.drewN | apply IsS97.drew | apply IsS97.set_0 | apply IsS97.set_1 | apply IsS97.set_2 | refine IsS97.far ?_ NB0_230.out _ | refine IsS97.far ?_ NB0_260.out _) | exact HI0.out)) (by (with_reducible repeat (first | apply raq | apply rnq | apply rdq));exact (Kd.R_mono (Kd.R_far (p:=⟨gb260,1,none⟩) (Kd.R_types HO_231002.out BK260.out (by decide)) (fun _ hk => hk.2) (.slice Ao53 y275.length co53)) (fun _ h_ => h_.1))) (by decide)) hk (fun _ h => h.2)) (fun _ h => h.1));have n3_:=qm (KeepBut.blk hk (g':=gr) (o:=.cells #[.pointer (some ⟨g,0,none⟩),x1_,.slice Ao49 x231002_2.length co49] 68 (0,0)) (by (with_reducible repeat (first | refine knq ?_ _ | refine kdq ?_ | refine kaq ?_ _));refine blk_far ?_ NB230_260.out _;(with_reducible repeat (first | refine knq ?_ _ | refine kdq ?_ | refine kaq ?_ _));exact BK230.out) NB230_0.out (by simp));have n4_:=qm (KeepBut.blk hk (g':=gb260) (o:=.cells #[.int .u64 x3_26,.slice Ao53 y275.length co53] 56 (0,0)) (by (with_reducible repeat (first | refine knq ?_ _ | refine kdq ?_ | refine kaq ?_ _));refine blk_put (cs:=#[.int .u64 x3_26,u261001]) ?_ 1 _ rfl;(with_reducible repeat (first | refine knq ?_ _ | refine kdq ?_ | refine kaq ?_ _));exact BK260.out) NB260_0.out (by simp));have n5_:=qm (Kd.S_mono (Kd.S_keep (IsS97.apartS (show IsS97 w0 _ g t272 t273 t274 from by repeat (first | (with_reducible first | exact HI0.out | apply IsS97.alloc | apply IsS97.drewN | apply IsS97.drew | apply IsS97.set_0 | apply IsS97.set_1 | apply IsS97.set_2 | refine IsS97.far ?_ NB0_230.out _ | refine IsS97.far ?_ NB0_260.out _) | exact HI0.out)) (by (with_reducible repeat (first | apply Kd.S_alloc | apply Kd.S_drewN | apply Kd.S_drew));exact (Kd.S_mono (Kd.S_far (p:=⟨gb260,1,none⟩) (Kd.S_types HO277.out BK260.out (by decide)) (fun _ hk => hk.2) (.slice Ao53 y275.length co53)) (fun _ h_ => h_.1))) (by decide)) hk (fun _ h => h.2)) (fun _ h => h.1));have n6_:=qm (keepR_trans (w:=w) (r:=gr) (by repeat (first | (with_reducible first | exact HK.out | apply KeepBut.set_ | apply k1q | apply keep_drew | apply keepR_alloc | apply keepR_set | refine keep_far ?_ GW260.out _) | exact HK.out)) hk);have n7_:=qm (hb);have n8_:=qm (hi);clear HO_5;clear HO_87;clear HO_231002;clear BK230;clear BK260;clear HO277;clear HK;clear HB;clear HI0;have HO_5:=n0_;have HO_87:=n1_;have HO_231002:=n2_;have BK230:=n3_;have BK260:=n4_;have HO277:=n5_;have HK:=n6_;have HB:=n7_;have HI0:=n8_;clear n0_ n1_ n2_ n3_ n4_ n5_ n6_ n7_ n8_;(try clear hb);(try clear hb2);(try clear hk);(try clear hi);have hcr_0:=(show w58.cell? ⟨gr,0,none⟩ = some (.pointer (some ⟨g,0,none⟩)) from (kcq BK230.out 0).trans rfl);have hcr_1:=(show w58.cell? ⟨gr,1,none⟩ = some x1_ from (kcq BK230.out 1).trans rfl).trans (congrArg some HX1_.out)))
                go_roundg k5
                case measure => have:=HJ4.out;have:=HK2.out;have:=HK3.out;have:=HJ26.out;have:=HK5.out;omega
                case rel => exact ⟨(wrap64 (x63_5 + 1)),(t279),(t280),(t281),(y275),(.slice Ao53 y275.length co53),(by first | rfl | (simp;done) | (simp [*];done)),H',⟨by have:=HJ4.out;have:=HK2.out;have:=HK3.out;have:=HJ26.out;have:=HK5.out;omega⟩,⟨by (with_reducible repeat (first | apply raq | apply rnq | apply rdq));exact Kd.R_mono HO_5.out (fun _ hk => ⟨hk.2,hk.1.2⟩)⟩,⟨by (with_reducible repeat (first | apply raq | apply rnq | apply rdq));exact HO_87.out⟩,⟨by (with_reducible repeat (first | apply raq | apply rnq | apply rdq));exact HO_231002.out⟩,⟨by (with_reducible repeat (first | apply Kd.S_alloc | apply Kd.S_drewN | apply Kd.S_drew));exact HO277.out⟩,⟨by (with_reducible repeat (first | refine knq ?_ _ | refine kdq ?_ | refine kaq ?_ _));exact BK230.out⟩,⟨by (with_reducible repeat (first | refine knq ?_ _ | refine kdq ?_ | refine kaq ?_ _));exact BK260.out⟩,⟨by repeat (first | (with_reducible first | exact HI0.out | apply IsS97.alloc | apply IsS97.drewN | apply IsS97.drew | apply IsS97.set_0 | apply IsS97.set_1 | apply IsS97.set_2 | refine IsS97.far ?_ NB0_230.out _ | refine IsS97.far ?_ NB0_260.out _) | exact HI0.out)⟩,⟨by repeat (first | (with_reducible first | exact HK.out | apply KeepBut.set_ | apply k1q | apply keep_drew | apply keepR_alloc | apply keepR_set | refine keep_far ?_ GW260.out _) | exact HK.out)⟩,⟨by repeat (first | (with_reducible first | exact HB.out | apply qa | apply qn | apply qd | refine qb ?_ (IsS97.ge HI0.out) | refine qb ?_ GE230.out | refine qb ?_ GE260.out) | exact HB.out)⟩⟩
               ·rw [if_neg c47] at H
                have c47b0 : (t278 == 0) = false:=b1q.mpr c47
                have c47b1 : (t278 != 0) = true:=bne_iff_ne.mpr c47
                simp only [o2q,Prod.mk.injEq] at H
                obtain ⟨rfl,rfl,rfl,rfl⟩:=H
                try go_wp2
                have n0_:=qm (rdq HO_5.out)
                have n1_:=qm (rdq HO_87.out)
                have n2_:=qm (rdq HO_231002.out)
                have n3_:=qm (Kd.S_drew HO_261001.out)
                have n4_:=qm (kdq BK230.out)
                have n5_:=qm (kdq BK260.out)
                have n6_:=qm (IsS97.drew HI0.out)
                have n7_:=qm (keep_drew HK.out)
                have n8_:=qm (qd HB.out)
                clear HO_5
                clear HO_87
                clear HO_231002
                clear HO_261001
                clear BK230
                clear BK260
                clear HI0
                clear HK
                clear HB
                have HO_5:=n0_
                have HO_87:=n1_
                have HO_231002:=n2_
                have HO_261001:=n3_
                have BK230:=n4_
                have BK260:=n5_
                have HI0:=n6_
                have HK:=n7_
                have HB:=n8_
                clear n0_ n1_ n2_ n3_ n4_ n5_ n6_ n7_ n8_
                obtain ⟨Ao60,co60,eo60⟩:=Kd.R_slice HO_87.out
                (first | subst eo60 | (injection eo60 with f1_ f2_ f3_;have f4_:=f1_.symm;have f5_:=f3_.symm;clear f1_ f2_ f3_;subst f4_;subst f5_))
                refine start_ (n:=8) (S:=fun w' => w'.cell? ⟨gb260,0,none⟩ = some (.int .u64 x3_26) ∧ w'.cell? ⟨gb260,1,none⟩ = some (u261001)) (ds:=[7]) #[n_,n_,n_,n_,n_,n_,n_,n_] (by kernel_rfl) rfl rfl ⟨(kcq BK260.out 0).trans rfl,(kcq BK260.out 1).trans rfl⟩ (fun hHeld => ?_);refine with_tabW unblock_reader_points.tab21 unblock_reader_points.bits21 (fun HT_ HW_ => ?_)
                generalize wr.drew = w59 at HO_5 HO_87 HO_231002 HO_261001 BK230 BK260 HI0 HK HB hHeld ⊢
                refine pure_ (i:=0) (N:=some 65) (v:=?_) (a':=?_) #[y_,n_,n_,n_,n_,n_,n_,n_] rfl rfl (any_of HT_.out (by kernel_rfl)) (fun _ _ _ h => h) (Or.inl ⟨by rfl,?_⟩) ?_ ?_
                rotate_left
                ·intro w'
                 go_simp
                 with_reducible rfl
                rotate_left
                ·simp only [Act.put,sA_,sB_,sC_,i64_w,i32_w]
                 rfl
                refine pure_ (i:=2) (N:=some 67) (v:=?_) (a':=?_) #[y_,n_,y_,n_,n_,n_,n_,n_] rfl rfl (any_of HT_.out (by kernel_rfl)) (fun _ _ _ h => h) (Or.inl ⟨by rfl,?_⟩) ?_ ?_
                rotate_left
                ·intro w'
                 go_simp
                 with_reducible rfl
                rotate_left
                ·simp only [Act.put,sA_,sB_,sC_,i64_w,i32_w]
                 rfl
                refine take_ (i:=1) (N:=some 66) (v:=?_) (a':=?_) #[y_,y_,y_,n_,n_,n_,n_,n_] rfl rfl (take_ofW HT_.out HW_.out (by kernel_rfl)) (fun _ _ _ h => h) (Or.inl ⟨by rfl,?_⟩) hHeld ?_ ?_
                rotate_left
                ·rintro w' ⟨s0,s1⟩
                 go_simp
                 with_reducible rfl
                rotate_left
                ·simp only [Act.put,sA_,sB_,sC_,i64_w,i32_w]
                 rfl
                refine one_ (i:=3) (N:=some 68) #[y_,y_,y_,y_,n_,n_,n_,n_] rfl rfl (one_of HT_.out (by kernel_rfl)) (by decide) (fun K hK => ?_)
                refine goes_ Try.func45 (by kernel_rfl) rfl #[.pointer (some ⟨gr,0,none⟩)] (by rfl) rfl rfl (by (try simp only [l3q,l4q,l5q]);first | done | rfl | (simp only [l1q,l2q];rfl)) ?_
                with_reducible refine (unblock_reader_event.calls k5 g x1000_5 x1001_5 x1002_5 A1 c1 l1 Ao60 co60 x231002_2 t268 t269 t272 t273 t274 w0 _ ?side1 ?side2 ?side3 ?side4 ?side5 ?side6 ?side7 A44.out gr x1_ (.slice Ao60 x231002_2.length co60) HX1_.out rfl (by (with_reducible repeat (first | refine knq ?_ _ | refine kdq ?_ | refine kaq ?_ _));exact BK230.out) NB230_0.out GE230.out).mono ?_
                (case side1 => repeat (first | (with_reducible first | exact HI0.out | apply IsS97.alloc | apply IsS97.drewN | apply IsS97.drew | apply IsS97.set_0 | apply IsS97.set_1 | apply IsS97.set_2 | refine IsS97.far ?_ NB0_230.out _ | refine IsS97.far ?_ NB0_260.out _) | exact HI0.out))
                (case side2 => repeat (first | (with_reducible first | exact HB.out | apply qa | apply qn | apply qd | refine qb ?_ (IsS97.ge HI0.out) | refine qb ?_ GE230.out | refine qb ?_ GE260.out) | exact HB.out))
                (case side3 => exact footR_step (r:=gr) HR1.out (by repeat (first | (with_reducible first | exact HK.out | apply KeepBut.set_ | apply k1q | apply keep_drew | apply keepR_alloc | apply keepR_set | refine keep_far ?_ GW260.out _) | exact HK.out)))
                (case side4 => exact HC1.out)
                (case side5 => repeat (first | exact (Kd.R_reads' HO_87.out).2.2 | (with_reducible first | refine caq ?_ _ | refine cnq ?_ _ | refine cdq ?_)))
                (case side6 => exact (Kd.R_reads' HO_87.out).2.1)
                (case side7 => exact far_slice (IsS97.own_ne HI0.out HO_87.out (by decide)))
                rintro e w61 ⟨v270,rfl,ho0,hi,hb,hk⟩
                refine ⟨_,rfl,?_⟩
                have n0_:=qm (Kd.R_mono (Kd.R_told (Kd.R_oldK (IsS97.apart (show IsS97 w0 _ g x1000_5 x1001_5 x1002_5 from by repeat (first | (with_reducible first | exact HI0.out | apply IsS97.alloc | apply IsS97.drewN | apply IsS97.drew | apply IsS97.set_0 | apply IsS97.set_1 | apply IsS97.set_2 | refine IsS97.far ?_ NB0_230.out _ | refine IsS97.far ?_ NB0_260.out _) | exact HI0.out)) (by (with_reducible repeat (first | apply raq | apply rnq | apply rdq));exact HO_5.out) (by decide)) hk) (Kd.R_base ho0)) (fun _ h_ => h_.1))
                have n1_:=qm (Kd.R_mono (Kd.R_keep (IsS97.apart (show IsS97 w0 _ g x1000_5 x1001_5 x1002_5 from by repeat (first | (with_reducible first | exact HI0.out | apply IsS97.alloc | apply IsS97.drewN | apply IsS97.drew | apply IsS97.set_0 | apply IsS97.set_1 | apply IsS97.set_2 | refine IsS97.far ?_ NB0_230.out _ | refine IsS97.far ?_ NB0_260.out _) | exact HI0.out)) (by (with_reducible repeat (first | apply raq | apply rnq | apply rdq));exact HO_87.out) (by decide)) hk (fun _ h => h.2)) (fun _ h => h.1))
                have n2_:=qm (Kd.R_mono (Kd.R_keep (IsS97.apart (show IsS97 w0 _ g x1000_5 x1001_5 x1002_5 from by repeat (first | (with_reducible first | exact HI0.out | apply IsS97.alloc | apply IsS97.drewN | apply IsS97.drew | apply IsS97.set_0 | apply IsS97.set_1 | apply IsS97.set_2 | refine IsS97.far ?_ NB0_230.out _ | refine IsS97.far ?_ NB0_260.out _) | exact HI0.out)) (by (with_reducible repeat (first | apply raq | apply rnq | apply rdq));exact HO_231002.out) (by decide)) hk (fun _ h => h.2)) (fun _ h => h.1))
                have n3_:=qm (Kd.S_mono (Kd.S_told (Kd.S_oldK (IsS97.apartS (show IsS97 w0 _ g x1000_5 x1001_5 x1002_5 from by repeat (first | (with_reducible first | exact HI0.out | apply IsS97.alloc | apply IsS97.drewN | apply IsS97.drew | apply IsS97.set_0 | apply IsS97.set_1 | apply IsS97.set_2 | refine IsS97.far ?_ NB0_230.out _ | refine IsS97.far ?_ NB0_260.out _) | exact HI0.out)) (by (with_reducible repeat (first | apply Kd.S_alloc | apply Kd.S_drewN | apply Kd.S_drew));exact HO_261001.out) (by decide)) hk) (Kd.R_base ho0)) (fun _ h_ => h_.1))
                have n4_:=qm (KeepBut.blk hk (g':=gr) (o:=.cells #[.pointer (some ⟨g,0,none⟩),x1_,.slice Ao60 x231002_2.length co60] 68 (0,0)) (by (with_reducible repeat (first | refine knq ?_ _ | refine kdq ?_ | refine kaq ?_ _));exact BK230.out) NB230_0.out (by simp))
                have n5_:=qm (KeepBut.blk hk (g':=gb260) (o:=.cells #[.int .u64 x3_26,u261001] 56 (0,0)) (by (with_reducible repeat (first | refine knq ?_ _ | refine kdq ?_ | refine kaq ?_ _));exact BK260.out) NB260_0.out (by simp))
                have n6_:=qm (Kd.R_lower ho0 (keep_size (w:=w) (g:=g) (row:=some gr) (by repeat (first | (with_reducible first | exact HK.out | apply KeepBut.set_ | apply k1q | apply keep_drew | apply keepR_alloc | apply keepR_set | refine keep_far ?_ GW260.out _) | exact HK.out))))
                have n7_:=qm (keepR_trans (w:=w) (r:=gr) (by repeat (first | (with_reducible first | exact HK.out | apply KeepBut.set_ | apply k1q | apply keep_drew | apply keepR_alloc | apply keepR_set | refine keep_far ?_ GW260.out _) | exact HK.out)) hk)
                have n8_:=qm (hb)
                have n9_:=qm (hi)
                clear HO_5
                clear HO_87
                clear HO_231002
                clear HO_261001
                clear BK230
                clear BK260
                clear HK
                clear HB
                clear HI0
                have HO_5:=n0_
                have HO_87:=n1_
                have HO_231002:=n2_
                have HO_261001:=n3_
                have BK230:=n4_
                have BK260:=n5_
                have HO271:=n6_
                have HK:=n7_
                have HB:=n8_
                have HI0:=n9_
                clear n0_ n1_ n2_ n3_ n4_ n5_ n6_ n7_ n8_ n9_
                (try clear hb)
                (try clear hb2)
                (try clear hk)
                (try clear hi)
                (try clear ho0)
                obtain ⟨Ao63,co63,eo63⟩:=Kd.R_slice HO271.out
                (first | subst eo63 | (injection eo63 with f1_ f2_ f3_;have f4_:=f1_.symm;have f5_:=f3_.symm;clear f1_ f2_ f3_;subst f4_;subst f5_))
                refine hK.out _ _ ⟨(kcq BK260.out 0).trans rfl,(kcq BK260.out 1).trans rfl⟩ (fun hHeld => ?_)
                clear hK K
                refine norm_ (a':=?_) ?_ ?_
                rotate_left
                ·show Act.put _ (some 68) _ = _
                 simp only [Act.put,sA_,sB_,sC_,i64_w,i32_w]
                 rfl
                refine one_ (i:=4) (N:=some 69) #[y_,y_,y_,y_,y_,n_,n_,n_] rfl rfl (one_of HT_.out (by kernel_rfl)) (by decide) (fun K hK => ?_)
                refine value_ (w1:=?_) (v:=?_) (by rfl) rfl ?_ ?_
                rotate_left 2
                ·go_simp
                 constructor
                 ·rfl
                 ·rfl
                refine hK.out _ _ ⟨(kcq (kaq BK260.out _) 0).trans rfl,(kcq (kaq BK260.out _) 1).trans rfl⟩ (fun hHeld => ?_)
                clear hK K
                refine norm_ (a':=?_) ?_ ?_
                rotate_left
                ·show Act.put _ (some 69) _ = _
                 simp only [Act.put,sA_,sB_,sC_,i64_w,i32_w]
                 rfl
                refine one_ (i:=5) (N:=some 70) #[y_,y_,y_,y_,y_,y_,n_,n_] rfl rfl (one_of HT_.out (by kernel_rfl)) (by decide) (fun K hK => ?_)
                refine Kd.S_append_step k59 w.heap.size (by rfl) (.tmp 66) (.tmp 69) 54 59 (.agg #[(.int .i64 0),(.slice none 0 0)]) 32 rfl Try.underlying54 info59 rfl (by decide) (by omega) u261001 x261001_5 (⟨t268,t269⟩ : S59) [.int .i64 t268,.slice Ao63 t269.length co63] (fun _ => True) (fun k_ => some k_ = (.slice Ao63 t269.length co63 : Value).ownBlock) rfl rfl ?aP (fun k_ hk_ => ((Kd.R_mono (ok':=fun k_ => ((fun _ => True)) k_ ∧ some k_ ≠ (u261001 : Value).ownBlock) (Kd.R_apart' (HO271.out) (Kd.S_typed HO_261001.out) (by decide)) (fun k_ hk => ⟨trivial,hk.2⟩))).1 k_ hk_.symm) ?aF ?aO (Below.refl _ _) ?aS ?aL ?_
                (case aP => exact k59_mkM _ _ _ (⟨t268,t269⟩ : S59) (Kd.R_mono (Kd.R_tight rfl (Kd.R_mono (ok':=fun k_ => ((fun _ => True)) k_ ∧ some k_ ≠ (u261001 : Value).ownBlock) (Kd.R_apart' (HO271.out) (Kd.S_typed HO_261001.out) (by decide)) (fun k_ hk => ⟨trivial,hk.2⟩))) (fun _ h_ => h_)))
                (case aF => exact (fun _ _ => trivial))
                (case aO => exact (by (with_reducible repeat (first | apply Kd.S_alloc | apply Kd.S_drewN | apply Kd.S_drew));exact Kd.S_mono HO_261001.out (fun k_ hk => ⟨trivial,fun e_ => hk.2 e_⟩)))
                (case aS => exact (keep_size (w:=w) (g:=g) (row:=some gr) (by repeat (first | (with_reducible first | exact HK.out | apply KeepBut.set_ | apply k1q | apply keep_drew | apply keepR_alloc | apply keepR_set | refine keep_far ?_ GW260.out _) | exact HK.out))))
                (case aL => have:=LMc45.out;omega)
                intro v276 w62 ho hb hg hat
                rw [← Ny275.out] at ho
                have n0_:=qm (Kd.R_after (ok:=(fun k_ => some k_ ≠ (.slice Ao63 t269.length co63 : Value).ownBlock ∧ k_ ≠ gb260)) (by (with_reducible repeat (first | apply raq | apply rnq | apply rdq));exact Kd.R_mono HO_5.out (fun _ hk => ⟨⟨hk.2,hk.1.2⟩,hk.1.1⟩)) hg hat)
                have n1_:=qm (Kd.R_over' (by (with_reducible repeat (first | apply raq | apply rnq | apply rdq));exact HO_87.out) (Kd.S_typed (by (with_reducible repeat (first | apply Kd.S_alloc | apply Kd.S_drewN | apply Kd.S_drew));exact HO_261001.out)) (by decide) hg)
                have n2_:=qm (Kd.R_over' (by (with_reducible repeat (first | apply raq | apply rnq | apply rdq));exact HO_231002.out) (Kd.S_typed (by (with_reducible repeat (first | apply Kd.S_alloc | apply Kd.S_drewN | apply Kd.S_drew));exact HO_261001.out)) (by decide) hg)
                have n3_:=qm (blk_grown (g:=gr) (o:=.cells #[.pointer (some ⟨g,0,none⟩),x1_,.slice Ao60 x231002_2.length co60] 68 (0,0)) (by (with_reducible repeat (first | refine knq ?_ _ | refine kdq ?_ | refine kaq ?_ _));exact BK230.out) hg (Kd.S_ne HO_261001.out BK230.out (by decide)))
                have n4_:=qm (blk_grown (g:=gb260) (o:=.cells #[.int .u64 x3_26,u261001] 56 (0,0)) (by (with_reducible repeat (first | refine knq ?_ _ | refine kdq ?_ | refine kaq ?_ _));exact BK260.out) hg (Kd.S_ne HO_261001.out BK260.out (by decide)))
                have n5_:=qm (IsS97.grown (by repeat (first | (with_reducible first | exact HI0.out | apply IsS97.alloc | apply IsS97.drewN | apply IsS97.drew | apply IsS97.set_0 | apply IsS97.set_1 | apply IsS97.set_2 | refine IsS97.far ?_ NB0_230.out _ | refine IsS97.far ?_ NB0_260.out _) | exact HI0.out)) hg (IsS97.own_neS HI0.out HO_261001.out (by decide)))
                have n6_:=qm (below_weaken (by repeat (first | (with_reducible first | exact HB.out | apply qa | apply qn | apply qd | refine qb ?_ (IsS97.ge HI0.out) | refine qb ?_ GE230.out | refine qb ?_ GE260.out) | exact HB.out)) HL.out hb)
                have n7_:=qm (keepR_grown (w:=w) (r:=gr) (by repeat (first | (with_reducible first | exact HK.out | apply KeepBut.set_ | apply k1q | apply keep_drew | apply keepR_alloc | apply keepR_set | refine keep_far ?_ GW260.out _) | exact HK.out)) hg (Kd.S_base2 HO_261001.out))
                have n8_:=qm (ho)
                clear HO_5
                clear HO_87
                clear HO_231002
                clear BK230
                clear BK260
                clear HI0
                clear HB
                clear HK
                clear HO_261001
                clear HO271
                have HO_5:=n0_
                have HO_87:=n1_
                have HO_231002:=n2_
                have BK230:=n3_
                have BK260:=n4_
                have HI0:=n5_
                have HB:=n6_
                have HK:=n7_
                have HO277:=n8_
                clear n0_ n1_ n2_ n3_ n4_ n5_ n6_ n7_ n8_
                clear ho hb hg hat
                obtain ⟨Ao64,co64,eo64⟩:=Kd.S_slice HO277.out
                (first | subst eo64 | (injection eo64 with f1_ f2_ f3_;have f4_:=f1_.symm;have f5_:=f3_.symm;clear f1_ f2_ f3_;subst f4_;subst f5_))
                refine hK.out _ _ ⟨(kcq BK260.out 0).trans rfl,(kcq BK260.out 1).trans rfl⟩ (fun hHeld => ?_)
                clear hK K
                refine norm_ (a':=?_) ?_ ?_
                rotate_left
                ·show Act.put _ (some 70) _ = _
                 simp only [Act.put,sA_,sB_,sC_,i64_w,i32_w]
                 rfl
                refine pure_ (i:=6) (N:=some 71) (v:=?_) (a':=?_) #[y_,y_,y_,y_,y_,y_,y_,n_] rfl rfl (any_of HT_.out (by kernel_rfl)) (fun _ _ _ h => h) (Or.inl ⟨by rfl,?_⟩) ?_ ?_
                rotate_left
                ·intro w'
                 go_simp
                 with_reducible rfl
                rotate_left
                ·simp only [Act.put,sA_,sB_,sC_,i64_w,i32_w]
                 rfl
                refine last_ (i:=7) (N:=none) #[y_,y_,y_,y_,y_,y_,y_,y_] rfl rfl (one_of HT_.out (by kernel_rfl)) (by decide) (fun K hK => ?_)
                have hs65 : w62.cell? ⟨gb260,1,none⟩ = some (u261001):=(kcq BK260.out 1).trans rfl
                have hfs65:=kfq BK260.out 1
                have hns65_0:=NB230_260.out
                have hms65_0:=NB260_230.out
                refine skip_ (w1:=?_) (by rfl) rfl ?_ ?_
                rotate_left
                ·go_simp
                 rfl
                refine hK.out _ _ ?_
                clear hK K
                refine done_ (done_of HT_.out (by kernel_rfl)) ?_
                have hnb66:=NB230_260.out
                have hnc66:=NB260_230.out
                have hnb67:=NB230_0.out
                have hnc67:=NB0_230.out
                have hcz68_0 : w62.cell? ⟨gr,0,none⟩ = some (.pointer (some ⟨g,0,none⟩)):=(kcq BK230.out 0).trans rfl
                have hcz68_1:=(show w62.cell? ⟨gr,1,none⟩ = some x1_ from (kcq BK230.out 1).trans rfl).trans (congrArg some HX1_.out)
                have hcz68_2 : w62.cell? ⟨gr,2,none⟩ = some (.slice Ao60 x231002_2.length co60):=(kcq BK230.out 2).trans rfl
                have hfz68_0:=kfq BK230.out 0
                have hfz68_1:=kfq BK230.out 1
                have hfz68_2:=kfq BK230.out 2
                try go_wp2_with (first | ((with_reducible refine gcq (f:=24) rfl ?_);refine glq (some 76) rfl rfl Try.func24 (by kernel_rfl) rfl #[.pointer (some ⟨g,0,none⟩)] rfl (by (try simp only [l3q,l4q,l5q]);first | done | rfl | (simp only [l1q,l2q];rfl)) ?_;(with_reducible refine (cursor_Cursor_Err.calls g t272 t273 t274 t278 t279 t280 t281 w0 _ ?side1 ?side2 A46.out).mono ?_);(case side1 => repeat (first | (with_reducible first | exact HI0.out | apply IsS97.alloc | apply IsS97.drewN | apply IsS97.drew | apply IsS97.set_0 | apply IsS97.set_1 | apply IsS97.set_2 | refine IsS97.far ?_ NB0_230.out _ | refine IsS97.far ?_ NB0_260.out _) | exact HI0.out));(case side2 => repeat (first | (with_reducible first | exact HB.out | apply qa | apply qn | apply qd | refine qb ?_ (IsS97.ge HI0.out) | refine qb ?_ GE230.out | refine qb ?_ GE260.out) | exact HB.out));rintro e w69 ⟨rfl,hi,hb,hk⟩;refine ⟨_,rfl,?_⟩;have n0_:=qm (Kd.R_mono (Kd.R_keep (IsS97.apart (show IsS97 w0 _ g t272 t273 t274 from by repeat (first | (with_reducible first | exact HI0.out | apply IsS97.alloc | apply IsS97.drewN | apply IsS97.drew | apply IsS97.set_0 | apply IsS97.set_1 | apply IsS97.set_2 | refine IsS97.far ?_ NB0_230.out _ | refine IsS97.far ?_ NB0_260.out _) | exact HI0.out)) (by (with_reducible repeat (first | apply raq | apply rnq | apply rdq));exact (Kd.R_mono (Kd.R_far (p:=⟨gb260,1,none⟩) (Kd.R_mono HO_5.out (fun k_ hk => (⟨hk,hk.1.2⟩ : _ ∧ k_ ≠ gb260))) (fun _ hk => hk.2) (.slice Ao64 y275.length co64)) (fun _ h_ => h_.1))) (by decide)) hk (fun _ h => h.2)) (fun _ h => h.1));have n1_:=qm (Kd.R_mono (Kd.R_keep (IsS97.apart (show IsS97 w0 _ g t272 t273 t274 from by repeat (first | (with_reducible first | exact HI0.out | apply IsS97.alloc | apply IsS97.drewN | apply IsS97.drew | apply IsS97.set_0 | apply IsS97.set_1 | apply IsS97.set_2 | refine IsS97.far ?_ NB0_230.out _ | refine IsS97.far ?_ NB0_260.out _) | exact HI0.out)) (by (with_reducible repeat (first | apply raq | apply rnq | apply rdq));exact (Kd.R_mono (Kd.R_far (p:=⟨gb260,1,none⟩) (Kd.R_types HO_87.out BK260.out (by decide)) (fun _ hk => hk.2) (.slice Ao64 y275.length co64)) (fun _ h_ => h_.1))) (by decide)) hk (fun _ h => h.2)) (fun _ h => h.1));have n2_:=qm (Kd.R_mono (Kd.R_keep (IsS97.apart (show IsS97 w0 _ g t272 t273 t274 from by repeat (first | (with_reducible first | exact HI0.out | apply IsS97.alloc | apply IsS97.drewN | apply IsS97.drew | apply IsS97.set_0 | apply IsS97.set_1 | apply IsS97.set_2 | refine IsS97.far ?_ NB0_230.out _ | refine IsS97.far ?_ NB0_260.out _) | exact HI0.out)) (by (with_reducible repeat (first | apply raq | apply rnq | apply rdq));exact (Kd.R_mono (Kd.R_far (p:=⟨gb260,1,none⟩) (Kd.R_types HO_231002.out BK260.out (by decide)) (fun _ hk => hk.2) (.slice Ao64 y275.length co64)) (fun _ h_ => h_.1))) (by decide)) hk (fun _ h => h.2)) (fun _ h => h.1));have n3_:=qm (KeepBut.blk hk (g':=gr) (o:=.cells #[.pointer (some ⟨g,0,none⟩),x1_,.slice Ao60 x231002_2.length co60] 68 (0,0)) (by (with_reducible repeat (first | refine knq ?_ _ | refine kdq ?_ | refine kaq ?_ _));refine blk_far ?_ NB230_260.out _;(with_reducible repeat (first | refine knq ?_ _ | refine kdq ?_ | refine kaq ?_ _));exact BK230.out) NB230_0.out (by simp));have n4_:=qm (KeepBut.blk hk (g':=gb260) (o:=.cells #[.int .u64 x3_26,.slice Ao64 y275.length co64] 56 (0,0)) (by (with_reducible repeat (first | refine knq ?_ _ | refine kdq ?_ | refine kaq ?_ _));refine blk_put (cs:=#[.int .u64 x3_26,u261001]) ?_ 1 _ rfl;(with_reducible repeat (first | refine knq ?_ _ | refine kdq ?_ | refine kaq ?_ _));exact BK260.out) NB260_0.out (by simp));have n5_:=qm (Kd.S_mono (Kd.S_keep (IsS97.apartS (show IsS97 w0 _ g t272 t273 t274 from by repeat (first | (with_reducible first | exact HI0.out | apply IsS97.alloc | apply IsS97.drewN | apply IsS97.drew | apply IsS97.set_0 | apply IsS97.set_1 | apply IsS97.set_2 | refine IsS97.far ?_ NB0_230.out _ | refine IsS97.far ?_ NB0_260.out _) | exact HI0.out)) (by (with_reducible repeat (first | apply Kd.S_alloc | apply Kd.S_drewN | apply Kd.S_drew));exact (Kd.S_mono (Kd.S_far (p:=⟨gb260,1,none⟩) (Kd.S_types HO277.out BK260.out (by decide)) (fun _ hk => hk.2) (.slice Ao64 y275.length co64)) (fun _ h_ => h_.1))) (by decide)) hk (fun _ h => h.2)) (fun _ h => h.1));have n6_:=qm (keepR_trans (w:=w) (r:=gr) (by repeat (first | (with_reducible first | exact HK.out | apply KeepBut.set_ | apply k1q | apply keep_drew | apply keepR_alloc | apply keepR_set | refine keep_far ?_ GW260.out _) | exact HK.out)) hk);have n7_:=qm (hb);have n8_:=qm (hi);clear HO_5;clear HO_87;clear HO_231002;clear BK230;clear BK260;clear HO277;clear HK;clear HB;clear HI0;have HO_5:=n0_;have HO_87:=n1_;have HO_231002:=n2_;have BK230:=n3_;have BK260:=n4_;have HO277:=n5_;have HK:=n6_;have HB:=n7_;have HI0:=n8_;clear n0_ n1_ n2_ n3_ n4_ n5_ n6_ n7_ n8_;(try clear hb);(try clear hb2);(try clear hk);(try clear hi);have hcr_0:=(show w69.cell? ⟨gr,0,none⟩ = some (.pointer (some ⟨g,0,none⟩)) from (kcq BK230.out 0).trans rfl);have hcr_1:=(show w69.cell? ⟨gr,1,none⟩ = some x1_ from (kcq BK230.out 1).trans rfl).trans (congrArg some HX1_.out)))
                (try rw [Exit.noGoto_ret])
                go_ret
                exact ⟨_,by first | rfl | (simp [errW_none,errW_some] <;> rfl) | (simp [*,errW_none,errW_some] <;> rfl),by (with_reducible repeat (first | apply raq | apply rnq | apply rdq));exact Kd.R_mono HO_5.out (fun _ hk => trivial),by repeat (first | (with_reducible first | exact HI0.out | apply IsS97.alloc | apply IsS97.drewN | apply IsS97.drew | apply IsS97.set_0 | apply IsS97.set_1 | apply IsS97.set_2 | refine IsS97.far ?_ NB0_230.out _ | refine IsS97.far ?_ NB0_260.out _) | exact HI0.out),by repeat (first | (with_reducible first | exact HB.out | apply qa | apply qn | apply qd | refine qb ?_ (IsS97.ge HI0.out) | refine qb ?_ GE230.out | refine qb ?_ GE260.out) | exact HB.out),by repeat (first | (with_reducible first | exact HK.out | apply KeepBut.set_ | apply k1q | apply keep_drew | apply keepR_alloc | apply keepR_set | refine keep_far ?_ GW260.out _) | exact HK.out),(by refine ⟨?_,?_⟩;rotate_left;(with_reducible repeat (first | refine knq ?_ _ | refine kdq ?_ | refine kaq ?_ _));exact BK230.out)⟩
              ·rw [if_neg c45] at H
               exact absurd H (by simp)
             ·rw [if_neg c43] at H
              have c43b0 : decide (x63_5 < t261) = false:=decide_eq_false c43
              clear c43
              by_cases c70 : x5_3.length < 4398046511104
              ·rw [if_pos c70] at H
               have LMc70:=qm c70
               clear c70
               obtain ⟨y265,hy265⟩ : ∃ y_ : List (S56),y_ = (x5_3 ++ [(⟨x3_26,x261001_5⟩ : S56)]):=⟨_,rfl⟩
               replace H : (unblock_reader_points.l1 k5 l1 x3_26 y265 t235 (wrap64 (x40_3 + 1)) x231002_2 x1000_5 x1001_5 x1002_5) = some (r1,r2,r3,r4):=by first | (rw [hy265];with_reducible exact H) | (have H2_:=(Option.bind_some _ _).symm.trans H;rw [hy265];with_reducible exact H2_) | (have H2_:=(Option.bind_some _ _).symm.trans H;with_reducible exact H2_) | with_reducible exact H | (rw [hy265];exact H) | exact H
               have Ny265:=qm hy265
               clear hy265
               have H':=qm H
               clear H
               have hnb71:=NB260_230.out
               have hnc71:=NB230_260.out
               have hnb72:=NB260_0.out
               have hnc72:=NB0_260.out
               have hcz73_0 : wr.cell? ⟨gb260,0,none⟩ = some (.int .u64 x3_26):=(kcq BK260.out 0).trans rfl
               have hcz73_1 : wr.cell? ⟨gb260,1,none⟩ = some (u261001):=(kcq BK260.out 1).trans rfl
               have hfz73_0:=kfq BK260.out 0
               have hfz73_1:=kfq BK260.out 1
               obtain ⟨Ao75,co75,eo75⟩:=Kd.S_slice HO_261001.out
               subst eo75
               go_wp2_with (first | ((with_reducible refine gate_builtin (b:=.append) (xs:=#[.tmp 79,.tmp 81]) rfl ?_);at_builtin;refine Kd.R_append k56 w.heap.size rfl (.tmp 79) (.tmp 81) 23 56 (.agg #[(.int .u64 0),(.slice none 0 0)]) 32 rfl Try.underlying23 info56 rfl (by decide) (by omega) u5 x5_3 (⟨x3_26,x261001_5⟩ : S56) [.int .u64 x3_26,.slice Ao75 x261001_5.length co75] (fun k_ => k_ ≠ gb260) (fun k_ => ((fun k_ => k_ ≠ gb260)) k_ ∧ some k_ ≠ (u5 : Value).ownBlock) rfl rfl ?aP (fun _ hk => hk) ?aF ?aO (Below.refl _ _) ?aS ?aL ?_;(case aP => exact k56_mkM _ _ _ (⟨x3_26,x261001_5⟩ : S56) (Kd.R_mono (Kd.R_types (Kd.R_apart' ((Kd.S_R HO_261001.out)) (Kd.R_typed HO_5.out) (by decide)) BK260.out (by decide)) (fun k_ hk => ⟨hk.2,hk.1.2⟩)));(case aF => exact (fun k_ hk => Kd.freshB (g:=gb260) (o:=.cells #[.int .u64 x3_26,.slice Ao75 x261001_5.length co75] 56 (0,0)) (by (with_reducible repeat (first | refine knq ?_ _ | refine kdq ?_ | refine kaq ?_ _));exact BK260.out) k_ hk));(case aO => exact (by (with_reducible repeat (first | apply raq | apply rnq | apply rdq));exact Kd.R_mono HO_5.out (fun _ hk => hk.2)));(case aS => exact (keep_size (w:=w) (g:=g) (row:=some gr) (by repeat (first | (with_reducible first | exact HK.out | apply KeepBut.set_ | apply k1q | apply keep_drew | apply keepR_alloc | apply keepR_set | refine keep_far ?_ GW260.out _) | exact HK.out))));(case aL => have:=LMc70.out;omega);intro v266 w74 ho hb hg hat;rw [← Ny265.out] at ho;have n0_:=qm (Kd.R_over' (by (with_reducible repeat (first | apply raq | apply rnq | apply rdq));exact HO_87.out) (Kd.R_typed (by (with_reducible repeat (first | apply raq | apply rnq | apply rdq));exact HO_5.out)) (by decide) hg);have n1_:=qm (Kd.R_over' (by (with_reducible repeat (first | apply raq | apply rnq | apply rdq));exact HO_231002.out) (Kd.R_typed (by (with_reducible repeat (first | apply raq | apply rnq | apply rdq));exact HO_5.out)) (by decide) hg);have n2_:=qm (blk_grown (g:=gr) (o:=.cells #[.pointer (some ⟨g,0,none⟩),x1_,u231002] 68 (0,0)) (by (with_reducible repeat (first | refine knq ?_ _ | refine kdq ?_ | refine kaq ?_ _));exact BK230.out) hg (Kd.R_ne HO_5.out BK230.out (by decide)));have n3_:=qm (blk_grown (g:=gb260) (o:=.cells #[.int .u64 x3_26,.slice Ao75 x261001_5.length co75] 56 (0,0)) (by (with_reducible repeat (first | refine knq ?_ _ | refine kdq ?_ | refine kaq ?_ _));exact BK260.out) hg (Kd.R_away HO_5.out (fun _ hk => hk.2)));have n4_:=qm (IsS97.grown (by repeat (first | (with_reducible first | exact HI0.out | apply IsS97.alloc | apply IsS97.drewN | apply IsS97.drew | apply IsS97.set_0 | apply IsS97.set_1 | apply IsS97.set_2 | refine IsS97.far ?_ NB0_230.out _ | refine IsS97.far ?_ NB0_260.out _) | exact HI0.out)) hg (IsS97.own_ne HI0.out HO_5.out (by decide)));have n5_:=qm (below_weaken (by repeat (first | (with_reducible first | exact HB.out | apply qa | apply qn | apply qd | refine qb ?_ (IsS97.ge HI0.out) | refine qb ?_ GE230.out | refine qb ?_ GE260.out) | exact HB.out)) HL.out hb);have n6_:=qm (keepR_grown (w:=w) (r:=gr) (by repeat (first | (with_reducible first | exact HK.out | apply KeepBut.set_ | apply k1q | apply keep_drew | apply keepR_alloc | apply keepR_set | refine keep_far ?_ GW260.out _) | exact HK.out)) hg (Kd.R_base2 HO_5.out));have n7_:=qm (ho);clear HO_87;clear HO_231002;clear BK230;clear BK260;clear HI0;clear HB;clear HK;clear HO_5;clear HO_261001;have HO_87:=n0_;have HO_231002:=n1_;have BK230:=n2_;have BK260:=n3_;have HI0:=n4_;have HB:=n5_;have HK:=n6_;have HO267:=n7_;clear n0_ n1_ n2_ n3_ n4_ n5_ n6_ n7_;clear ho hb hg hat;have hcr_0:=(show w74.cell? ⟨gr,0,none⟩ = some (.pointer (some ⟨g,0,none⟩)) from (kcq BK230.out 0).trans rfl);have hcr_1:=(show w74.cell? ⟨gr,1,none⟩ = some x1_ from (kcq BK230.out 1).trans rfl).trans (congrArg some HX1_.out)))
               go_roundg k5
               case measure => have:=HJ4.out;have:=HK2.out;have:=HK3.out;have:=HJ26.out;have:=HK5.out;omega
               case rel => exact ⟨(x3_26),(y265),(wrap64 (x40_3 + 1)),(x1000_5),(x1001_5),(x1002_5),(by first | rfl | (simp;done) | (simp [*];done)),(by first | rfl | (simp;done) | (simp [*];done)),H',⟨by have:=HJ4.out;have:=HK2.out;have:=HK3.out;have:=HJ26.out;have:=HK5.out;omega⟩,⟨by (with_reducible repeat (first | apply raq | apply rnq | apply rdq));exact Kd.R_mono HO267.out (fun _ hk => trivial)⟩,⟨by (with_reducible repeat (first | apply raq | apply rnq | apply rdq));exact HO_87.out⟩,⟨by (with_reducible repeat (first | apply raq | apply rnq | apply rdq));exact HO_231002.out⟩,⟨by (with_reducible repeat (first | refine knq ?_ _ | refine kdq ?_ | refine kaq ?_ _));exact BK230.out⟩,⟨by repeat (first | (with_reducible first | exact HI0.out | apply IsS97.alloc | apply IsS97.drewN | apply IsS97.drew | apply IsS97.set_0 | apply IsS97.set_1 | apply IsS97.set_2 | refine IsS97.far ?_ NB0_230.out _ | refine IsS97.far ?_ NB0_260.out _) | exact HI0.out)⟩,⟨by repeat (first | (with_reducible first | exact HK.out | apply KeepBut.set_ | apply k1q | apply keep_drew | apply keepR_alloc | apply keepR_set | refine keep_far ?_ GW260.out _) | exact HK.out)⟩,⟨by repeat (first | (with_reducible first | exact HB.out | apply qa | apply qn | apply qd | refine qb ?_ (IsS97.ge HI0.out) | refine qb ?_ GE230.out | refine qb ?_ GE260.out) | exact HB.out)⟩⟩
              ·rw [if_neg c70] at H
               exact absurd H (by simp)
        ·rw [if_neg c26] at H
         have c26b0 : decide (x40_3 < t235) = false:=decide_eq_false c26
         clear c26
         simp only [o2q,Prod.mk.injEq] at H
         obtain ⟨rfl,rfl,rfl,rfl⟩:=H
         go_wp2
         (try rw [Exit.noGoto_ret])
         go_ret
         exact ⟨_,by first | rfl | (simp [errW_none,errW_some] <;> rfl) | (simp [*,errW_none,errW_some] <;> rfl),by (with_reducible repeat (first | apply raq | apply rnq | apply rdq));exact HO_5.out,by repeat (first | (with_reducible first | exact HI0.out | apply IsS97.alloc | apply IsS97.drewN | apply IsS97.drew | apply IsS97.set_0 | apply IsS97.set_1 | apply IsS97.set_2 | refine IsS97.far ?_ NB0_230.out _) | exact HI0.out),by repeat (first | (with_reducible first | exact HB.out | apply qa | apply qn | apply qd | refine qb ?_ (IsS97.ge HI0.out) | refine qb ?_ GE230.out) | exact HB.out),by repeat (first | (with_reducible first | exact HK.out | apply KeepBut.set_ | apply k1q | apply keep_drew | apply keepR_alloc | apply keepR_set) | exact HK.out),(by refine ⟨?_,?_⟩;rotate_left;(with_reducible repeat (first | refine knq ?_ _ | refine kdq ?_ | refine kaq ?_ _));exact BK230.out)⟩

end Go.Proofs.Ytmmfakdncjeoeaa.PU
