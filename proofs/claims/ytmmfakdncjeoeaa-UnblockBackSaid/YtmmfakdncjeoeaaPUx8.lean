-- Contracts of Go functions, each with its plain Lean function: written by wip/tools/myprint.py of this work (the kit's print, with contracts proved by hand spliced in).
import Derived.Test.YtmmfakdncjeoeaaPUx0
import Derived.Test.YtmmfakdncjeoeaaPUx7
import Derived.Test.YtmmfakdncjeoeaaShort
namespace Go.Proofs.Ytmmfakdncjeoeaa.PU
open Go.Proofs.YtmmfakdncjeoeaaShort
open Go.RowKit Go.Proofs.YtmmfakdncjeoeaaW.PrintWords Go.Proofs.YtmmfakdncjeoeaaW.PrintLast Go.Proofs.YtmmfakdncjeoeaaW.PrintMore
attribute [local go_sem] max2_int min2_int max_two min_two max_three min_three max_four min_four   -- for this text's walks alone
set_option linter.unusedVariables false
set_option linter.unusedSimpArgs false

/-! ### cursor_Cursor_Number: function 63 -/
section
open Go.Proofs.YtmmfakdncjeoeaaAid

def cursor_Cursor_Number_1.f (k : Nat) (l0 : List Int) (a1 : Int) : Option (Int × Int × Int) := (wire_Get.f k l0).bind fun bt107 => (if bt107.2.2 = 0 then (if bt107.1 > a1 then (some (bt107.1, bt107.2.1, 6)) else (some (bt107.1, bt107.2.1, bt107.2.2))) else (some (bt107.1, bt107.2.1, bt107.2.2)))
set_option maxHeartbeats 8000000 in
set_option maxRecDepth 100000 in
theorem cursor_Cursor_Number_1.calls (k : Nat) (A0 : Option Addr) (c0 : Nat) (l0 : List Int) (a1 : Int) (r1 : Int) (r2 : Int) (r3 : Int) (cb : Nat) (w : World) (hcell : w.cell? ⟨cb, 0, none⟩ = some (.int .u64 a1)) (hr0 : Kd.C (Kd.int .u8) w A0 l0.length l0) (hc0 : l0.length ≤ c0) (h : cursor_Cursor_Number_1.f k l0 a1 = some (r1, r2, r3)) :
    Calls Try.prog 82 #[.slice A0 l0.length c0, .pointer (some ⟨cb, 0, none⟩)] w fun e w' => e = .returned (.tuple #[.int .u64 r1, .int .i64 r2, .int .i64 r3]) ∧ Drawn0 w w' := by
  have HR0 := qm hr0
  have HC0 := qm hc0
  clear hr0 hc0
  have H : ((wire_Get.f k l0).bind fun bt107 => (if bt107.2.2 = 0 then (if bt107.1 > a1 then (some (bt107.1, bt107.2.1, 6)) else (some (bt107.1, bt107.2.1, bt107.2.2))) else (some (bt107.1, bt107.2.1, bt107.2.2)))) = some (r1, r2, r3) := h
  clear h
  replace H := obq.mp H
  obtain ⟨⟨t107, t108, t109⟩, A30, H⟩ := H
  replace H : (if t109 = 0 then (if t107 > a1 then (some (t107, t108, 6)) else (some (t107, t108, t109))) else (some (t107, t108, t109))) = some (r1, r2, r3) := H
  have A3 := qm A30
  clear A30
  by_cases c4 : t109 = 0
  · rw [if_pos c4] at H
    have c4b0 : (t109 == 0) = true := beq_iff_eq.mpr c4
    have c4b1 : (t109 != 0) = false := b2q.mpr c4
    clear c4
    by_cases c5 : t107 > a1
    · rw [if_pos c5] at H
      have c5b0 : decide (a1 < t107) = true := dt_ c5
      clear c5
      simp only [o2q, Prod.mk.injEq] at H
      obtain ⟨rfl, rfl, rfl⟩ := H
      go_enter Try.func82, Try.ntmps82
      go_wp2_with (first | ((with_reducible refine gcq (f := 32) rfl ?_); refine glq (some 11) rfl rfl Try.func32 (by kernel_rfl) rfl #[.slice A0 l0.length c0] rfl (by (try simp only [l3q, l4q, l5q]); first | done | rfl | (simp only [l1q, l2q]; rfl) | (refine congrArg (fun z_ => #[z_]) (congrArg (Value.int IntKind.u64) (Eq.symm (Go.Proofs.YtmmfakdncjeoeaaAid.wrap_len _ (by omega)))))) ?_; (with_reducible refine (wire_Get.calls k _ _ l0 t107 t108 t109 _ ?side1 ?side2 A3.out).mono ?_); (case side1 => repeat (first | exact HR0.out | (with_reducible first | refine caq ?_ _ | refine cnq ?_ _ | refine cdq ?_))); (case side2 => exact HC0.out); rintro e w' ⟨rfl, ⟨nd, rfl⟩⟩; refine ⟨_, rfl, ?_⟩))
      go_ret3
      exact ⟨by first | rfl | (simp; done) | (simp [*]; done), by repeat (first | exact Drawn0.refl _ | apply Drawn0.step)⟩
    · rw [if_neg c5] at H
      have c5b0 : decide (a1 < t107) = false := decide_eq_false c5
      clear c5
      simp only [o2q, Prod.mk.injEq] at H
      obtain ⟨rfl, rfl, rfl⟩ := H
      go_enter Try.func82, Try.ntmps82
      go_wp2_with (first | ((with_reducible refine gcq (f := 32) rfl ?_); refine glq (some 11) rfl rfl Try.func32 (by kernel_rfl) rfl #[.slice A0 l0.length c0] rfl (by (try simp only [l3q, l4q, l5q]); first | done | rfl | (simp only [l1q, l2q]; rfl) | (refine congrArg (fun z_ => #[z_]) (congrArg (Value.int IntKind.u64) (Eq.symm (Go.Proofs.YtmmfakdncjeoeaaAid.wrap_len _ (by omega)))))) ?_; (with_reducible refine (wire_Get.calls k _ _ l0 t107 t108 t109 _ ?side1 ?side2 A3.out).mono ?_); (case side1 => repeat (first | exact HR0.out | (with_reducible first | refine caq ?_ _ | refine cnq ?_ _ | refine cdq ?_))); (case side2 => exact HC0.out); rintro e w' ⟨rfl, ⟨nd, rfl⟩⟩; refine ⟨_, rfl, ?_⟩))
      go_ret3
      exact ⟨by first | rfl | (simp; done) | (simp [*]; done), by repeat (first | exact Drawn0.refl _ | apply Drawn0.step)⟩
  · rw [if_neg c4] at H
    have c4b0 : (t109 == 0) = false := b1q.mpr c4
    have c4b1 : (t109 != 0) = true := bne_iff_ne.mpr c4
    simp only [o2q, Prod.mk.injEq] at H
    obtain ⟨rfl, rfl, rfl⟩ := H
    go_enter Try.func82, Try.ntmps82
    go_wp2_with (first | ((with_reducible refine gcq (f := 32) rfl ?_); refine glq (some 11) rfl rfl Try.func32 (by kernel_rfl) rfl #[.slice A0 l0.length c0] rfl (by (try simp only [l3q, l4q, l5q]); first | done | rfl | (simp only [l1q, l2q]; rfl) | (refine congrArg (fun z_ => #[z_]) (congrArg (Value.int IntKind.u64) (Eq.symm (Go.Proofs.YtmmfakdncjeoeaaAid.wrap_len _ (by omega)))))) ?_; (with_reducible refine (wire_Get.calls k _ _ l0 t107 t108 t109 _ ?side1 ?side2 A3.out).mono ?_); (case side1 => repeat (first | exact HR0.out | (with_reducible first | refine caq ?_ _ | refine cnq ?_ _ | refine cdq ?_))); (case side2 => exact HC0.out); rintro e w' ⟨rfl, ⟨nd, rfl⟩⟩; refine ⟨_, rfl, ?_⟩))
    go_ret3
    exact ⟨by first | rfl | (simp; done) | (simp [*]; done), by repeat (first | exact Drawn0.refl _ | apply Drawn0.step)⟩


def cursor_Cursor_Number.f (k : Nat) (s0_0 : ByteArray) (s0_1 : Int) (s0_2 : Int) (a1 : Int) : Option (Int × ByteArray × Int × Int) := cursor_take_out (0 : Int) s0_0 s0_1 s0_2 (fun y_ => cursor_Cursor_Number_1.f k y_ a1)
set_option maxHeartbeats 8000000 in
set_option maxRecDepth 100000 in
theorem cursor_Cursor_Number.calls (k : Nat) (g : Nat) (s0_0 : ByteArray) (s0_1 : Int) (s0_2 : Int) (a1 : Int) (r1 : Int) (r2 : ByteArray) (r3 : Int) (r4 : Int) (w0 w : World) (hI : IsS97 w0 w g s0_0 s0_1 s0_2) (hB : Below w0.heap.size w0 w) (h : cursor_Cursor_Number.f k s0_0 s0_1 s0_2 a1 = some (r1, r2, r3, r4)) :
    Calls Try.prog 63 #[.pointer (some ⟨g, 0, none⟩), .int .u64 a1] w fun e w' => e = .returned (.int .u64 r1) ∧ IsS97 w0 w' g r2 r3 r4 ∧ Below w0.heap.size w0 w' ∧ KeepBut w w' g none := by
  have HI0 := qm hI
  have HK := qm (KeepBut.refl w g none)
  have HB := qm hB
  clear hB hI
  have H : cursor_take_out (0 : Int) s0_0 s0_1 s0_2 (fun y_ => cursor_Cursor_Number_1.f k y_ a1) = some (r1, r2, r3, r4) := h
  clear h
  go_enter Try.func63, Try.ntmps63
  go_wp2_with (first | ((with_reducible refine gdq (N := 3) rfl ?_); refine box_event ?hg (N := 3) ?hd (cs := #[.int .u64 a1]) (t := 39) ?hr ?_; (case hd => rfl); (case hg => rfl); (case hr => first | (go_simp; done) | (go_simp; rfl)); intro gb hg w6 hbox hb; have hgb : gb ≠ g := (by rw [hg]; exact Nat.ne_of_gt (IsS97.lt HI0.out)); have hcb : w6.cell? ⟨gb, 0, none⟩ = some (.int .u64 a1) := (kcq hbox 0).trans rfl; have n0_ := qm (IsS97.below HI0.out hb); have n1_ := qm (KeepBut.trans HK.out (KeepBut.of_below hb g none) (.inl rfl)); have n2_ := qm (qt HB.out hb); clear HI0 HK HB; have HI0 := n0_; have HK := n1_; have HB := n2_; clear n0_ n1_ n2_; clear hb hbox hg) | ((with_reducible refine gcq (f := 81) rfl ?_); refine glq (some 7) rfl rfl Try.func81 (by kernel_rfl) rfl #[.pointer (some ⟨g, 0, none⟩), .func (.func 82) #[] #[.pointer (some ⟨gb, 0, none⟩)]] rfl (by (try simp only [l3q, l4q, l5q]); first | done | rfl) ?_; refine (cursor_take_u64.gen 82 _ Try.func82 (by kernel_rfl) rfl #[.pointer (some ⟨gb, 0, none⟩)] (fun y_ => cursor_Cursor_Number_1.f k y_ a1) g s0_0 s0_1 s0_2 _ _ _ _ w0 _ HI0.out HB.out (fun y_ t_ n_ e_ hy_ A_ c_ w1_ hk_ hr_ hc_ => (show Calls Try.prog 82 #[.slice A_ y_.length c_, .pointer (some ⟨gb, 0, none⟩)] w1_ _ from (cursor_Cursor_Number_1.calls k A_ c_ y_ a1 t_ n_ e_ gb w1_ (keep_cell hk_ hcb hgb) hr_ hc_ hy_).mono (fun x_ w2_ h_ => ⟨h_.1, h_.2.below⟩))) H).mono ?_; rintro e w7 ⟨rfl, hi, hb, hk⟩; refine ⟨_, rfl, ?_⟩; have n0_ := qm (KeepBut.trans HK.out hk (.inl rfl)); have n1_ := qm hb; have n2_ := qm hi; clear HK HB HI0; have HK := n0_; have HB := n1_; have HI0 := n2_; clear n0_ n1_ n2_ hb hk hi))
  go_ret
  exact ⟨rfl, HI0.out, HB.out, HK.out⟩
end

/-! ### unblock_reader_any: function 41 -/
def unblock_reader_any.f (k : Nat) (s0_0 : ByteArray) (s0_1 : Int) (s0_2 : Int) : Option (Int × ByteArray × Int × Int) := (cursor_Cursor_Number.f k s0_0 s0_1 s0_2 18446744073709551615).bind fun bt183 => (some (bt183.1, bt183.2.1, bt183.2.2.1, bt183.2.2.2))
/-- Block gr is a reader over the cursor at g. -/
def ReaderAt (w : World) (gr g : Nat) : Prop := ∃ x1 x2, w.heap[gr]? = some (.cells #[.pointer (some ⟨g, 0, none⟩), x1, x2] 68 (0, 0))
theorem ReaderAt.mk {w : World} {gr g : Nat} {x1 x2 : Value} (h : w.heap[gr]? = some (.cells #[.pointer (some ⟨g, 0, none⟩), x1, x2] 68 (0, 0))) : ReaderAt w gr g := ⟨x1, x2, h⟩
theorem ReaderAt.cell {w : World} {gr g : Nat} (h : ReaderAt w gr g) : w.cell? ⟨gr, 0, none⟩ = some (.pointer (some ⟨g, 0, none⟩)) := by obtain ⟨x1, x2, h⟩ := h; exact (kcq h 0).trans rfl
theorem keepR_trans {w w1 w2 : World} {g r : Nat} (h : KeepBut w w1 g (some r)) (k : KeepBut w1 w2 g none) : KeepBut w w2 g (some r) := h.trans ⟨k.1, fun i hi hg _ => k.2 i hi hg (by simp)⟩ (.inl rfl)
theorem keepR_grown {w w1 w2 : World} {g r : Nat} {row1 : Option Nat} (h : KeepBut w w1 g (some r)) (hg : w1.grownBy w2 row1) (hr : row1 = none ∨ ∃ b, row1 = some b ∧ w.heap.size ≤ b) : KeepBut w w2 g (some r) := by
 refine ⟨Nat.le_trans h.1 hg.size, fun i hi hig hir => ?_⟩
 rw [← h.2 i hi hig hir]
 refine hg.block i (Nat.lt_of_lt_of_le hi h.1) ?_
 rcases hr with e | ⟨b, e, hb⟩
 ·rw [e]; simp
 ·rw [e]; intro e'; injection e' with e'; omega
theorem keepR_alloc {w W : World} {g r : Nat} (h : KeepBut w W g (some r)) (o : Obj) : KeepBut w (W.alloc o) g (some r) := keepR_grown h (World.grownBy_alloc W o none) (.inl rfl)
theorem keepR_set {w w1 : World} {g r : Nat} (h : KeepBut w w1 g (some r)) (j : Nat) (u : Value) : KeepBut w (w1.setCell ⟨r, j, none⟩ u) g (some r) :=
 ⟨by simpa [World.setCell] using h.1, fun i hi hg hr => (Below.heap_setCell w1 ⟨r, j, none⟩ u i (fun e => hr (by rw [e]))).trans (h.2 i hi hg hr)⟩
theorem footR_step {α : Type} {d : Kd α} {A : Option Addr} {n : Nat} {xs : List α} {w W : World} {g r : Nat} (h : ∀ W', KeepBut w W' g (some r) → d.C W' A n xs) (hk : KeepBut w W g (some r)) : ∀ W', KeepBut W W' g none → d.C W' A n xs := fun W' hk' => h W' (keepR_trans hk hk')
theorem footR_now {α : Type} {d : Kd α} {A : Option Addr} {n : Nat} {xs : List α} {w W : World} {g r : Nat} (h : ∀ W', KeepBut w W' g (some r) → d.C W' A n xs) (hk : KeepBut w W g (some r)) : d.C W A n xs := h W hk
set_option maxHeartbeats 8000000 in
set_option maxRecDepth 100000 in
theorem unblock_reader_any.calls (k : Nat) (g : Nat) (s0_0 : ByteArray) (s0_1 : Int) (s0_2 : Int) (r1 : Int) (r2 : ByteArray) (r3 : Int) (r4 : Int) (w0 w : World) (hI : IsS97 w0 w g s0_0 s0_1 s0_2) (hB : Below w0.heap.size w0 w) (h : unblock_reader_any.f k s0_0 s0_1 s0_2 = some (r1,r2,r3,r4)) (gr : Nat) (hr_ : ReaderAt w gr g) :
  Calls Try.prog 41 #[.pointer (some ⟨gr,0,none⟩)] w fun e w' => e = .returned (.int .u64 r1) ∧ IsS97 w0 w' g r2 r3 r4 ∧ Below w0.heap.size w0 w' ∧ KeepBut w w' g none:=by
 have hcr_0:=hr_.cell
 have HI0:=qm hI
 have HK:=qm (KeepBut.refl w g none)
 have HL:=qm hB.size
 clear hI
 have HW0:=qm hB.size
 have HB:=qm hB
 clear hB
 have H : ((cursor_Cursor_Number.f k s0_0 s0_1 s0_2 18446744073709551615).bind fun bt183 => (some (bt183.1,bt183.2.1,bt183.2.2.1,bt183.2.2.2))) = some (r1,r2,r3,r4):=h
 clear h
 replace H:=obq.mp H
 obtain ⟨⟨t183,t184,t185,t186⟩,A20,H⟩:=H
 replace H : (some (t183,t184,t185,t186)) = some (r1,r2,r3,r4):=H
 have A2:=qm A20
 clear A20
 simp only [o2q,Prod.mk.injEq] at H
 obtain ⟨rfl,rfl,rfl,rfl⟩:=H
 go_enter Try.func41,Try.ntmps41
 go_wp2_with (first | ((with_reducible refine gcq (f:=63) rfl ?_);refine glq (some 7) rfl rfl Try.func63 (by kernel_rfl) rfl #[.pointer (some ⟨g,0,none⟩),.int .u64 18446744073709551615] rfl (by (try simp only [l3q,l4q,l5q]);first | done | rfl | (simp only [l1q,l2q];rfl)) ?_;(with_reducible refine (cursor_Cursor_Number.calls k g s0_0 s0_1 s0_2 18446744073709551615 t183 t184 t185 t186 w0 _ ?side1 ?side2 A2.out).mono ?_);(case side1 => repeat (first | (with_reducible first | exact HI0.out | apply IsS97.alloc | apply IsS97.drewN | apply IsS97.drew | apply IsS97.set_0 | apply IsS97.set_1 | apply IsS97.set_2) | exact HI0.out));(case side2 => repeat (first | (with_reducible first | exact HB.out | apply qa | apply qn | apply qd | refine qb ?_ (IsS97.ge HI0.out)) | exact HB.out));rintro e w3 ⟨rfl,hi,hb,hk⟩;refine ⟨_,rfl,?_⟩;have n0_:=qm (KeepBut.trans (by repeat (first | (with_reducible first | exact HK.out | apply KeepBut.set_ | apply k1q | apply keep_drew | apply keep_alloc) | exact HK.out)) hk (.inl rfl));have n1_:=qm (hb);have n2_:=qm (hi);clear HK;clear HB;clear HI0;have HK:=n0_;have HB:=n1_;have HI0:=n2_;clear n0_ n1_ n2_;(try clear hb);(try clear hb2);(try clear hk);(try clear hi)))
 go_ret
 exact ⟨by first | rfl | (simp [errW_none,errW_some] <;> rfl) | (simp [*,errW_none,errW_some] <;> rfl),by repeat (first | (with_reducible first | exact HI0.out | apply IsS97.alloc | apply IsS97.drewN | apply IsS97.drew | apply IsS97.set_0 | apply IsS97.set_1 | apply IsS97.set_2) | exact HI0.out),by repeat (first | (with_reducible first | exact HB.out | apply qa | apply qn | apply qd | refine qb ?_ (IsS97.ge HI0.out)) | exact HB.out),by repeat (first | (with_reducible first | exact HK.out | apply KeepBut.set_ | apply k1q | apply keep_drew | apply keep_alloc) | exact HK.out)⟩

/-! ### unblock_reader_count: function 42 -/
def unblock_reader_count.f (k : Nat) (s0_0 : ByteArray) (s0_1 : Int) (s0_2 : Int) (a1 : Int) : Option (Int × ByteArray × Int × Int) := (cursor_Cursor_Number.f k s0_0 s0_1 s0_2 a1).bind fun bt187 => (some (wrap64 (bt187.1), bt187.2.1, bt187.2.2.1, bt187.2.2.2))
set_option maxHeartbeats 8000000 in
set_option maxRecDepth 100000 in
theorem unblock_reader_count.calls (k : Nat) (g : Nat) (s0_0 : ByteArray) (s0_1 : Int) (s0_2 : Int) (a1 : Int) (r1 : Int) (r2 : ByteArray) (r3 : Int) (r4 : Int) (w0 w : World) (hI : IsS97 w0 w g s0_0 s0_1 s0_2) (hB : Below w0.heap.size w0 w) (h : unblock_reader_count.f k s0_0 s0_1 s0_2 a1 = some (r1,r2,r3,r4)) (gr : Nat) (hr_ : ReaderAt w gr g) :
  Calls Try.prog 42 #[.pointer (some ⟨gr,0,none⟩),.int .u64 a1] w fun e w' => e = .returned (.int .i64 r1) ∧ IsS97 w0 w' g r2 r3 r4 ∧ Below w0.heap.size w0 w' ∧ KeepBut w w' g none:=by
 have hcr_0:=hr_.cell
 have HI0:=qm hI
 have HK:=qm (KeepBut.refl w g none)
 have HL:=qm hB.size
 clear hI
 have HW0:=qm hB.size
 have HB:=qm hB
 clear hB
 have H : ((cursor_Cursor_Number.f k s0_0 s0_1 s0_2 a1).bind fun bt187 => (some (wrap64 (bt187.1),bt187.2.1,bt187.2.2.1,bt187.2.2.2))) = some (r1,r2,r3,r4):=h
 clear h
 replace H:=obq.mp H
 obtain ⟨⟨t187,t188,t189,t190⟩,A30,H⟩:=H
 replace H : (some (wrap64 (t187),t188,t189,t190)) = some (r1,r2,r3,r4):=H
 have A3:=qm A30
 clear A30
 simp only [o2q,Prod.mk.injEq] at H
 obtain ⟨rfl,rfl,rfl,rfl⟩:=H
 go_enter Try.func42,Try.ntmps42
 go_wp2_with (first | ((with_reducible refine gcq (f:=63) rfl ?_);refine glq (some 10) rfl rfl Try.func63 (by kernel_rfl) rfl #[.pointer (some ⟨g,0,none⟩),.int .u64 a1] rfl (by (try simp only [l3q,l4q,l5q]);first | done | rfl | (simp only [l1q,l2q];rfl)) ?_;(with_reducible refine (cursor_Cursor_Number.calls k g s0_0 s0_1 s0_2 a1 t187 t188 t189 t190 w0 _ ?side1 ?side2 A3.out).mono ?_);(case side1 => repeat (first | (with_reducible first | exact HI0.out | apply IsS97.alloc | apply IsS97.drewN | apply IsS97.drew | apply IsS97.set_0 | apply IsS97.set_1 | apply IsS97.set_2) | exact HI0.out));(case side2 => repeat (first | (with_reducible first | exact HB.out | apply qa | apply qn | apply qd | refine qb ?_ (IsS97.ge HI0.out)) | exact HB.out));rintro e w4 ⟨rfl,hi,hb,hk⟩;refine ⟨_,rfl,?_⟩;have n0_:=qm (KeepBut.trans (by repeat (first | (with_reducible first | exact HK.out | apply KeepBut.set_ | apply k1q | apply keep_drew | apply keep_alloc) | exact HK.out)) hk (.inl rfl));have n1_:=qm (hb);have n2_:=qm (hi);clear HK;clear HB;clear HI0;have HK:=n0_;have HB:=n1_;have HI0:=n2_;clear n0_ n1_ n2_;(try clear hb);(try clear hb2);(try clear hk);(try clear hi)))
 go_ret
 exact ⟨by first | rfl | (simp [errW_none,errW_some] <;> rfl) | (simp [*,errW_none,errW_some] <;> rfl),by repeat (first | (with_reducible first | exact HI0.out | apply IsS97.alloc | apply IsS97.drewN | apply IsS97.drew | apply IsS97.set_0 | apply IsS97.set_1 | apply IsS97.set_2) | exact HI0.out),by repeat (first | (with_reducible first | exact HB.out | apply qa | apply qn | apply qd | refine qb ?_ (IsS97.ge HI0.out)) | exact HB.out),by repeat (first | (with_reducible first | exact HK.out | apply KeepBut.set_ | apply k1q | apply keep_drew | apply keep_alloc) | exact HK.out)⟩

/-! ### cursor_Cursor_Stop: function 43 -/
def cursor_Cursor_Stop.f (s0_0 : ByteArray) (s0_1 : Int) (s0_2 : Int) (a1 : Int) : Option (ByteArray × Int × Int) := if s0_2 = 0 then (some (s0_0, s0_1, a1)) else (some (s0_0, s0_1, s0_2))
set_option maxHeartbeats 8000000 in
set_option maxRecDepth 100000 in
theorem cursor_Cursor_Stop.calls (g : Nat) (s0_0 : ByteArray) (s0_1 : Int) (s0_2 : Int) (a1 : Int) (r1 : ByteArray) (r2 : Int) (r3 : Int) (w0 w : World) (hI : IsS97 w0 w g s0_0 s0_1 s0_2) (hB : Below w0.heap.size w0 w) (h : cursor_Cursor_Stop.f s0_0 s0_1 s0_2 a1 = some (r1,r2,r3)) :
  Calls Try.prog 43 #[.pointer (some ⟨g,0,none⟩),.int .i64 a1] w fun e w' => e = .returned (.tuple #[]) ∧ IsS97 w0 w' g r1 r2 r3 ∧ Below w0.heap.size w0 w' ∧ KeepBut w w' g none:=by
 have HI0:=qm hI
 have HK:=qm (KeepBut.refl w g none)
 have HL:=qm hB.size
 clear hI
 have HW0:=qm hB.size
 have HB:=qm hB
 clear hB
 have H : (if s0_2 = 0 then (some (s0_0,s0_1,a1)) else (some (s0_0,s0_1,s0_2))) = some (r1,r2,r3):=h
 clear h
 by_cases c3 : s0_2 = 0
 ·rw [if_pos c3] at H
  have c3b0 : (s0_2 == 0) = true:=beq_iff_eq.mpr c3
  have c3b1 : (s0_2 != 0) = false:=b2q.mpr c3
  clear c3
  simp only [o2q,Prod.mk.injEq] at H
  obtain ⟨rfl,rfl,rfl⟩:=H
  obtain ⟨HGz4,hgz4⟩:=HI0.out
  have hcz4_0:=cellS97_0 HGz4
  have hcz4_1:=cellS97_1 HGz4
  have hcz4_2:=cellS97_2 HGz4
  have hfz4_0:=kfq HGz4 0
  have hfz4_1:=kfq HGz4 1
  have hfz4_2:=kfq HGz4 2
  clear HGz4 hgz4
  go_enter Try.func43,Try.ntmps43
  go_wp2
  first | go_end0 | ((try simp only [Exit.inBlock,Exit.then]);refine bodyPost_ret (results_none rfl _ _ _) rfl ?_)
  exact ⟨by first | rfl | (simp [errW_none,errW_some] <;> rfl) | (simp [*,errW_none,errW_some] <;> rfl),by repeat (first | (with_reducible first | exact HI0.out | apply IsS97.alloc | apply IsS97.drewN | apply IsS97.drew | apply IsS97.set_0 | apply IsS97.set_1 | apply IsS97.set_2) | exact HI0.out),by repeat (first | (with_reducible first | exact HB.out | apply qa | apply qn | apply qd | refine qb ?_ (IsS97.ge HI0.out)) | exact HB.out),by repeat (first | (with_reducible first | exact HK.out | apply KeepBut.set_ | apply k1q | apply keep_drew | apply keep_alloc) | exact HK.out)⟩
 ·rw [if_neg c3] at H
  have c3b0 : (s0_2 == 0) = false:=b1q.mpr c3
  have c3b1 : (s0_2 != 0) = true:=bne_iff_ne.mpr c3
  simp only [o2q,Prod.mk.injEq] at H
  obtain ⟨rfl,rfl,rfl⟩:=H
  obtain ⟨HGz5,hgz5⟩:=HI0.out
  have hcz5_0:=cellS97_0 HGz5
  have hcz5_1:=cellS97_1 HGz5
  have hcz5_2:=cellS97_2 HGz5
  have hfz5_0:=kfq HGz5 0
  have hfz5_1:=kfq HGz5 1
  have hfz5_2:=kfq HGz5 2
  clear HGz5 hgz5
  go_enter Try.func43,Try.ntmps43
  go_wp2
  first | go_end0 | ((try simp only [Exit.inBlock,Exit.then]);refine bodyPost_ret (results_none rfl _ _ _) rfl ?_)
  exact ⟨by first | rfl | (simp [errW_none,errW_some] <;> rfl) | (simp [*,errW_none,errW_some] <;> rfl),by repeat (first | (with_reducible first | exact HI0.out | apply IsS97.alloc | apply IsS97.drewN | apply IsS97.drew | apply IsS97.set_0 | apply IsS97.set_1 | apply IsS97.set_2) | exact HI0.out),by repeat (first | (with_reducible first | exact HB.out | apply qa | apply qn | apply qd | refine qb ?_ (IsS97.ge HI0.out)) | exact HB.out),by repeat (first | (with_reducible first | exact HK.out | apply KeepBut.set_ | apply k1q | apply keep_drew | apply keep_alloc) | exact HK.out)⟩

/-! ### cursor_take_string: function 64 -/
section
open Go.Proofs.YtmmfakdncjeoeaaAid

def cursor_take_string.T4 : Bool × List (List Nat × List Nat) := (true, [([], []), ([], []), ([1], [1]), ([2], [2]), ([3], [3]), ([], []), ([5], [5]), ([6], [6]), ([7], [7]), ([4, 8], [4, 8]), ([9], [9]), ([0, 10], [0, 10]), ([11], [11]), ([12], [12]), ([12], [12]), ([12], [12]), ([13, 11, 0, 1, 2, 3, 4, 5, 6, 7, 8, 9, 10, 11, 12, 13], [13]), ([14, 16, 0, 1, 2, 3, 4, 5, 6, 7, 8, 9, 10, 11, 12, 13, 14, 16], [14]), ([15, 17, 0, 1, 2, 3, 4, 5, 6, 7, 8, 9, 10, 11, 12, 13, 14, 15, 16, 17], [15])])
def cursor_take_string.B4 : List Nat := [0, 0, 2, 6, 14, 0, 32, 96, 224, 510, 1022, 2047, 4095, 8191, 8191, 8191, 16383, 98303, 262143]
theorem cursor_take_string.tab4 : rtab .any (opsOf Try.f64 4) = cursor_take_string.T4 := by kernel_rfl
theorem cursor_take_string.bits4 : waitsOk cursor_take_string.T4.2 cursor_take_string.B4 = true := by kernel_rfl
set_option maxHeartbeats 8000000 in
set_option maxRecDepth 100000 in
theorem cursor_take_string.gen (G : FuncId) (fnG : Func) (hfG : Try.prog.funcs[G]? = some fnG) (hnG : (fnG.name == "runtime.NumGoroutine") = false) (hbG : fnG.body.isSome = true) (caps : Array Value) (get : List Int → Option (ByteArray × Int × Int)) (g : Nat) (s0_0 : ByteArray) (s0_1 : Int) (s0_2 : Int) (r1 : ByteArray) (r2 : ByteArray) (r3 : Int) (r4 : Int) (w0 w : World) (hI : IsS97 w0 w g s0_0 s0_1 s0_2) (hB : Below w0.heap.size w0 w)
    (hget : ∀ (y : List Int) (t : ByteArray) (n e : Int), get y = some (t, n, e) → ∀ (A : Option Addr) (c : Nat) (w1 : World), KeepBut w w1 g none → (Kd.int .u8).C w1 A y.length y → y.length ≤ c → Calls Try.prog G (#[.slice A y.length c] ++ caps) w1 fun e_ w' => e_ = .returned (.tuple #[.string t, .int .i64 n, .int .i64 e]) ∧ Below w1.heap.size w1 w')
    (h : cursor_take_out (⟨#[]⟩ : ByteArray) s0_0 s0_1 s0_2 get = some (r1, r2, r3, r4)) :
    Calls Try.prog 64 #[.pointer (some ⟨g, 0, none⟩), .func (.func G) #[] caps] w fun e w' => e = .returned (.string r1) ∧ IsS97 w0 w' g r2 r3 r4 ∧ Below w0.heap.size w0 w' ∧ KeepBut w w' g none := by
  have HI0 := qm hI
  have HK := qm (KeepBut.refl w g none)
  have HW0 := qm hB.size
  have HB := qm hB
  clear hB hI
  unfold cursor_take_out at h
  have H := h
  clear h
  by_cases c3 : s0_2 = 0
  · rw [if_pos c3] at H
    have c3b0 : (s0_2 == 0) = true := beq_iff_eq.mpr c3
    have c3b1 : (s0_2 != 0) = false := b2q.mpr c3
    clear c3
    by_cases c4 : 0 ≤ s0_1
    · rw [if_pos c4] at H
      have c4b0 := eq_true c4
      have c4b1 : decide (0 ≤ s0_1) = true := dt_ c4
      clear c4
      by_cases c5 : s0_1 ≤ (s0_0.size : Int)
      · rw [if_pos c5] at H
        have c5b0 := eq_true c5
        have c5b1 : decide (s0_1 ≤ (s0_0.size : Int)) = true := dt_ c5
        clear c5
        by_cases c6 : (s0_0.extract (s0_1 : Int).toNat s0_0.size).size ≤ 9223372036854775807
        · rw [if_pos c6] at H
          have c6b1 : decide ((s0_0.extract (s0_1 : Int).toNat s0_0.size).size ≤ 9223372036854775807) = true := dt_ c6
          clear c6
          obtain ⟨y106, hy106⟩ : ∃ y_ : List Int, y_ = (bytesOf (s0_0.extract (s0_1 : Int).toNat s0_0.size)) := ⟨_, rfl⟩
          rw [← hy106] at H
          have Ny106 := qm hy106
          clear hy106
          replace H := obq.mp H
          obtain ⟨⟨t107, t108, t109⟩, A70, H⟩ := H
          have A7 := qm A70
          clear A70
          dsimp only at H
          obtain ⟨HGz, hgz⟩ := HI0.out
          have hcz_0 := cellS97_0 HGz
          have hcz_1 := cellS97_1 HGz
          have hcz_2 := cellS97_2 HGz
          have hfz_0 := kfq HGz 0
          have hfz_1 := kfq HGz 1
          have hfz_2 := kfq HGz 2
          clear HGz hgz
          go_enter Try.func64, Try.ntmps64
          go_wp2
          have n0_ := qm (IsS97.drew HI0.out)
          have n1_ := qm (keep_drew HK.out)
          have n2_ := qm (qd HB.out)
          clear HI0 HK HB hcz_0 hcz_1 hcz_2 hfz_0 hfz_1 hfz_2
          have HI0 := n0_
          have HK := n1_
          have HB := n2_
          clear n0_ n1_ n2_
          refine start_ (n := 19) (S := fun w' => w'.cell? ⟨g, 0, none⟩ = some (.string s0_0) ∧ w'.cell? ⟨g, 1, none⟩ = some (.int .i64 s0_1)) (ds := []) #[false, false, false, false, false, false, false, false, false, false, false, false, false, false, false, false, false, false, false] (by kernel_rfl) rfl rfl ⟨(cellS97_0 HI0.out.1), (cellS97_1 HI0.out.1)⟩ (fun hHeld => ?_)
          refine with_tabW cursor_take_string.tab4 cursor_take_string.bits4 (fun HT_ HW_ => ?_)
          generalize w.drew = w4 at HI0 HK HB hHeld ⊢
          refine pure_ (i := 0) (N := some 16) (v := ?_) (a' := ?_) #[true, false, false, false, false, false, false, false, false, false, false, false, false, false, false, false, false, false, false] rfl rfl (any_of HT_.out (by kernel_rfl)) (fun _ _ _ h => h) (Or.inl ⟨by rfl, ?_⟩) ?_ ?_
          rotate_left
          · intro w'
            go_simp
            with_reducible rfl
          rotate_left
          · simp only [Act.put, l6q, l7q, l8q, i64_w, i32_w]
            rfl
          refine pure_ (i := 1) (N := some 17) (v := ?_) (a' := ?_) #[true, true, false, false, false, false, false, false, false, false, false, false, false, false, false, false, false, false, false] rfl rfl (any_of HT_.out (by kernel_rfl)) (fun _ _ _ h => h) (Or.inl ⟨by rfl, ?_⟩) ?_ ?_
          rotate_left
          · intro w'
            go_simp
            with_reducible rfl
          rotate_left
          · simp only [Act.put, l6q, l7q, l8q, i64_w, i32_w]
            rfl
          refine pure_ (i := 2) (N := some 18) (v := ?_) (a' := ?_) #[true, true, true, false, false, false, false, false, false, false, false, false, false, false, false, false, false, false, false] rfl rfl (any_of HT_.out (by kernel_rfl)) (fun _ _ _ h => h) (Or.inl ⟨by rfl, ?_⟩) ?_ ?_
          rotate_left
          · intro w'
            go_simp
            with_reducible rfl
          rotate_left
          · simp only [Act.put, l6q, l7q, l8q, i64_w, i32_w]
            rfl
          refine pure_ (i := 3) (N := some 19) (v := ?_) (a' := ?_) #[true, true, true, true, false, false, false, false, false, false, false, false, false, false, false, false, false, false, false] rfl rfl (any_of HT_.out (by kernel_rfl)) (fun _ _ _ h => h) (Or.inl ⟨by rfl, ?_⟩) ?_ ?_
          rotate_left
          · intro w'
            go_simp
            with_reducible rfl
          rotate_left
          · simp only [Act.put, l6q, l7q, l8q, i64_w, i32_w]
            rfl
          refine pure_ (i := 5) (N := some 21) (v := ?_) (a' := ?_) #[true, true, true, true, false, true, false, false, false, false, false, false, false, false, false, false, false, false, false] rfl rfl (any_of HT_.out (by kernel_rfl)) (fun _ _ _ h => h) (Or.inl ⟨by rfl, ?_⟩) ?_ ?_
          rotate_left
          · intro w'
            go_simp
            with_reducible rfl
          rotate_left
          · simp only [Act.put, l6q, l7q, l8q, i64_w, i32_w]
            rfl
          refine pure_ (i := 6) (N := some 22) (v := ?_) (a' := ?_) #[true, true, true, true, false, true, true, false, false, false, false, false, false, false, false, false, false, false, false] rfl rfl (any_of HT_.out (by kernel_rfl)) (fun _ _ _ h => h) (Or.inl ⟨by rfl, ?_⟩) ?_ ?_
          rotate_left
          · intro w'
            go_simp
            with_reducible rfl
          rotate_left
          · simp only [Act.put, l6q, l7q, l8q, i64_w, i32_w]
            rfl
          refine pure_ (i := 7) (N := some 23) (v := ?_) (a' := ?_) #[true, true, true, true, false, true, true, true, false, false, false, false, false, false, false, false, false, false, false] rfl rfl (any_of HT_.out (by kernel_rfl)) (fun _ _ _ h => h) (Or.inl ⟨by rfl, ?_⟩) ?_ ?_
          rotate_left
          · intro w'
            go_simp
            with_reducible rfl
          rotate_left
          · simp only [Act.put, l6q, l7q, l8q, i64_w, i32_w]
            rfl
          refine take_ (i := 4) (N := some 20) (v := ?_) (a' := ?_) #[true, true, true, true, true, true, true, true, false, false, false, false, false, false, false, false, false, false, false] rfl rfl (take_ofW HT_.out HW_.out (by kernel_rfl)) (fun _ _ _ h => h) (Or.inl ⟨by rfl, ?_⟩) hHeld ?_ ?_
          rotate_left
          · rintro w' ⟨s0, s1⟩
            go_simp
            with_reducible rfl
          rotate_left
          · simp only [Act.put, l6q, l7q, l8q, i64_w, i32_w]
            rfl
          refine take_ (i := 8) (N := some 24) (v := ?_) (a' := ?_) #[true, true, true, true, true, true, true, true, true, false, false, false, false, false, false, false, false, false, false] rfl rfl (take_ofW HT_.out HW_.out (by kernel_rfl)) (fun _ _ _ h => h) (Or.inl ⟨by rfl, ?_⟩) hHeld ?_ ?_
          rotate_left
          · rintro w' ⟨s0, s1⟩
            go_simp
            with_reducible rfl
          rotate_left
          · simp only [Act.put, l6q, l7q, l8q, i64_w, i32_w]
            rfl
          refine pure_ (i := 9) (N := some 25) (v := ?_) (a' := ?_) #[true, true, true, true, true, true, true, true, true, true, false, false, false, false, false, false, false, false, false] rfl rfl (any_of HT_.out (by kernel_rfl)) (fun _ _ _ h => h) (Or.inl ⟨by rfl, ?_⟩) ?_ ?_
          rotate_left
          · intro w'
            go_simp
            with_reducible rfl
          rotate_left
          · simp only [Act.put, l6q, l7q, l8q, i64_w, i32_w]
            rfl
          refine one_ (i := 10) (N := some 26) #[true, true, true, true, true, true, true, true, true, true, true, false, false, false, false, false, false, false, false] rfl rfl (one_of HT_.out (by kernel_rfl)) (by decide) (fun K hK => ?_)
          refine conv_bytes_step _ (by rfl) (N := 26) rfl 9 28 5 _ rfl (s0_0.extract (s0_1 : Int).toNat s0_0.size) Try.underlying9 Try.underlying28 Try.underlying5 rfl (dq_ c6b1) (Below.refl _ _) (Nat.le_refl _) ?_
          intro A105 c105 n105_ w10 hn_ hs_ hc_ hb hg_
          clear hg_
          obtain rfl : n105_ = y106.length := (by rw [hn_, Ny106.out])
          rw [← Ny106.out] at hs_
          have n0_ := qm (IsS97.below HI0.out hb)
          have n1_ := qm (KeepBut.trans HK.out (KeepBut.of_below hb g none) (.inl rfl))
          have n2_ := qm (qt HB.out hb)
          clear HI0 HK HB
          have HI0 := n0_
          have HK := n1_
          have HB := n2_
          clear n0_ n1_ n2_
          have HR105 := qm hs_
          have HC105 := qm hc_
          clear hb hs_ hc_ hn_
          refine hK.out _ _ ⟨(cellS97_0 HI0.out.1), (cellS97_1 HI0.out.1)⟩ (fun hHeld => ?_)
          clear hK K
          refine norm_ (a' := ?_) ?_ ?_
          rotate_left
          · show Act.put _ (some 26) _ = _
            simp only [Act.put, l6q, l7q, l8q, i64_w, i32_w]
            rfl
          refine one_ (i := 11) (N := some 27) #[true, true, true, true, true, true, true, true, true, true, true, true, false, false, false, false, false, false, false] rfl rfl (one_of HT_.out (by kernel_rfl)) (by decide) (fun K hK => ?_)
          refine goesVs_ hfG hnG hbG #[.slice A105 y106.length c105] caps _ (by rfl) rfl rfl rfl (by simp only [l3q, l4q, l5q]; rfl) ?_
          refine (hget _ _ _ _ A7.out _ _ _ HK.out HR105.out HC105.out).mono ?_
          rintro e w11 ⟨rfl, hb⟩
          refine ⟨_, rfl, ?_⟩
          have n0_ := qm (IsS97.below HI0.out hb)
          have n1_ := qm (KeepBut.trans HK.out (KeepBut.of_below hb g none) (.inl rfl))
          have n2_ := qm (qt HB.out hb)
          clear HI0 HK HB
          have HI0 := n0_
          have HK := n1_
          have HB := n2_
          clear n0_ n1_ n2_
          clear hb
          refine hK.out _ _ ⟨(cellS97_0 HI0.out.1), (cellS97_1 HI0.out.1)⟩ (fun hHeld => ?_)
          clear hK K
          refine norm_ (a' := ?_) ?_ ?_
          rotate_left
          · show Act.put _ (some 27) _ = _
            simp only [Act.put, l6q, l7q, l8q, i64_w, i32_w]
            rfl
          refine pure_ (i := 12) (N := some 15) (v := ?_) (a' := ?_) #[true, true, true, true, true, true, true, true, true, true, true, true, true, false, false, false, false, false, false] rfl rfl (any_of HT_.out (by kernel_rfl)) (fun _ _ _ h => h) (Or.inl ⟨by rfl, ?_⟩) ?_ ?_
          rotate_left
          · intro w'
            go_simp
            with_reducible rfl
          rotate_left
          · simp only [Act.put, l6q, l7q, l8q, i64_w, i32_w]
            rfl
          refine pure_ (i := 13) (N := some 28) (v := ?_) (a' := ?_) #[true, true, true, true, true, true, true, true, true, true, true, true, true, true, false, false, false, false, false] rfl rfl (any_of HT_.out (by kernel_rfl)) (fun _ _ _ h => h) (Or.inl ⟨by rfl, ?_⟩) ?_ ?_
          rotate_left
          · intro w'
            go_simp
            with_reducible rfl
          rotate_left
          · simp only [Act.put, l6q, l7q, l8q, i64_w, i32_w]
            rfl
          refine pure_ (i := 14) (N := some 29) (v := ?_) (a' := ?_) #[true, true, true, true, true, true, true, true, true, true, true, true, true, true, true, false, false, false, false] rfl rfl (any_of HT_.out (by kernel_rfl)) (fun _ _ _ h => h) (Or.inl ⟨by rfl, ?_⟩) ?_ ?_
          rotate_left
          · intro w'
            go_simp
            with_reducible rfl
          rotate_left
          · simp only [Act.put, l6q, l7q, l8q, i64_w, i32_w]
            rfl
          refine pure_ (i := 15) (N := some 30) (v := ?_) (a' := ?_) #[true, true, true, true, true, true, true, true, true, true, true, true, true, true, true, true, false, false, false] rfl rfl (any_of HT_.out (by kernel_rfl)) (fun _ _ _ h => h) (Or.inl ⟨by rfl, ?_⟩) ?_ ?_
          rotate_left
          · intro w'
            go_simp
            with_reducible rfl
          rotate_left
          · simp only [Act.put, l6q, l7q, l8q, i64_w, i32_w]
            rfl
          refine pure_ (i := 16) (N := some 6) (v := ?_) (a' := ?_) #[true, true, true, true, true, true, true, true, true, true, true, true, true, true, true, true, true, false, false] rfl rfl (any_of HT_.out (by kernel_rfl)) (fun _ _ _ h => h) (Or.inl ⟨by rfl, ?_⟩) ?_ ?_
          rotate_left
          · intro w'
            go_simp
            with_reducible rfl
          rotate_left
          · simp only [Act.put, l6q, l7q, l8q, i64_w, i32_w]
            rfl
          refine pure_ (i := 17) (N := some 7) (v := ?_) (a' := ?_) #[true, true, true, true, true, true, true, true, true, true, true, true, true, true, true, true, true, true, false] rfl rfl (any_of HT_.out (by kernel_rfl)) (fun _ _ _ h => h) (Or.inl ⟨by rfl, ?_⟩) ?_ ?_
          rotate_left
          · intro w'
            go_simp
            with_reducible rfl
          rotate_left
          · simp only [Act.put, l6q, l7q, l8q, i64_w, i32_w]
            rfl
          refine pure_ (i := 18) (N := some 8) (v := ?_) (a' := ?_) #[true, true, true, true, true, true, true, true, true, true, true, true, true, true, true, true, true, true, true] rfl rfl (any_of HT_.out (by kernel_rfl)) (fun _ _ _ h => h) (Or.inl ⟨by rfl, ?_⟩) ?_ ?_
          rotate_left
          · intro w'
            go_simp
            with_reducible rfl
          rotate_left
          · simp only [Act.put, l6q, l7q, l8q, i64_w, i32_w]
            rfl
          refine done_ (done_of HT_.out (by kernel_rfl)) ?_

          obtain ⟨HGz, hgz⟩ := HI0.out
          have hcz_0 := cellS97_0 HGz
          have hcz_1 := cellS97_1 HGz
          have hcz_2 := cellS97_2 HGz
          have hfz_0 := kfq HGz 0
          have hfz_1 := kfq HGz 1
          have hfz_2 := kfq HGz 2
          clear HGz hgz
          by_cases c8 : t109 = 0
          · rw [if_pos c8] at H
            have c8b0 : (t109 == 0) = true := beq_iff_eq.mpr c8
            have c8b1 : (t109 != 0) = false := b2q.mpr c8
            simp only [o2q, Prod.mk.injEq] at H
            obtain ⟨rfl, rfl, rfl, rfl⟩ := H
            clear c8
            go_wp2
            go_ret
            exact ⟨by first | rfl | (simp [*] <;> rfl), (by repeat (first | (with_reducible first | exact HI0.out | apply IsS97.alloc | apply IsS97.drewN | apply IsS97.drew | apply IsS97.set_0 | apply IsS97.set_1 | apply IsS97.set_2) | exact HI0.out)), (by repeat (first | (with_reducible first | exact HB.out | apply qa | apply qn | apply qd | refine qb ?_ (IsS97.ge HI0.out)) | exact HB.out)), (by repeat (first | (with_reducible first | exact HK.out | apply KeepBut.set_ | apply k1q | apply keep_drew | apply keep_alloc) | exact HK.out))⟩
          · rw [if_neg c8] at H
            have c8b0 : (t109 == 0) = false := b1q.mpr c8
            have c8b1 : (t109 != 0) = true := bne_iff_ne.mpr c8
            simp only [o2q, Prod.mk.injEq] at H
            obtain ⟨rfl, rfl, rfl, rfl⟩ := H
            go_wp2
            go_ret
            exact ⟨by first | rfl | (simp [*] <;> rfl), (by repeat (first | (with_reducible first | exact HI0.out | apply IsS97.alloc | apply IsS97.drewN | apply IsS97.drew | apply IsS97.set_0 | apply IsS97.set_1 | apply IsS97.set_2) | exact HI0.out)), (by repeat (first | (with_reducible first | exact HB.out | apply qa | apply qn | apply qd | refine qb ?_ (IsS97.ge HI0.out)) | exact HB.out)), (by repeat (first | (with_reducible first | exact HK.out | apply KeepBut.set_ | apply k1q | apply keep_drew | apply keep_alloc) | exact HK.out))⟩
        · rw [if_neg c6] at H
          exact absurd H (by simp)
      · rw [if_neg c5] at H
        exact absurd H (by simp)
    · rw [if_neg c4] at H
      exact absurd H (by simp)
  · rw [if_neg c3] at H
    have c3b0 : (s0_2 == 0) = false := b1q.mpr c3
    have c3b1 : (s0_2 != 0) = true := bne_iff_ne.mpr c3
    simp only [o2q, Prod.mk.injEq] at H
    obtain ⟨rfl, rfl, rfl, rfl⟩ := H
    obtain ⟨HGz, hgz⟩ := HI0.out
    have hcz_0 := cellS97_0 HGz
    have hcz_1 := cellS97_1 HGz
    have hcz_2 := cellS97_2 HGz
    have hfz_0 := kfq HGz 0
    have hfz_1 := kfq HGz 1
    have hfz_2 := kfq HGz 2
    clear HGz hgz
    go_enter Try.func64, Try.ntmps64
    go_wp2
    go_ret
    exact ⟨by first | rfl | (simp [*] <;> rfl), (by repeat (first | (with_reducible first | exact HI0.out | apply IsS97.alloc | apply IsS97.drewN | apply IsS97.drew | apply IsS97.set_0 | apply IsS97.set_1 | apply IsS97.set_2) | exact HI0.out)), (by repeat (first | (with_reducible first | exact HB.out | apply qa | apply qn | apply qd | refine qb ?_ (IsS97.ge HI0.out)) | exact HB.out)), (by repeat (first | (with_reducible first | exact HK.out | apply KeepBut.set_ | apply k1q | apply keep_drew | apply keep_alloc) | exact HK.out))⟩
end

/-! ### blob_Get: function 66 -/
def blob_Get.f (k : Nat) (l0 : List Int) (a1 : Int) : Option (ByteArray × Int × Int) := (wire_Get.f k l0).bind fun bt191 => (if bt191.2.2 = 0 then (if bt191.1 > (IntKind.u64.wrap (mx a1 0)) then (some ((⟨#[]⟩ : ByteArray), 0, 6)) else (if bt191.1 > (IntKind.u64.wrap (wrap64 ((l0.length : Int) - bt191.2.1))) then (some ((⟨#[]⟩ : ByteArray), 0, 2)) else (if 0 ≤ bt191.2.1 then (if bt191.2.1 ≤ (wrap64 (bt191.2.1 + (wrap64 (bt191.1)))) then (if (wrap64 (bt191.2.1 + (wrap64 (bt191.1)))) ≤ (l0.length : Int) then (some (strOfNums ((l0.take ((wrap64 (bt191.2.1 + (wrap64 (bt191.1)))) : Int).toNat).drop (bt191.2.1 : Int).toNat), wrap64 (bt191.2.1 + (wrap64 (bt191.1))), 0)) else (none)) else (none)) else (none)))) else (some ((⟨#[]⟩ : ByteArray), 0, bt191.2.2)))
set_option maxHeartbeats 8000000 in
set_option maxRecDepth 100000 in
theorem blob_Get.calls (k : Nat) (A0 : Option Addr) (c0 : Nat) (l0 : List Int) (a1 : Int) (r1 : ByteArray) (r2 : Int) (r3 : Int) (w : World) (hr0 : Kd.C (Kd.int .u8) w A0 l0.length l0) (hc0 : l0.length ≤ c0) (h : blob_Get.f k l0 a1 = some (r1,r2,r3)) :
  Calls Try.prog 66 #[.slice A0 l0.length c0,.int .i64 a1] w fun e w' => e = .returned (.tuple #[.string r1,.int .i64 r2,.int .i64 r3]) ∧ Below w.heap.size w w':=by
 have HR0:=qm hr0
 have HC0:=qm hc0
 clear hr0 hc0
 have HB:=qm (Below.refl w.heap.size w)
 have H : ((wire_Get.f k l0).bind fun bt191 => (if bt191.2.2 = 0 then (if bt191.1 > (IntKind.u64.wrap (mx a1 0)) then (some ((⟨#[]⟩ : ByteArray),0,6)) else (if bt191.1 > (IntKind.u64.wrap (wrap64 ((l0.length : Int) - bt191.2.1))) then (some ((⟨#[]⟩ : ByteArray),0,2)) else (if 0 ≤ bt191.2.1 then (if bt191.2.1 ≤ (wrap64 (bt191.2.1 + (wrap64 (bt191.1)))) then (if (wrap64 (bt191.2.1 + (wrap64 (bt191.1)))) ≤ (l0.length : Int) then (some (strOfNums ((l0.take ((wrap64 (bt191.2.1 + (wrap64 (bt191.1)))) : Int).toNat).drop (bt191.2.1 : Int).toNat),wrap64 (bt191.2.1 + (wrap64 (bt191.1))),0)) else (none)) else (none)) else (none)))) else (some ((⟨#[]⟩ : ByteArray),0,bt191.2.2)))) = some (r1,r2,r3):=h
 clear h
 replace H:=obq.mp H
 obtain ⟨⟨t191,t192,t193⟩,A30,H⟩:=H
 replace H : (if t193 = 0 then (if t191 > (IntKind.u64.wrap (mx a1 0)) then (some ((⟨#[]⟩ : ByteArray),0,6)) else (if t191 > (IntKind.u64.wrap (wrap64 ((l0.length : Int) - t192))) then (some ((⟨#[]⟩ : ByteArray),0,2)) else (if 0 ≤ t192 then (if t192 ≤ (wrap64 (t192 + (wrap64 (t191)))) then (if (wrap64 (t192 + (wrap64 (t191)))) ≤ (l0.length : Int) then (some (strOfNums ((l0.take ((wrap64 (t192 + (wrap64 (t191)))) : Int).toNat).drop (t192 : Int).toNat),wrap64 (t192 + (wrap64 (t191))),0)) else (none)) else (none)) else (none)))) else (some ((⟨#[]⟩ : ByteArray),0,t193))) = some (r1,r2,r3):=H
 have A3:=qm A30
 clear A30
 by_cases c4 : t193 = 0
 ·rw [if_pos c4] at H
  have c4b0 : (t193 == 0) = true:=beq_iff_eq.mpr c4
  have c4b1 : (t193 != 0) = false:=b2q.mpr c4
  clear c4
  obtain ⟨ji5,hji5⟩ : ∃ j_ : Int,(mx a1 0) = j_:=⟨_,rfl⟩
  replace H : (if t191 > (IntKind.u64.wrap (ji5)) then (some ((⟨#[]⟩ : ByteArray),0,6)) else (if t191 > (IntKind.u64.wrap (wrap64 ((l0.length : Int) - t192))) then (some ((⟨#[]⟩ : ByteArray),0,2)) else (if 0 ≤ t192 then (if t192 ≤ (wrap64 (t192 + (wrap64 (t191)))) then (if (wrap64 (t192 + (wrap64 (t191)))) ≤ (l0.length : Int) then (some (strOfNums ((l0.take ((wrap64 (t192 + (wrap64 (t191)))) : Int).toNat).drop (t192 : Int).toNat),wrap64 (t192 + (wrap64 (t191))),0)) else (none)) else (none)) else (none)))) = some (r1,r2,r3):=by first | (rw [hji5] at H;exact H) | (simp only [hji5] at H ⊢;exact H)
  (try rw [hji5] at A3)
  (try (have hji5l : 0 ≤ ji5:=by (rw [← hji5];unfold mx;(repeat' split) <;> omega)))
  (try (have hji5m : 0 ≤ ji5:=by omega))
  have hji5_ : (if a1 < 0 then 0 else a1) = ji5:=hji5
  by_cases c6 : t191 > (IntKind.u64.wrap (ji5))
  ·rw [if_pos c6] at H
   have c6b0 : decide ((IntKind.u64.wrap (ji5)) < t191) = true:=dt_ c6
   clear c6
   simp only [o2q,Prod.mk.injEq] at H
   obtain ⟨rfl,rfl,rfl⟩:=H
   go_enter Try.func66,Try.ntmps66
   go_wp2_with (first | ((with_reducible refine gcq (f:=32) rfl ?_);refine glq (some 13) rfl rfl Try.func32 (by kernel_rfl) rfl #[.slice A0 l0.length c0] rfl (by (try simp only [l3q,l4q,l5q]);first | done | rfl | (simp only [l1q,l2q];rfl)) ?_;(with_reducible refine (wire_Get.calls k _ _ l0 t191 t192 t193 _ ?side1 ?side2 A3.out).mono ?_);(case side1 => repeat (first | exact HR0.out | (with_reducible first | refine caq ?_ _ | refine cnq ?_ _ | refine cdq ?_)));(case side2 => exact HC0.out);rintro e w' ⟨rfl,⟨nd,rfl⟩⟩;refine ⟨_,rfl,?_⟩))
   go_ret3
   exact ⟨by first | rfl | (simp [errW_none,errW_some] <;> rfl) | (simp only [← hji5];first | rfl | (simp [errW_none,errW_some] <;> rfl)) | (simp [*,errW_none,errW_some] <;> rfl),by repeat (first | (with_reducible first | exact HB.out | apply qa | apply qn | apply qd) | exact HB.out)⟩
  ·rw [if_neg c6] at H
   have c6b0 : decide ((IntKind.u64.wrap (ji5)) < t191) = false:=decide_eq_false c6
   clear c6
   by_cases c7 : t191 > (IntKind.u64.wrap (wrap64 ((l0.length : Int) - t192)))
   ·rw [if_pos c7] at H
    have c7b0 : decide ((IntKind.u64.wrap (wrap64 ((l0.length : Int) - t192))) < t191) = true:=dt_ c7
    clear c7
    simp only [o2q,Prod.mk.injEq] at H
    obtain ⟨rfl,rfl,rfl⟩:=H
    go_enter Try.func66,Try.ntmps66
    go_wp2_with (first | ((with_reducible refine gcq (f:=32) rfl ?_);refine glq (some 13) rfl rfl Try.func32 (by kernel_rfl) rfl #[.slice A0 l0.length c0] rfl (by (try simp only [l3q,l4q,l5q]);first | done | rfl | (simp only [l1q,l2q];rfl)) ?_;(with_reducible refine (wire_Get.calls k _ _ l0 t191 t192 t193 _ ?side1 ?side2 A3.out).mono ?_);(case side1 => repeat (first | exact HR0.out | (with_reducible first | refine caq ?_ _ | refine cnq ?_ _ | refine cdq ?_)));(case side2 => exact HC0.out);rintro e w' ⟨rfl,⟨nd,rfl⟩⟩;refine ⟨_,rfl,?_⟩))
    go_ret3
    exact ⟨by first | rfl | (simp [errW_none,errW_some] <;> rfl) | (simp only [← hji5];first | rfl | (simp [errW_none,errW_some] <;> rfl)) | (simp [*,errW_none,errW_some] <;> rfl),by repeat (first | (with_reducible first | exact HB.out | apply qa | apply qn | apply qd) | exact HB.out)⟩
   ·rw [if_neg c7] at H
    have c7b0 : decide ((IntKind.u64.wrap (wrap64 ((l0.length : Int) - t192))) < t191) = false:=decide_eq_false c7
    clear c7
    by_cases c8 : 0 ≤ t192
    ·rw [if_pos c8] at H
     have c8b0:=eq_true c8
     have c8b1 : decide (0 ≤ t192) = true:=dt_ c8
     clear c8
     by_cases c9 : t192 ≤ (wrap64 (t192 + (wrap64 (t191))))
     ·rw [if_pos c9] at H
      have c9b0:=eq_true c9
      have c9b1 : decide (t192 ≤ (wrap64 (t192 + (wrap64 (t191))))) = true:=dt_ c9
      by_cases c10 : (wrap64 (t192 + (wrap64 (t191)))) ≤ (l0.length : Int)
      ·rw [if_pos c10] at H
       have c10b0:=eq_true c10
       have c10b1 : decide ((wrap64 (t192 + (wrap64 (t191)))) ≤ (l0.length : Int)) = true:=dt_ c10
       simp only [o2q,Prod.mk.injEq] at H
       obtain ⟨rfl,rfl,rfl⟩:=H
       go_enter Try.func66,Try.ntmps66
       go_wp2_with (first | ((with_reducible refine gcq (f:=32) rfl ?_);refine glq (some 13) rfl rfl Try.func32 (by kernel_rfl) rfl #[.slice A0 l0.length c0] rfl (by (try simp only [l3q,l4q,l5q]);first | done | rfl | (simp only [l1q,l2q];rfl)) ?_;(with_reducible refine (wire_Get.calls k _ _ l0 t191 t192 t193 _ ?side1 ?side2 A3.out).mono ?_);(case side1 => repeat (first | exact HR0.out | (with_reducible first | refine caq ?_ _ | refine cnq ?_ _ | refine cdq ?_)));(case side2 => exact HC0.out);rintro e w' ⟨rfl,⟨nd,rfl⟩⟩;refine ⟨_,rfl,?_⟩;obtain ⟨i011,hi011,_,hsz11,_⟩:=info_parts info5;obtain ⟨A11,hcut11,hA11,hC11⟩:=print_mid_of (P:=Try.prog) (Value.int .u8) 0 28 5 .i64 .i64 Try.underlying28 hi011 hsz11 A0 c0 l0 t192 (wrap64 (t192 + (wrap64 (t191)))) (dq_ (by first | (with_reducible assumption) | assumption)) (by first | omega | exact dq_ (by first | (with_reducible assumption) | assumption)) (dq_ (by first | (with_reducible assumption) | assumption)) HC0.out;have HR194:=qm (Kd.C_of_reads (h1:=fun _ => rfl) (hA11 _ (Kd.reads_of_C HR0.out)));have HC194:=qm hC11;clear hA11 hC11 hi011 hsz11;have hcv12:=Kd.C_string (P:=Try.prog) (A:=A11) (c:=(c0 - t192.toNat)) Try.underlying28 Try.underlying5 Try.underlying9 HR194.out;have hcv14:=Kd.C_string (P:=Try.prog) (A:=A11) (c:=(c0 - t192.toNat)) Try.underlying28 Try.underlying5 Try.underlying9 HR194.out;(try rw [show ((l0.take ((wrap64 (t192 + (wrap64 (t191)))) : Int).toNat).drop (t192 : Int).toNat).length = ((wrap64 (t192 + (wrap64 (t191)))).toNat - t192.toNat) from (by rw [l1q,l2q];have h_ : ((wrap64 (t192 + (wrap64 (t191)))) : Int) ≤ (l0.length : Int):=dq_ (by first | (with_reducible assumption) | assumption);omega)] at hcv14);have hcv15:=fun m_ : Nat => Kd.C_string (P:=Try.prog) (A:=A11) (c:=(c0 - t192.toNat)) Try.underlying28 Try.underlying5 Try.underlying9 (cnq HR194.out m_);have hcv16:=fun m_ : Nat => Kd.C_string (P:=Try.prog) (A:=A11) (c:=(c0 - t192.toNat)) Try.underlying28 Try.underlying5 Try.underlying9 (cnq HR194.out m_);(try rw [show ((l0.take ((wrap64 (t192 + (wrap64 (t191)))) : Int).toNat).drop (t192 : Int).toNat).length = ((wrap64 (t192 + (wrap64 (t191)))).toNat - t192.toNat) from (by rw [l1q,l2q];have h_ : ((wrap64 (t192 + (wrap64 (t191)))) : Int) ≤ (l0.length : Int):=dq_ (by first | (with_reducible assumption) | assumption);omega)] at hcv16)))
       go_ret3
       exact ⟨by first | rfl | (simp [errW_none,errW_some] <;> rfl) | (simp only [← hji5];first | rfl | (simp [errW_none,errW_some] <;> rfl)) | (simp [*,errW_none,errW_some] <;> rfl),by repeat (first | (with_reducible first | exact HB.out | apply qa | apply qn | apply qd) | exact HB.out)⟩
      ·rw [if_neg c10] at H
       exact absurd H (by simp)
     ·rw [if_neg c9] at H
      exact absurd H (by simp)
    ·rw [if_neg c8] at H
     exact absurd H (by simp)
 ·rw [if_neg c4] at H
  have c4b0 : (t193 == 0) = false:=b1q.mpr c4
  have c4b1 : (t193 != 0) = true:=bne_iff_ne.mpr c4
  simp only [o2q,Prod.mk.injEq] at H
  obtain ⟨rfl,rfl,rfl⟩:=H
  go_enter Try.func66,Try.ntmps66
  go_wp2_with (first | ((with_reducible refine gcq (f:=32) rfl ?_);refine glq (some 13) rfl rfl Try.func32 (by kernel_rfl) rfl #[.slice A0 l0.length c0] rfl (by (try simp only [l3q,l4q,l5q]);first | done | rfl | (simp only [l1q,l2q];rfl)) ?_;(with_reducible refine (wire_Get.calls k _ _ l0 t191 t192 t193 _ ?side1 ?side2 A3.out).mono ?_);(case side1 => repeat (first | exact HR0.out | (with_reducible first | refine caq ?_ _ | refine cnq ?_ _ | refine cdq ?_)));(case side2 => exact HC0.out);rintro e w' ⟨rfl,⟨nd,rfl⟩⟩;refine ⟨_,rfl,?_⟩))
  go_ret3
  exact ⟨by first | rfl | (simp [errW_none,errW_some] <;> rfl) | (simp [*,errW_none,errW_some] <;> rfl),by repeat (first | (with_reducible first | exact HB.out | apply qa | apply qn | apply qd) | exact HB.out)⟩

/-! ### cursor_Cursor_Text: function 44 -/
section
open Go.Proofs.YtmmfakdncjeoeaaAid

def cursor_Cursor_Text_1.f (k : Nat) (l0 : List Int) (a1 : Int) : Option (ByteArray × Int × Int) := (blob_Get.f k l0 a1).bind fun bt110 => (some (bt110.1, bt110.2.1, bt110.2.2))
set_option maxHeartbeats 8000000 in
set_option maxRecDepth 100000 in
theorem cursor_Cursor_Text_1.calls (k : Nat) (A0 : Option Addr) (c0 : Nat) (l0 : List Int) (a1 : Int) (r1 : ByteArray) (r2 : Int) (r3 : Int) (cb : Nat) (w : World) (hcell : w.cell? ⟨cb, 0, none⟩ = some (.int .i64 a1)) (hr0 : Kd.C (Kd.int .u8) w A0 l0.length l0) (hc0 : l0.length ≤ c0) (h : cursor_Cursor_Text_1.f k l0 a1 = some (r1, r2, r3)) :
    Calls Try.prog 65 #[.slice A0 l0.length c0, .pointer (some ⟨cb, 0, none⟩)] w fun e w' => e = .returned (.tuple #[.string r1, .int .i64 r2, .int .i64 r3]) ∧ Below w.heap.size w w' := by
  have HR0 := qm hr0
  have HC0 := qm hc0
  clear hr0 hc0
  have HB := qm (Below.refl w.heap.size w)
  have H : ((blob_Get.f k l0 a1).bind fun bt110 => (some (bt110.1, bt110.2.1, bt110.2.2))) = some (r1, r2, r3) := h
  clear h
  replace H := obq.mp H
  obtain ⟨⟨t110, t111, t112⟩, A30, H⟩ := H
  replace H : (some (t110, t111, t112)) = some (r1, r2, r3) := H
  have A3 := qm A30
  clear A30
  simp only [o2q, Prod.mk.injEq] at H
  obtain ⟨rfl, rfl, rfl⟩ := H
  go_enter Try.func65, Try.ntmps65
  go_wp2_with (first | ((with_reducible refine gcq (f := 66) rfl ?_); refine glq (some 8) rfl rfl Try.func66 (by kernel_rfl) rfl #[.slice A0 l0.length c0, .int .i64 a1] rfl (by (try simp only [l3q, l4q, l5q]); first | done | rfl | (simp only [l1q, l2q]; rfl) | (refine congrArg (fun z_ => #[z_]) (congrArg (Value.int IntKind.u64) (Eq.symm (Go.Proofs.YtmmfakdncjeoeaaAid.wrap_len _ (by omega)))))) ?_; (with_reducible refine (blob_Get.calls k _ _ l0 a1 t110 t111 t112 _ ?side1 ?side2 A3.out).mono ?_); (case side1 => repeat (first | exact HR0.out | (with_reducible first | refine caq ?_ _ | refine cnq ?_ _ | refine cdq ?_))); (case side2 => exact HC0.out); rintro e w4 ⟨rfl, hb⟩; refine ⟨_, rfl, ?_⟩; have n0_ := qm (qt (by repeat (first | (with_reducible first | exact HB.out | apply qa | apply qn | apply qd) | exact HB.out)) hb); clear HB; have HB := n0_; clear n0_; (try clear hb); (try clear hb2); (try clear hk); (try clear hi)))
  go_ret3
  exact ⟨by first | rfl | (simp [errW_none, errW_some] <;> rfl) | (simp [*, errW_none, errW_some] <;> rfl), by repeat (first | (with_reducible first | exact HB.out | apply qa | apply qn | apply qd) | exact HB.out)⟩


def cursor_Cursor_Text.f (k : Nat) (s0_0 : ByteArray) (s0_1 : Int) (s0_2 : Int) (a1 : Int) : Option (ByteArray × ByteArray × Int × Int) := cursor_take_out (⟨#[]⟩ : ByteArray) s0_0 s0_1 s0_2 (fun y_ => cursor_Cursor_Text_1.f k y_ a1)
set_option maxHeartbeats 8000000 in
set_option maxRecDepth 100000 in
theorem cursor_Cursor_Text.calls (k : Nat) (g : Nat) (s0_0 : ByteArray) (s0_1 : Int) (s0_2 : Int) (a1 : Int) (r1 : ByteArray) (r2 : ByteArray) (r3 : Int) (r4 : Int) (w0 w : World) (hI : IsS97 w0 w g s0_0 s0_1 s0_2) (hB : Below w0.heap.size w0 w) (h : cursor_Cursor_Text.f k s0_0 s0_1 s0_2 a1 = some (r1, r2, r3, r4)) :
    Calls Try.prog 44 #[.pointer (some ⟨g, 0, none⟩), .int .i64 a1] w fun e w' => e = .returned (.string r1) ∧ IsS97 w0 w' g r2 r3 r4 ∧ Below w0.heap.size w0 w' ∧ KeepBut w w' g none := by
  have HI0 := qm hI
  have HK := qm (KeepBut.refl w g none)
  have HB := qm hB
  clear hB hI
  have H : cursor_take_out (⟨#[]⟩ : ByteArray) s0_0 s0_1 s0_2 (fun y_ => cursor_Cursor_Text_1.f k y_ a1) = some (r1, r2, r3, r4) := h
  clear h
  go_enter Try.func44, Try.ntmps44
  go_wp2_with (first | ((with_reducible refine gdq (N := 3) rfl ?_); refine box_event ?hg (N := 3) ?hd (cs := #[.int .i64 a1]) (t := 3) ?hr ?_; (case hd => rfl); (case hg => rfl); (case hr => first | (go_simp; done) | (go_simp; rfl)); intro gb hg w6 hbox hb; have hgb : gb ≠ g := (by rw [hg]; exact Nat.ne_of_gt (IsS97.lt HI0.out)); have hcb : w6.cell? ⟨gb, 0, none⟩ = some (.int .i64 a1) := (kcq hbox 0).trans rfl; have n0_ := qm (IsS97.below HI0.out hb); have n1_ := qm (KeepBut.trans HK.out (KeepBut.of_below hb g none) (.inl rfl)); have n2_ := qm (qt HB.out hb); clear HI0 HK HB; have HI0 := n0_; have HK := n1_; have HB := n2_; clear n0_ n1_ n2_; clear hb hbox hg) | ((with_reducible refine gcq (f := 64) rfl ?_); refine glq (some 7) rfl rfl Try.func64 (by kernel_rfl) rfl #[.pointer (some ⟨g, 0, none⟩), .func (.func 65) #[] #[.pointer (some ⟨gb, 0, none⟩)]] rfl (by (try simp only [l3q, l4q, l5q]); first | done | rfl) ?_; refine (cursor_take_string.gen 65 _ Try.func65 (by kernel_rfl) rfl #[.pointer (some ⟨gb, 0, none⟩)] (fun y_ => cursor_Cursor_Text_1.f k y_ a1) g s0_0 s0_1 s0_2 _ _ _ _ w0 _ HI0.out HB.out (fun y_ t_ n_ e_ hy_ A_ c_ w1_ hk_ hr_ hc_ => (show Calls Try.prog 65 #[.slice A_ y_.length c_, .pointer (some ⟨gb, 0, none⟩)] w1_ _ from (cursor_Cursor_Text_1.calls k A_ c_ y_ a1 t_ n_ e_ gb w1_ (keep_cell hk_ hcb hgb) hr_ hc_ hy_).mono (fun x_ w2_ h_ => ⟨h_.1, h_.2⟩))) H).mono ?_; rintro e w7 ⟨rfl, hi, hb, hk⟩; refine ⟨_, rfl, ?_⟩; have n0_ := qm (KeepBut.trans HK.out hk (.inl rfl)); have n1_ := qm hb; have n2_ := qm hi; clear HK HB HI0; have HK := n0_; have HB := n1_; have HI0 := n2_; clear n0_ n1_ n2_ hb hk hi))
  go_ret
  exact ⟨rfl, HI0.out, HB.out, HK.out⟩
end

/-! ### wire_Unfold: function 92 -/
def wire_Unfold.f (a0 : Int) : Option (Int) := some (Go.bits .xor .i64 (wrap64 (a0 / 2)) (wrap64 (-(wrap64 (Go.bits .and .u64 a0 1)))))
set_option maxHeartbeats 8000000 in
set_option maxRecDepth 100000 in
theorem wire_Unfold.calls (a0 : Int) (r : Int) (w : World) (h : wire_Unfold.f a0 = some r) :
    Calls Try.prog 92 #[.int .u64 a0] w fun e w' => e = .returned (.int .i64 r) ∧ Drawn0 w w' := by
  have H : (some (Go.bits .xor .i64 (wrap64 (a0 / 2)) (wrap64 (-(wrap64 (Go.bits .and .u64 a0 1)))))) = some r := h
  clear h
  obtain rfl := oiq H
  go_enter Try.func92, Try.ntmps92
  go_wp2
  go_ret
  exact ⟨by first | rfl | (simp; done) | (simp [*]; done), by repeat (first | exact Drawn0.refl _ | apply Drawn0.step)⟩

/-! ### cursor_Cursor_Signed: function 83 -/
section
open Go.Proofs.YtmmfakdncjeoeaaAid

def cursor_Cursor_Signed.f (k : Nat) (s0_0 : ByteArray) (s0_1 : Int) (s0_2 : Int) : Option (Int × ByteArray × Int × Int) := (cursor_take_out (0 : Int) s0_0 s0_1 s0_2 (fun y_ => wire_Get.f k y_)).bind fun bt => (wire_Unfold.f bt.1).bind fun u => some (u, bt.2.1, bt.2.2.1, bt.2.2.2)
set_option maxHeartbeats 8000000 in
set_option maxRecDepth 100000 in
theorem cursor_Cursor_Signed.calls (k : Nat) (g : Nat) (s0_0 : ByteArray) (s0_1 : Int) (s0_2 : Int) (r1 : Int) (r2 : ByteArray) (r3 : Int) (r4 : Int) (w0 w : World) (hI : IsS97 w0 w g s0_0 s0_1 s0_2) (hB : Below w0.heap.size w0 w) (h : cursor_Cursor_Signed.f k s0_0 s0_1 s0_2 = some (r1, r2, r3, r4)) :
    Calls Try.prog 83 #[.pointer (some ⟨g, 0, none⟩)] w fun e w' => e = .returned (.int .i64 r1) ∧ IsS97 w0 w' g r2 r3 r4 ∧ Below w0.heap.size w0 w' ∧ KeepBut w w' g none := by
  have HI0 := qm hI
  have HK := qm (KeepBut.refl w g none)
  have HB := qm hB
  clear hB hI
  replace h := obq.mp h
  obtain ⟨⟨t1, t2, t3, t4⟩, H, h⟩ := h
  replace h := obq.mp h
  obtain ⟨u, HU, h⟩ := h
  simp only [o2q, Prod.mk.injEq] at h
  obtain ⟨rfl, rfl, rfl, rfl⟩ := h
  go_enter Try.func83, Try.ntmps83
  go_wp2_with (first | ((with_reducible refine gcq (f := 81) rfl ?_); refine glq (some 4) rfl rfl Try.func81 (by kernel_rfl) rfl #[.pointer (some ⟨g, 0, none⟩), .func (.func 32) #[] #[]] rfl (by (try simp only [l3q, l4q, l5q]); first | done | rfl) ?_; refine (cursor_take_u64.gen 32 _ Try.func32 (by kernel_rfl) rfl #[] (fun y_ => wire_Get.f k y_) g s0_0 s0_1 s0_2 _ _ _ _ w0 _ HI0.out HB.out (fun y_ t_ n_ e_ hy_ A_ c_ w1_ hk_ hr_ hc_ => (show Calls Try.prog 32 #[.slice A_ y_.length c_] w1_ _ from (wire_Get.calls k A_ c_ y_ t_ n_ e_ w1_ hr_ hc_ hy_).mono (fun x_ w2_ h_ => ⟨h_.1, h_.2.below⟩))) H).mono ?_; rintro e w7 ⟨rfl, hi, hb, hk⟩; refine ⟨_, rfl, ?_⟩; have n0_ := qm (KeepBut.trans HK.out hk (.inl rfl)); have n1_ := qm hb; have n2_ := qm hi; clear HK HB HI0; have HK := n0_; have HB := n1_; have HI0 := n2_; clear n0_ n1_ n2_ hb hk hi) | ((with_reducible refine gcq (f := 92) rfl ?_); refine glq (some 5) rfl rfl Try.func92 (by kernel_rfl) rfl #[.int .u64 t1] rfl (by (try simp only [l3q, l4q, l5q]); first | done | rfl) ?_; refine (wire_Unfold.calls t1 u _ HU).mono ?_; rintro e w8 ⟨rfl, hd⟩; have hb := hd.below; refine ⟨_, rfl, ?_⟩; have n0_ := qm (IsS97.below HI0.out hb); have n1_ := qm (KeepBut.trans HK.out (KeepBut.of_below hb g none) (.inl rfl)); have n2_ := qm (qt HB.out hb); clear HI0 HK HB; have HI0 := n0_; have HK := n1_; have HB := n2_; clear n0_ n1_ n2_; clear hb hd))
  go_ret
  exact ⟨rfl, HI0.out, HB.out, HK.out⟩
end

/-! ### unblock_reader_arg: function 67 -/
def unblock_reader_arg.f (k : Nat) (s0_0 : ByteArray) (s0_1 : Int) (s0_2 : Int) (a1 : Int) (l2 : List ByteArray) : Option (Int × Int × ByteArray × ByteArray × Int × Int) := if a1 = 1 then ((cursor_Cursor_Signed.f k s0_0 s0_1 s0_2).bind fun bt197 => (some (a1, bt197.1, (⟨#[]⟩ : ByteArray), bt197.2.1, bt197.2.2.1, bt197.2.2.2))) else ((unblock_reader_any.f k s0_0 s0_1 s0_2).bind fun bt201 => (if bt201.1 ≥ (IntKind.u64.wrap ((l2.length : Int))) then ((cursor_Cursor_Stop.f bt201.2.1 bt201.2.2.1 bt201.2.2.2 10).bind fun bt205 => (some (a1, 0, (⟨#[]⟩ : ByteArray), bt205.1, bt205.2.1, bt205.2.2))) else (if 0 ≤ bt201.1 then (if bt201.1 < (l2.length : Int) then (some (a1, 0, rdOf ByteArray.empty l2 bt201.1, bt201.2.1, bt201.2.2.1, bt201.2.2.2)) else (none)) else (none))))
set_option maxHeartbeats 8000000 in
set_option maxRecDepth 100000 in
theorem unblock_reader_arg.calls (k : Nat) (g : Nat) (s0_0 : ByteArray) (s0_1 : Int) (s0_2 : Int) (a1 : Int) (A2 : Option Addr) (c2 : Nat) (l2 : List ByteArray) (r1 : Int) (r2 : Int) (r3 : ByteArray) (r4 : ByteArray) (r5 : Int) (r6 : Int) (w0 w : World) (hI : IsS97 w0 w g s0_0 s0_1 s0_2) (hB : Below w0.heap.size w0 w) (hr2 : Kd.C Kd.string w A2 l2.length l2) (hc2 : l2.length ≤ c2) (hf2 : ∀ ad,A2 = some ad → 0 < l2.length → ad.block ≠ g) (h : unblock_reader_arg.f k s0_0 s0_1 s0_2 a1 l2 = some (r1,r2,r3,r4,r5,r6)) (gr : Nat) (x1_ x2_ : Value) (hx2_ : x2_ = .slice A2 l2.length c2) (hr_ : w.heap[gr]? = some (.cells #[.pointer (some ⟨g,0,none⟩),x1_,x2_] 68 (0,0))) (hne_ : gr ≠ g) (hge_ : w0.heap.size ≤ gr) :
  Calls Try.prog 67 #[.pointer (some ⟨gr,0,none⟩),.int .i64 a1] w fun e w' => e = .returned (.agg #[.int .i64 r1,.int .i64 r2,.string r3]) ∧ IsS97 w0 w' g r4 r5 r6 ∧ Below w0.heap.size w0 w' ∧ KeepBut w w' g none:=by
 have BK195:=qm hr_
 have GE195:=qm hge_
 have NB195_0:=qm hne_
 have NB0_195:=qm (Ne.symm hne_)
 clear hr_ hge_ hne_
 have HX2_:=qm hx2_
 clear hx2_
 have hcr_0:=(show w.cell? ⟨gr,0,none⟩ = some (.pointer (some ⟨g,0,none⟩)) from (kcq BK195.out 0).trans rfl)
 have hcr_1:=(show w.cell? ⟨gr,1,none⟩ = some x1_ from (kcq BK195.out 1).trans rfl)
 have hcr_2:=(show w.cell? ⟨gr,2,none⟩ = some x2_ from (kcq BK195.out 2).trans rfl).trans (congrArg some HX2_.out)
 have hu68:=Try.underlying68
 have hu61:=Try.underlying61
 have HR2:=qm hr2
 have HC2:=qm hc2
 clear hr2 hc2
 have HI0:=qm hI
 have HK:=qm (KeepBut.refl w g none)
 have HL:=qm hB.size
 clear hI
 have HW0:=qm hB.size
 have HB:=qm hB
 clear hB
 have H : (if a1 = 1 then ((cursor_Cursor_Signed.f k s0_0 s0_1 s0_2).bind fun bt197 => (some (a1,bt197.1,(⟨#[]⟩ : ByteArray),bt197.2.1,bt197.2.2.1,bt197.2.2.2))) else ((unblock_reader_any.f k s0_0 s0_1 s0_2).bind fun bt201 => (if bt201.1 ≥ (IntKind.u64.wrap ((l2.length : Int))) then ((cursor_Cursor_Stop.f bt201.2.1 bt201.2.2.1 bt201.2.2.2 10).bind fun bt205 => (some (a1,0,(⟨#[]⟩ : ByteArray),bt205.1,bt205.2.1,bt205.2.2))) else (if 0 ≤ bt201.1 then (if bt201.1 < (l2.length : Int) then (some (a1,0,rdOf ByteArray.empty l2 bt201.1,bt201.2.1,bt201.2.2.1,bt201.2.2.2)) else (none)) else (none))))) = some (r1,r2,r3,r4,r5,r6):=h
 clear h
 by_cases c4 : a1 = 1
 ·rw [if_pos c4] at H
  have c4b0 : (a1 == 1) = true:=beq_iff_eq.mpr c4
  have c4b1 : (a1 != 1) = false:=b2q.mpr c4
  clear c4
  replace H:=obq.mp H
  obtain ⟨⟨t197,t198,t199,t200⟩,A50,H⟩:=H
  replace H : (some (a1,t197,(⟨#[]⟩ : ByteArray),t198,t199,t200)) = some (r1,r2,r3,r4,r5,r6):=H
  have A5:=qm A50
  clear A50
  simp only [o2q,Prod.mk.injEq] at H
  obtain ⟨rfl,rfl,rfl,rfl,rfl,rfl⟩:=H
  go_enter Try.func67,Try.ntmps67
  go_wp2_with (first | ((with_reducible refine gdq (N:=4) rfl ?_);refine box_event ?hg (N:=4) ?hd (cs:=#[.int .i64 0,.int .i64 0,.string (⟨#[]⟩ : ByteArray)]) (t:=61) ?hr ?_;(case hd => rfl);(case hg => rfl);(case hr => first | (go_simp;done) | (go_simp;rfl));intro gb196 hg w7 hbox hb;have n0_:=qm (IsS97.below (by repeat (first | (with_reducible first | exact HI0.out | apply IsS97.alloc | apply IsS97.drewN | apply IsS97.drew | apply IsS97.set_0 | apply IsS97.set_1 | apply IsS97.set_2 | refine IsS97.far ?_ NB0_195.out _) | exact HI0.out)) hb);have n1_:=qm (blk_below (g:=gr) (o:=.cells #[.pointer (some ⟨g,0,none⟩),x1_,x2_] 68 (0,0)) (by (with_reducible repeat (first | refine knq ?_ _ | refine kdq ?_ | refine kaq ?_ _));exact BK195.out) hb);have n2_:=qm (KeepBut.trans (by repeat (first | (with_reducible first | exact HK.out | apply KeepBut.set_ | apply k1q | apply keep_drew | apply keep_alloc | refine keep_far ?_ GW195.out _) | exact HK.out)) (KeepBut.of_below hb g none) (.inl rfl));have n3_:=qm (qt (by repeat (first | (with_reducible first | exact HB.out | apply qa | apply qn | apply qd | refine qb ?_ (IsS97.ge HI0.out) | refine qb ?_ GE195.out) | exact HB.out)) hb);have n4_:=qm (hbox);have n5_:=qm ((by rw [hg];exact (keep_size (w:=w) (g:=g) (row:=none) (by repeat (first | (with_reducible first | exact HK.out | apply KeepBut.set_ | apply k1q | apply keep_drew | apply keep_alloc | refine keep_far ?_ GW195.out _) | exact HK.out))) : w.heap.size ≤ gb196));have n6_:=qm ((Nat.le_trans HW0.out (by rw [hg];exact (keep_size (w:=w) (g:=g) (row:=none) (by repeat (first | (with_reducible first | exact HK.out | apply KeepBut.set_ | apply k1q | apply keep_drew | apply keep_alloc | refine keep_far ?_ GW195.out _) | exact HK.out))) : w.heap.size ≤ gb196) : w0.heap.size ≤ gb196));have n7_:=qm ((by rw [hg];exact Nat.ne_of_lt (blk_lt (g:=gr) (o:=.cells #[.pointer (some ⟨g,0,none⟩),x1_,x2_] 68 (0,0)) (by (with_reducible repeat (first | refine knq ?_ _ | refine kdq ?_ | refine kaq ?_ _));exact BK195.out)) : gr ≠ gb196));have n8_:=qm ((by rw [hg];exact Nat.ne_of_gt (blk_lt (g:=gr) (o:=.cells #[.pointer (some ⟨g,0,none⟩),x1_,x2_] 68 (0,0)) (by (with_reducible repeat (first | refine knq ?_ _ | refine kdq ?_ | refine kaq ?_ _));exact BK195.out)) : gb196 ≠ gr));have n9_:=qm ((by rw [hg];exact Nat.ne_of_lt (IsS97.lt (show IsS97 w0 _ g s0_0 s0_1 s0_2 from by repeat (first | (with_reducible first | exact HI0.out | apply IsS97.alloc | apply IsS97.drewN | apply IsS97.drew | apply IsS97.set_0 | apply IsS97.set_1 | apply IsS97.set_2 | refine IsS97.far ?_ NB0_195.out _) | exact HI0.out))) : g ≠ gb196));have n10_:=qm ((by rw [hg];exact Nat.ne_of_gt (IsS97.lt (show IsS97 w0 _ g s0_0 s0_1 s0_2 from by repeat (first | (with_reducible first | exact HI0.out | apply IsS97.alloc | apply IsS97.drewN | apply IsS97.drew | apply IsS97.set_0 | apply IsS97.set_1 | apply IsS97.set_2 | refine IsS97.far ?_ NB0_195.out _) | exact HI0.out))) : gb196 ≠ g));clear HI0;clear BK195;clear HK;clear HB;have HI0:=n0_;have BK195:=n1_;have HK:=n2_;have HB:=n3_;have BK196:=n4_;have GW196:=n5_;have GE196:=n6_;have NB195_196:=n7_;have NB196_195:=n8_;have NB0_196:=n9_;have NB196_0:=n10_;clear n0_ n1_ n2_ n3_ n4_ n5_ n6_ n7_ n8_ n9_ n10_;clear hb hbox hg;have hnb8:=NB195_196.out;have hnc8:=NB196_195.out;have hnb9:=NB195_0.out;have hnc9:=NB0_195.out;have hcz10_0 : w7.cell? ⟨gr,0,none⟩ = some (.pointer (some ⟨g,0,none⟩)):=(kcq BK195.out 0).trans rfl;have hcz10_1:=(show w7.cell? ⟨gr,1,none⟩ = some x1_ from (kcq BK195.out 1).trans rfl);have hcz10_2:=(show w7.cell? ⟨gr,2,none⟩ = some x2_ from (kcq BK195.out 2).trans rfl).trans (congrArg some HX2_.out);have hfz10_0:=kfq BK195.out 0;have hfz10_1:=kfq BK195.out 1;have hfz10_2:=kfq BK195.out 2;have hcr_0:=(show w7.cell? ⟨gr,0,none⟩ = some (.pointer (some ⟨g,0,none⟩)) from (kcq BK195.out 0).trans rfl);have hcr_1:=(show w7.cell? ⟨gr,1,none⟩ = some x1_ from (kcq BK195.out 1).trans rfl);have hcr_2:=(show w7.cell? ⟨gr,2,none⟩ = some x2_ from (kcq BK195.out 2).trans rfl).trans (congrArg some HX2_.out)) | ((with_reducible refine gcq (f:=83) rfl ?_);refine glq (some 13) rfl rfl Try.func83 (by kernel_rfl) rfl #[.pointer (some ⟨g,0,none⟩)] rfl (by (try simp only [l3q,l4q,l5q]);first | done | rfl | (simp only [l1q,l2q];rfl)) ?_;(with_reducible refine (cursor_Cursor_Signed.calls k g s0_0 s0_1 s0_2 t197 t198 t199 t200 w0 _ ?side1 ?side2 A5.out).mono ?_);(case side1 => repeat (first | (with_reducible first | exact HI0.out | apply IsS97.alloc | apply IsS97.drewN | apply IsS97.drew | apply IsS97.set_0 | apply IsS97.set_1 | apply IsS97.set_2 | refine IsS97.far ?_ NB0_195.out _ | refine IsS97.far ?_ NB0_196.out _) | exact HI0.out));(case side2 => repeat (first | (with_reducible first | exact HB.out | apply qa | apply qn | apply qd | refine qb ?_ (IsS97.ge HI0.out) | refine qb ?_ GE195.out | refine qb ?_ GE196.out) | exact HB.out));rintro e w11 ⟨rfl,hi,hb,hk⟩;refine ⟨_,rfl,?_⟩;have n0_:=qm (KeepBut.blk hk (g':=gr) (o:=.cells #[.pointer (some ⟨g,0,none⟩),x1_,x2_] 68 (0,0)) (by (with_reducible repeat (first | refine knq ?_ _ | refine kdq ?_ | refine kaq ?_ _));exact BK195.out) NB195_0.out (by simp));have n1_:=qm (KeepBut.blk hk (g':=gb196) (o:=.cells #[.int .i64 0,.int .i64 0,.string (⟨#[]⟩ : ByteArray)] 61 (0,0)) (by (with_reducible repeat (first | refine knq ?_ _ | refine kdq ?_ | refine kaq ?_ _));exact BK196.out) NB196_0.out (by simp));have n2_:=qm (KeepBut.trans (by repeat (first | (with_reducible first | exact HK.out | apply KeepBut.set_ | apply k1q | apply keep_drew | apply keep_alloc | refine keep_far ?_ GW195.out _ | refine keep_far ?_ GW196.out _) | exact HK.out)) hk (.inl rfl));have n3_:=qm (hb);have n4_:=qm (hi);clear BK195;clear BK196;clear HK;clear HB;clear HI0;have BK195:=n0_;have BK196:=n1_;have HK:=n2_;have HB:=n3_;have HI0:=n4_;clear n0_ n1_ n2_ n3_ n4_;(try clear hb);(try clear hb2);(try clear hk);(try clear hi);have hnb12:=NB196_0.out;have hnc12:=NB0_196.out;have hcz13_0 : w11.cell? ⟨gb196,0,none⟩ = some (.int .i64 0):=(kcq BK196.out 0).trans rfl;have hcz13_1 : w11.cell? ⟨gb196,1,none⟩ = some (.int .i64 0):=(kcq BK196.out 1).trans rfl;have hcz13_2 : w11.cell? ⟨gb196,2,none⟩ = some (.string (⟨#[]⟩ : ByteArray)):=(kcq BK196.out 2).trans rfl;have hfz13_0:=kfq BK196.out 0;have hfz13_1:=kfq BK196.out 1;have hfz13_2:=kfq BK196.out 2;have hcr_0:=(show w11.cell? ⟨gr,0,none⟩ = some (.pointer (some ⟨g,0,none⟩)) from (kcq BK195.out 0).trans rfl);have hcr_1:=(show w11.cell? ⟨gr,1,none⟩ = some x1_ from (kcq BK195.out 1).trans rfl);have hcr_2:=(show w11.cell? ⟨gr,2,none⟩ = some x2_ from (kcq BK195.out 2).trans rfl).trans (congrArg some HX2_.out)))
  refine bodyPost_ret (results_cell_row rfl _ _ gb196 61 #[.int .i64 a1,.int .i64 t197,.string (⟨#[]⟩ : ByteArray)] (0,0) _ rfl (by (with_reducible repeat (first | refine knq ?_ _ | refine kdq ?_ | refine kaq ?_ _));refine blk_put (cs:=#[.int .i64 a1,.int .i64 t197,.string (⟨#[]⟩ : ByteArray)]) ?_ 2 _ rfl;(with_reducible repeat (first | refine knq ?_ _ | refine kdq ?_ | refine kaq ?_ _));refine blk_put (cs:=#[.int .i64 a1,.int .i64 0,.string (⟨#[]⟩ : ByteArray)]) ?_ 1 _ rfl;(with_reducible repeat (first | refine knq ?_ _ | refine kdq ?_ | refine kaq ?_ _));refine blk_put (cs:=#[.int .i64 0,.int .i64 0,.string (⟨#[]⟩ : ByteArray)]) ?_ 0 _ rfl;(with_reducible repeat (first | refine knq ?_ _ | refine kdq ?_ | refine kaq ?_ _));exact BK196.out) Try.underlying61 rfl (by kernel_rfl)) rfl ?_
  exact ⟨by first | rfl | (simp [errW_none,errW_some] <;> rfl) | (simp [*,errW_none,errW_some] <;> rfl),by repeat (first | (with_reducible first | exact HI0.out | apply IsS97.alloc | apply IsS97.drewN | apply IsS97.drew | apply IsS97.set_0 | apply IsS97.set_1 | apply IsS97.set_2 | refine IsS97.far ?_ NB0_195.out _ | refine IsS97.far ?_ NB0_196.out _) | exact HI0.out),by repeat (first | (with_reducible first | exact HB.out | apply qa | apply qn | apply qd | refine qb ?_ (IsS97.ge HI0.out) | refine qb ?_ GE195.out | refine qb ?_ GE196.out) | exact HB.out),by repeat (first | (with_reducible first | exact HK.out | apply KeepBut.set_ | apply k1q | apply keep_drew | apply keep_alloc | refine keep_far ?_ GW195.out _ | refine keep_far ?_ GW196.out _) | exact HK.out)⟩
 ·rw [if_neg c4] at H
  have c4b0 : (a1 == 1) = false:=b1q.mpr c4
  have c4b1 : (a1 != 1) = true:=bne_iff_ne.mpr c4
  replace H:=obq.mp H
  obtain ⟨⟨t201,t202,t203,t204⟩,A140,H⟩:=H
  replace H : (if t201 ≥ (IntKind.u64.wrap ((l2.length : Int))) then ((cursor_Cursor_Stop.f t202 t203 t204 10).bind fun bt205 => (some (a1,0,(⟨#[]⟩ : ByteArray),bt205.1,bt205.2.1,bt205.2.2))) else (if 0 ≤ t201 then (if t201 < (l2.length : Int) then (some (a1,0,rdOf ByteArray.empty l2 t201,t202,t203,t204)) else (none)) else (none))) = some (r1,r2,r3,r4,r5,r6):=H
  have A14:=qm A140
  clear A140
  by_cases c15 : t201 ≥ (IntKind.u64.wrap ((l2.length : Int)))
  ·rw [if_pos c15] at H
   have c15b0 : decide ((IntKind.u64.wrap ((l2.length : Int))) ≤ t201) = true:=dt_ c15
   clear c15
   replace H:=obq.mp H
   obtain ⟨⟨t205,t206,t207⟩,A160,H⟩:=H
   replace H : (some (a1,0,(⟨#[]⟩ : ByteArray),t205,t206,t207)) = some (r1,r2,r3,r4,r5,r6):=H
   have A16:=qm A160
   clear A160
   simp only [o2q,Prod.mk.injEq] at H
   obtain ⟨rfl,rfl,rfl,rfl,rfl,rfl⟩:=H
   go_enter Try.func67,Try.ntmps67
   go_wp2_with (first | ((with_reducible refine gdq (N:=4) rfl ?_);refine box_event ?hg (N:=4) ?hd (cs:=#[.int .i64 0,.int .i64 0,.string (⟨#[]⟩ : ByteArray)]) (t:=61) ?hr ?_;(case hd => rfl);(case hg => rfl);(case hr => first | (go_simp;done) | (go_simp;rfl));intro gb196 hg w18 hbox hb;have n0_:=qm (IsS97.below (by repeat (first | (with_reducible first | exact HI0.out | apply IsS97.alloc | apply IsS97.drewN | apply IsS97.drew | apply IsS97.set_0 | apply IsS97.set_1 | apply IsS97.set_2 | refine IsS97.far ?_ NB0_195.out _) | exact HI0.out)) hb);have n1_:=qm (blk_below (g:=gr) (o:=.cells #[.pointer (some ⟨g,0,none⟩),x1_,x2_] 68 (0,0)) (by (with_reducible repeat (first | refine knq ?_ _ | refine kdq ?_ | refine kaq ?_ _));exact BK195.out) hb);have n2_:=qm (KeepBut.trans (by repeat (first | (with_reducible first | exact HK.out | apply KeepBut.set_ | apply k1q | apply keep_drew | apply keep_alloc | refine keep_far ?_ GW195.out _) | exact HK.out)) (KeepBut.of_below hb g none) (.inl rfl));have n3_:=qm (qt (by repeat (first | (with_reducible first | exact HB.out | apply qa | apply qn | apply qd | refine qb ?_ (IsS97.ge HI0.out) | refine qb ?_ GE195.out) | exact HB.out)) hb);have n4_:=qm (hbox);have n5_:=qm ((by rw [hg];exact (keep_size (w:=w) (g:=g) (row:=none) (by repeat (first | (with_reducible first | exact HK.out | apply KeepBut.set_ | apply k1q | apply keep_drew | apply keep_alloc | refine keep_far ?_ GW195.out _) | exact HK.out))) : w.heap.size ≤ gb196));have n6_:=qm ((Nat.le_trans HW0.out (by rw [hg];exact (keep_size (w:=w) (g:=g) (row:=none) (by repeat (first | (with_reducible first | exact HK.out | apply KeepBut.set_ | apply k1q | apply keep_drew | apply keep_alloc | refine keep_far ?_ GW195.out _) | exact HK.out))) : w.heap.size ≤ gb196) : w0.heap.size ≤ gb196));have n7_:=qm ((by rw [hg];exact Nat.ne_of_lt (blk_lt (g:=gr) (o:=.cells #[.pointer (some ⟨g,0,none⟩),x1_,x2_] 68 (0,0)) (by (with_reducible repeat (first | refine knq ?_ _ | refine kdq ?_ | refine kaq ?_ _));exact BK195.out)) : gr ≠ gb196));have n8_:=qm ((by rw [hg];exact Nat.ne_of_gt (blk_lt (g:=gr) (o:=.cells #[.pointer (some ⟨g,0,none⟩),x1_,x2_] 68 (0,0)) (by (with_reducible repeat (first | refine knq ?_ _ | refine kdq ?_ | refine kaq ?_ _));exact BK195.out)) : gb196 ≠ gr));have n9_:=qm ((by rw [hg];exact Nat.ne_of_lt (IsS97.lt (show IsS97 w0 _ g s0_0 s0_1 s0_2 from by repeat (first | (with_reducible first | exact HI0.out | apply IsS97.alloc | apply IsS97.drewN | apply IsS97.drew | apply IsS97.set_0 | apply IsS97.set_1 | apply IsS97.set_2 | refine IsS97.far ?_ NB0_195.out _) | exact HI0.out))) : g ≠ gb196));have n10_:=qm ((by rw [hg];exact Nat.ne_of_gt (IsS97.lt (show IsS97 w0 _ g s0_0 s0_1 s0_2 from by repeat (first | (with_reducible first | exact HI0.out | apply IsS97.alloc | apply IsS97.drewN | apply IsS97.drew | apply IsS97.set_0 | apply IsS97.set_1 | apply IsS97.set_2 | refine IsS97.far ?_ NB0_195.out _) | exact HI0.out))) : gb196 ≠ g));clear HI0;clear BK195;clear HK;clear HB;have HI0:=n0_;have BK195:=n1_;have HK:=n2_;have HB:=n3_;have BK196:=n4_;have GW196:=n5_;have GE196:=n6_;have NB195_196:=n7_;have NB196_195:=n8_;have NB0_196:=n9_;have NB196_0:=n10_;clear n0_ n1_ n2_ n3_ n4_ n5_ n6_ n7_ n8_ n9_ n10_;clear hb hbox hg;have hcr_0:=(show w18.cell? ⟨gr,0,none⟩ = some (.pointer (some ⟨g,0,none⟩)) from (kcq BK195.out 0).trans rfl);have hcr_1:=(show w18.cell? ⟨gr,1,none⟩ = some x1_ from (kcq BK195.out 1).trans rfl);have hcr_2:=(show w18.cell? ⟨gr,2,none⟩ = some x2_ from (kcq BK195.out 2).trans rfl).trans (congrArg some HX2_.out)) | ((with_reducible refine gcq (f:=41) rfl ?_);refine glq (some 16) rfl rfl Try.func41 (by kernel_rfl) rfl #[.pointer (some ⟨gr,0,none⟩)] rfl (by (try simp only [l3q,l4q,l5q]);first | done | rfl | (simp only [l1q,l2q];rfl)) ?_;(with_reducible refine (unblock_reader_any.calls k g s0_0 s0_1 s0_2 t201 t202 t203 t204 w0 _ ?side1 ?side2 A14.out gr (ReaderAt.mk (x1:=x1_) (x2:=x2_) (by (with_reducible repeat (first | refine knq ?_ _ | refine kdq ?_ | refine kaq ?_ _));exact BK195.out))).mono ?_);(case side1 => repeat (first | (with_reducible first | exact HI0.out | apply IsS97.alloc | apply IsS97.drewN | apply IsS97.drew | apply IsS97.set_0 | apply IsS97.set_1 | apply IsS97.set_2 | refine IsS97.far ?_ NB0_195.out _ | refine IsS97.far ?_ NB0_196.out _) | exact HI0.out));(case side2 => repeat (first | (with_reducible first | exact HB.out | apply qa | apply qn | apply qd | refine qb ?_ (IsS97.ge HI0.out) | refine qb ?_ GE195.out | refine qb ?_ GE196.out) | exact HB.out));rintro e w19 ⟨rfl,hi,hb,hk⟩;refine ⟨_,rfl,?_⟩;have n0_:=qm (KeepBut.blk hk (g':=gr) (o:=.cells #[.pointer (some ⟨g,0,none⟩),x1_,x2_] 68 (0,0)) (by (with_reducible repeat (first | refine knq ?_ _ | refine kdq ?_ | refine kaq ?_ _));exact BK195.out) NB195_0.out (by simp));have n1_:=qm (KeepBut.blk hk (g':=gb196) (o:=.cells #[.int .i64 0,.int .i64 0,.string (⟨#[]⟩ : ByteArray)] 61 (0,0)) (by (with_reducible repeat (first | refine knq ?_ _ | refine kdq ?_ | refine kaq ?_ _));exact BK196.out) NB196_0.out (by simp));have n2_:=qm (KeepBut.trans (by repeat (first | (with_reducible first | exact HK.out | apply KeepBut.set_ | apply k1q | apply keep_drew | apply keep_alloc | refine keep_far ?_ GW195.out _ | refine keep_far ?_ GW196.out _) | exact HK.out)) hk (.inl rfl));have n3_:=qm (hb);have n4_:=qm (hi);clear BK195;clear BK196;clear HK;clear HB;clear HI0;have BK195:=n0_;have BK196:=n1_;have HK:=n2_;have HB:=n3_;have HI0:=n4_;clear n0_ n1_ n2_ n3_ n4_;(try clear hb);(try clear hb2);(try clear hk);(try clear hi);have hnb20:=NB195_196.out;have hnc20:=NB196_195.out;have hnb21:=NB195_0.out;have hnc21:=NB0_195.out;have hcz22_0 : w19.cell? ⟨gr,0,none⟩ = some (.pointer (some ⟨g,0,none⟩)):=(kcq BK195.out 0).trans rfl;have hcz22_1:=(show w19.cell? ⟨gr,1,none⟩ = some x1_ from (kcq BK195.out 1).trans rfl);have hcz22_2:=(show w19.cell? ⟨gr,2,none⟩ = some x2_ from (kcq BK195.out 2).trans rfl).trans (congrArg some HX2_.out);have hfz22_0:=kfq BK195.out 0;have hfz22_1:=kfq BK195.out 1;have hfz22_2:=kfq BK195.out 2;have hcr_0:=(show w19.cell? ⟨gr,0,none⟩ = some (.pointer (some ⟨g,0,none⟩)) from (kcq BK195.out 0).trans rfl);have hcr_1:=(show w19.cell? ⟨gr,1,none⟩ = some x1_ from (kcq BK195.out 1).trans rfl);have hcr_2:=(show w19.cell? ⟨gr,2,none⟩ = some x2_ from (kcq BK195.out 2).trans rfl).trans (congrArg some HX2_.out)) | ((with_reducible refine gcq (f:=43) rfl ?_);refine glq (some 29) rfl rfl Try.func43 (by kernel_rfl) rfl #[.pointer (some ⟨g,0,none⟩),.int .i64 10] rfl (by (try simp only [l3q,l4q,l5q]);first | done | rfl | (simp only [l1q,l2q];rfl)) ?_;(with_reducible refine (cursor_Cursor_Stop.calls g t202 t203 t204 10 t205 t206 t207 w0 _ ?side1 ?side2 A16.out).mono ?_);(case side1 => repeat (first | (with_reducible first | exact HI0.out | apply IsS97.alloc | apply IsS97.drewN | apply IsS97.drew | apply IsS97.set_0 | apply IsS97.set_1 | apply IsS97.set_2 | refine IsS97.far ?_ NB0_195.out _ | refine IsS97.far ?_ NB0_196.out _) | exact HI0.out));(case side2 => repeat (first | (with_reducible first | exact HB.out | apply qa | apply qn | apply qd | refine qb ?_ (IsS97.ge HI0.out) | refine qb ?_ GE195.out | refine qb ?_ GE196.out) | exact HB.out));rintro e w23 ⟨rfl,hi,hb,hk⟩;refine ⟨_,rfl,?_⟩;have n0_:=qm (KeepBut.blk hk (g':=gr) (o:=.cells #[.pointer (some ⟨g,0,none⟩),x1_,x2_] 68 (0,0)) (by (with_reducible repeat (first | refine knq ?_ _ | refine kdq ?_ | refine kaq ?_ _));exact BK195.out) NB195_0.out (by simp));have n1_:=qm (KeepBut.blk hk (g':=gb196) (o:=.cells #[.int .i64 0,.int .i64 0,.string (⟨#[]⟩ : ByteArray)] 61 (0,0)) (by (with_reducible repeat (first | refine knq ?_ _ | refine kdq ?_ | refine kaq ?_ _));exact BK196.out) NB196_0.out (by simp));have n2_:=qm (KeepBut.trans (by repeat (first | (with_reducible first | exact HK.out | apply KeepBut.set_ | apply k1q | apply keep_drew | apply keep_alloc | refine keep_far ?_ GW195.out _ | refine keep_far ?_ GW196.out _) | exact HK.out)) hk (.inl rfl));have n3_:=qm (hb);have n4_:=qm (hi);clear BK195;clear BK196;clear HK;clear HB;clear HI0;have BK195:=n0_;have BK196:=n1_;have HK:=n2_;have HB:=n3_;have HI0:=n4_;clear n0_ n1_ n2_ n3_ n4_;(try clear hb);(try clear hb2);(try clear hk);(try clear hi);have hnb24:=NB196_0.out;have hnc24:=NB0_196.out;have hcz25_0 : w23.cell? ⟨gb196,0,none⟩ = some (.int .i64 0):=(kcq BK196.out 0).trans rfl;have hcz25_1 : w23.cell? ⟨gb196,1,none⟩ = some (.int .i64 0):=(kcq BK196.out 1).trans rfl;have hcz25_2 : w23.cell? ⟨gb196,2,none⟩ = some (.string (⟨#[]⟩ : ByteArray)):=(kcq BK196.out 2).trans rfl;have hfz25_0:=kfq BK196.out 0;have hfz25_1:=kfq BK196.out 1;have hfz25_2:=kfq BK196.out 2;have hcr_0:=(show w23.cell? ⟨gr,0,none⟩ = some (.pointer (some ⟨g,0,none⟩)) from (kcq BK195.out 0).trans rfl);have hcr_1:=(show w23.cell? ⟨gr,1,none⟩ = some x1_ from (kcq BK195.out 1).trans rfl);have hcr_2:=(show w23.cell? ⟨gr,2,none⟩ = some x2_ from (kcq BK195.out 2).trans rfl).trans (congrArg some HX2_.out)))
   refine bodyPost_ret (results_cell_row rfl _ _ gb196 61 #[.int .i64 a1,.int .i64 0,.string (⟨#[]⟩ : ByteArray)] (0,0) _ rfl (by (with_reducible repeat (first | refine knq ?_ _ | refine kdq ?_ | refine kaq ?_ _));refine blk_put (cs:=#[.int .i64 a1,.int .i64 0,.string (⟨#[]⟩ : ByteArray)]) ?_ 2 _ rfl;(with_reducible repeat (first | refine knq ?_ _ | refine kdq ?_ | refine kaq ?_ _));refine blk_put (cs:=#[.int .i64 a1,.int .i64 0,.string (⟨#[]⟩ : ByteArray)]) ?_ 1 _ rfl;(with_reducible repeat (first | refine knq ?_ _ | refine kdq ?_ | refine kaq ?_ _));refine blk_put (cs:=#[.int .i64 0,.int .i64 0,.string (⟨#[]⟩ : ByteArray)]) ?_ 0 _ rfl;(with_reducible repeat (first | refine knq ?_ _ | refine kdq ?_ | refine kaq ?_ _));exact BK196.out) Try.underlying61 rfl (by kernel_rfl)) rfl ?_
   exact ⟨by first | rfl | (simp [errW_none,errW_some] <;> rfl) | (simp [*,errW_none,errW_some] <;> rfl),by repeat (first | (with_reducible first | exact HI0.out | apply IsS97.alloc | apply IsS97.drewN | apply IsS97.drew | apply IsS97.set_0 | apply IsS97.set_1 | apply IsS97.set_2 | refine IsS97.far ?_ NB0_195.out _ | refine IsS97.far ?_ NB0_196.out _) | exact HI0.out),by repeat (first | (with_reducible first | exact HB.out | apply qa | apply qn | apply qd | refine qb ?_ (IsS97.ge HI0.out) | refine qb ?_ GE195.out | refine qb ?_ GE196.out) | exact HB.out),by repeat (first | (with_reducible first | exact HK.out | apply KeepBut.set_ | apply k1q | apply keep_drew | apply keep_alloc | refine keep_far ?_ GW195.out _ | refine keep_far ?_ GW196.out _) | exact HK.out)⟩
  ·rw [if_neg c15] at H
   have c15b0 : decide ((IntKind.u64.wrap ((l2.length : Int))) ≤ t201) = false:=decide_eq_false c15
   clear c15
   by_cases c26 : 0 ≤ t201
   ·rw [if_pos c26] at H
    have c26b0 : decide (0 ≤ t201) = true:=dt_ c26
    clear c26
    by_cases c27 : t201 < (l2.length : Int)
    ·rw [if_pos c27] at H
     have c27b0 : decide (t201 < (l2.length : Int)) = true:=dt_ c27
     clear c27
     simp only [o2q,Prod.mk.injEq] at H
     obtain ⟨rfl,rfl,rfl,rfl,rfl,rfl⟩:=H
     go_enter Try.func67,Try.ntmps67
     go_wp2_with (first | ((with_reducible refine gdq (N:=4) rfl ?_);refine box_event ?hg (N:=4) ?hd (cs:=#[.int .i64 0,.int .i64 0,.string (⟨#[]⟩ : ByteArray)]) (t:=61) ?hr ?_;(case hd => rfl);(case hg => rfl);(case hr => first | (go_simp;done) | (go_simp;rfl));intro gb196 hg w29 hbox hb;have n0_:=qm (IsS97.below (by repeat (first | (with_reducible first | exact HI0.out | apply IsS97.alloc | apply IsS97.drewN | apply IsS97.drew | apply IsS97.set_0 | apply IsS97.set_1 | apply IsS97.set_2 | refine IsS97.far ?_ NB0_195.out _) | exact HI0.out)) hb);have n1_:=qm (blk_below (g:=gr) (o:=.cells #[.pointer (some ⟨g,0,none⟩),x1_,x2_] 68 (0,0)) (by (with_reducible repeat (first | refine knq ?_ _ | refine kdq ?_ | refine kaq ?_ _));exact BK195.out) hb);have n2_:=qm (KeepBut.trans (by repeat (first | (with_reducible first | exact HK.out | apply KeepBut.set_ | apply k1q | apply keep_drew | apply keep_alloc | refine keep_far ?_ GW195.out _) | exact HK.out)) (KeepBut.of_below hb g none) (.inl rfl));have n3_:=qm (qt (by repeat (first | (with_reducible first | exact HB.out | apply qa | apply qn | apply qd | refine qb ?_ (IsS97.ge HI0.out) | refine qb ?_ GE195.out) | exact HB.out)) hb);have n4_:=qm (hbox);have n5_:=qm ((by rw [hg];exact (keep_size (w:=w) (g:=g) (row:=none) (by repeat (first | (with_reducible first | exact HK.out | apply KeepBut.set_ | apply k1q | apply keep_drew | apply keep_alloc | refine keep_far ?_ GW195.out _) | exact HK.out))) : w.heap.size ≤ gb196));have n6_:=qm ((Nat.le_trans HW0.out (by rw [hg];exact (keep_size (w:=w) (g:=g) (row:=none) (by repeat (first | (with_reducible first | exact HK.out | apply KeepBut.set_ | apply k1q | apply keep_drew | apply keep_alloc | refine keep_far ?_ GW195.out _) | exact HK.out))) : w.heap.size ≤ gb196) : w0.heap.size ≤ gb196));have n7_:=qm ((by rw [hg];exact Nat.ne_of_lt (blk_lt (g:=gr) (o:=.cells #[.pointer (some ⟨g,0,none⟩),x1_,x2_] 68 (0,0)) (by (with_reducible repeat (first | refine knq ?_ _ | refine kdq ?_ | refine kaq ?_ _));exact BK195.out)) : gr ≠ gb196));have n8_:=qm ((by rw [hg];exact Nat.ne_of_gt (blk_lt (g:=gr) (o:=.cells #[.pointer (some ⟨g,0,none⟩),x1_,x2_] 68 (0,0)) (by (with_reducible repeat (first | refine knq ?_ _ | refine kdq ?_ | refine kaq ?_ _));exact BK195.out)) : gb196 ≠ gr));have n9_:=qm ((by rw [hg];exact Nat.ne_of_lt (IsS97.lt (show IsS97 w0 _ g s0_0 s0_1 s0_2 from by repeat (first | (with_reducible first | exact HI0.out | apply IsS97.alloc | apply IsS97.drewN | apply IsS97.drew | apply IsS97.set_0 | apply IsS97.set_1 | apply IsS97.set_2 | refine IsS97.far ?_ NB0_195.out _) | exact HI0.out))) : g ≠ gb196));have n10_:=qm ((by rw [hg];exact Nat.ne_of_gt (IsS97.lt (show IsS97 w0 _ g s0_0 s0_1 s0_2 from by repeat (first | (with_reducible first | exact HI0.out | apply IsS97.alloc | apply IsS97.drewN | apply IsS97.drew | apply IsS97.set_0 | apply IsS97.set_1 | apply IsS97.set_2 | refine IsS97.far ?_ NB0_195.out _) | exact HI0.out))) : gb196 ≠ g));clear HI0;clear BK195;clear HK;clear HB;have HI0:=n0_;have BK195:=n1_;have HK:=n2_;have HB:=n3_;have BK196:=n4_;have GW196:=n5_;have GE196:=n6_;have NB195_196:=n7_;have NB196_195:=n8_;have NB0_196:=n9_;have NB196_0:=n10_;clear n0_ n1_ n2_ n3_ n4_ n5_ n6_ n7_ n8_ n9_ n10_;clear hb hbox hg;have hcr_0:=(show w29.cell? ⟨gr,0,none⟩ = some (.pointer (some ⟨g,0,none⟩)) from (kcq BK195.out 0).trans rfl);have hcr_1:=(show w29.cell? ⟨gr,1,none⟩ = some x1_ from (kcq BK195.out 1).trans rfl);have hcr_2:=(show w29.cell? ⟨gr,2,none⟩ = some x2_ from (kcq BK195.out 2).trans rfl).trans (congrArg some HX2_.out)) | ((with_reducible refine gcq (f:=41) rfl ?_);refine glq (some 16) rfl rfl Try.func41 (by kernel_rfl) rfl #[.pointer (some ⟨gr,0,none⟩)] rfl (by (try simp only [l3q,l4q,l5q]);first | done | rfl | (simp only [l1q,l2q];rfl)) ?_;(with_reducible refine (unblock_reader_any.calls k g s0_0 s0_1 s0_2 t201 t202 t203 t204 w0 _ ?side1 ?side2 A14.out gr (ReaderAt.mk (x1:=x1_) (x2:=x2_) (by (with_reducible repeat (first | refine knq ?_ _ | refine kdq ?_ | refine kaq ?_ _));exact BK195.out))).mono ?_);(case side1 => repeat (first | (with_reducible first | exact HI0.out | apply IsS97.alloc | apply IsS97.drewN | apply IsS97.drew | apply IsS97.set_0 | apply IsS97.set_1 | apply IsS97.set_2 | refine IsS97.far ?_ NB0_195.out _ | refine IsS97.far ?_ NB0_196.out _) | exact HI0.out));(case side2 => repeat (first | (with_reducible first | exact HB.out | apply qa | apply qn | apply qd | refine qb ?_ (IsS97.ge HI0.out) | refine qb ?_ GE195.out | refine qb ?_ GE196.out) | exact HB.out));rintro e w30 ⟨rfl,hi,hb,hk⟩;refine ⟨_,rfl,?_⟩;have n0_:=qm (KeepBut.blk hk (g':=gr) (o:=.cells #[.pointer (some ⟨g,0,none⟩),x1_,x2_] 68 (0,0)) (by (with_reducible repeat (first | refine knq ?_ _ | refine kdq ?_ | refine kaq ?_ _));exact BK195.out) NB195_0.out (by simp));have n1_:=qm (KeepBut.blk hk (g':=gb196) (o:=.cells #[.int .i64 0,.int .i64 0,.string (⟨#[]⟩ : ByteArray)] 61 (0,0)) (by (with_reducible repeat (first | refine knq ?_ _ | refine kdq ?_ | refine kaq ?_ _));exact BK196.out) NB196_0.out (by simp));have n2_:=qm (KeepBut.trans (by repeat (first | (with_reducible first | exact HK.out | apply KeepBut.set_ | apply k1q | apply keep_drew | apply keep_alloc | refine keep_far ?_ GW195.out _ | refine keep_far ?_ GW196.out _) | exact HK.out)) hk (.inl rfl));have n3_:=qm (hb);have n4_:=qm (hi);clear BK195;clear BK196;clear HK;clear HB;clear HI0;have BK195:=n0_;have BK196:=n1_;have HK:=n2_;have HB:=n3_;have HI0:=n4_;clear n0_ n1_ n2_ n3_ n4_;(try clear hb);(try clear hb2);(try clear hk);(try clear hi);have p208 : 0 ≤ (t201 : Int):=dq_ (by first | (with_reducible assumption) | assumption);have q208 : t201 < (l2.length : Int):=dq_ (by first | (with_reducible assumption) | assumption);obtain ⟨ad208,e208,hx208_0⟩:=Kd.at_string HR2.out t201 p208 q208;cases e208;replace hx208_0:=keep_cell HK.out hx208_0 (by first | (rw [add_block];exact hf2 _ rfl (by omega)) | exact hf2 _ rfl (by omega) | exact hf2 ad208 rfl (by omega));replace p208:=eq_true p208;replace q208:=eq_true q208;have hnb31:=NB196_195.out;have hnc31:=NB195_196.out;have hnb32:=NB196_0.out;have hnc32:=NB0_196.out;have hcz33_0 : w30.cell? ⟨gb196,0,none⟩ = some (.int .i64 0):=(kcq BK196.out 0).trans rfl;have hcz33_1 : w30.cell? ⟨gb196,1,none⟩ = some (.int .i64 0):=(kcq BK196.out 1).trans rfl;have hcz33_2 : w30.cell? ⟨gb196,2,none⟩ = some (.string (⟨#[]⟩ : ByteArray)):=(kcq BK196.out 2).trans rfl;have hfz33_0:=kfq BK196.out 0;have hfz33_1:=kfq BK196.out 1;have hfz33_2:=kfq BK196.out 2;have hcr_0:=(show w30.cell? ⟨gr,0,none⟩ = some (.pointer (some ⟨g,0,none⟩)) from (kcq BK195.out 0).trans rfl);have hcr_1:=(show w30.cell? ⟨gr,1,none⟩ = some x1_ from (kcq BK195.out 1).trans rfl);have hcr_2:=(show w30.cell? ⟨gr,2,none⟩ = some x2_ from (kcq BK195.out 2).trans rfl).trans (congrArg some HX2_.out)))
     refine bodyPost_ret (results_cell_row rfl _ _ gb196 61 #[.int .i64 a1,.int .i64 0,.string (rdOf ByteArray.empty l2 t201)] (0,0) _ rfl (by (with_reducible repeat (first | refine knq ?_ _ | refine kdq ?_ | refine kaq ?_ _));refine blk_put (cs:=#[.int .i64 a1,.int .i64 0,.string (⟨#[]⟩ : ByteArray)]) ?_ 2 _ rfl;(with_reducible repeat (first | refine knq ?_ _ | refine kdq ?_ | refine kaq ?_ _));refine blk_put (cs:=#[.int .i64 a1,.int .i64 0,.string (⟨#[]⟩ : ByteArray)]) ?_ 1 _ rfl;(with_reducible repeat (first | refine knq ?_ _ | refine kdq ?_ | refine kaq ?_ _));refine blk_put (cs:=#[.int .i64 0,.int .i64 0,.string (⟨#[]⟩ : ByteArray)]) ?_ 0 _ rfl;(with_reducible repeat (first | refine knq ?_ _ | refine kdq ?_ | refine kaq ?_ _));exact BK196.out) Try.underlying61 rfl (by kernel_rfl)) rfl ?_
     exact ⟨by first | rfl | (simp [errW_none,errW_some] <;> rfl) | (simp [*,errW_none,errW_some] <;> rfl),by repeat (first | (with_reducible first | exact HI0.out | apply IsS97.alloc | apply IsS97.drewN | apply IsS97.drew | apply IsS97.set_0 | apply IsS97.set_1 | apply IsS97.set_2 | refine IsS97.far ?_ NB0_195.out _ | refine IsS97.far ?_ NB0_196.out _) | exact HI0.out),by repeat (first | (with_reducible first | exact HB.out | apply qa | apply qn | apply qd | refine qb ?_ (IsS97.ge HI0.out) | refine qb ?_ GE195.out | refine qb ?_ GE196.out) | exact HB.out),by repeat (first | (with_reducible first | exact HK.out | apply KeepBut.set_ | apply k1q | apply keep_drew | apply keep_alloc | refine keep_far ?_ GW195.out _ | refine keep_far ?_ GW196.out _) | exact HK.out)⟩
    ·rw [if_neg c27] at H
     exact absurd H (by simp)
   ·rw [if_neg c26] at H
    exact absurd H (by simp)

end Go.Proofs.Ytmmfakdncjeoeaa.PU
