-- Contracts of Go functions, each with its plain Lean function: written by wip/tools/myprint.py of this work (the kit's print, with contracts proved by hand spliced in).
import Derived.Test.YtjfklfmfeghjnabPGx0
import Derived.Test.YtjfklfmfeghjnabPGx1
namespace Go.Proofs.Ytjfklfmfeghjnab.PG
open Go.RowKit Go.Proofs.YtjfklfmfeghjnabW.PrintWords Go.Proofs.YtjfklfmfeghjnabW.PrintLast Go.Proofs.YtjfklfmfeghjnabW.PrintMore
attribute [local go_sem] max2_int min2_int max_two min_two max_three min_three max_four min_four   -- for this text's walks alone
set_option linter.unusedVariables false
set_option linter.unusedSimpArgs false

/-! ### wire_Put: function 74 -/
section
open Go.Shelf Go.Proofs.YtjfklfmfeghjnabAid
attribute [local go_sem] Oper.semAt_some
def wbytes (m : Nat) : List Int := if h : m < 128 then [(m : Int)] else ((m % 128 + 128 : Nat) : Int) :: wbytes (m / 128)
termination_by m
decreasing_by omega

theorem wire_Put.or128 (m : Nat) : Go.bits .or .u8 ((m : Int) % 256) 128 = ((m % 128 + 128 : Nat) : Int) := by
  have h : ∀ x : Fin 256, Go.bits .or .u8 ((x.val : Nat) : Int) 128 = ((x.val % 128 + 128 : Nat) : Int) := by decide +kernel
  have := h ⟨m % 256, by omega⟩
  have e : ((m % 256 : Nat) : Int) = (m : Int) % 256 := by omega
  simp only [e] at this
  rw [this]
  congr 1
  omega

set_option maxRecDepth 100000 in
set_option maxHeartbeats 1000000 in
theorem wire_groups1 (F : Fence) (n : Nat) (h6 : F.fn 116) (hro : F.round = none) (hn : 1 ≤ n) (l B : Nat) (m0 : Nat) (hm0 : m0 < 18446744073709551616) (J : List Int → World → Prop)
    (hY : ∀ pre x rest W m, pre ++ x :: rest = wbytes m0 → J pre W → Boxed W B 41 (.int .u64 m) → YieldAt F (n - 1) Try.prog l #[.int .u8 x] W fun e W' => e = .returned (.bool true) ∧ J (pre ++ [x]) W' ∧ Boxed W' B 41 (.int .u64 m))
    (hJ : ∀ pre W u v, Boxed W B 41 u → J pre W → J pre (W.setCell ⟨B, 0, none⟩ v))
    (W : World) (hB : Boxed W B 41 (.int .u64 m0)) (h0 : J [] W) :
    CallsIn F n Try.prog 116 #[.func (.yield l) #[] #[], .pointer (some ⟨B, 0, none⟩)] W fun e W' => (∃ v, e = .returned v) ∧ J (wbytes m0) W' := by
  have HY := Lib.hid hY; clear hY
  have HJ := Lib.hid hJ; clear hJ
  refine callsIn_of_wp Try.func116 rfl h6 ?_ hro
  simp only [Try.ntmps116, List.size_toArray, List.length_cons, List.length_nil, Nat.reduceAdd, Nat.reduceSub, Array.replicate_succ, Array.replicate_zero, List.push_toArray, List.append_toArray, List.nil_append, List.cons_append]
  gi_wp2
  gi_loopw [3] (fun _ wr => ∃ (pre : List Int) (m : Nat), m < 18446744073709551616 ∧ pre ++ wbytes m = wbytes m0 ∧ Boxed wr B 41 (.int .u64 m) ∧ J pre wr)
    (fun _ wr => match wr.cell? ⟨B, 0, none⟩ with | some (.int _ m) => m.toNat | _ => 0)
  case atStart => exact ⟨[], m0, hm0, rfl, hB, h0⟩
  case round =>
    obtain ⟨pre, m, hm, hpre, hb, hj⟩ := hrel
    have HP := Lib.hid hpre; clear hpre
    have hc := hb.cell
    have hf := hb.frozen
    by_cases hlt : m < 128
    · obtain ⟨fn, tmps, assign, body, hy, hR⟩ := HY.out pre m [] wr m (by rw [← HP.out, wbytes, dif_pos hlt]) hj hb
      gi_wp2
      refine hR.mono ?_
      rintro e W3 ⟨rfl, hJ3, hb3⟩
      gi_wp2
      go_end0
      have e1 : wbytes m = [(m : Int)] := by rw [wbytes, dif_pos hlt]
      rw [e1] at HP
      rw [HP.out] at hJ3
      exact ⟨⟨_, rfl⟩, hJ3⟩
    · obtain ⟨fn, tmps, assign, body, hy, hR⟩ := HY.out pre (Go.bits .or .u8 ((m : Int) % 256) 128) (wbytes (m / 128)) wr m (by rw [wire_Put.or128, ← HP.out]; congr 1; rw [wbytes.eq_1 m, dif_neg hlt]) hj hb
      gi_wp2
      refine hR.mono ?_
      rintro e W3 ⟨rfl, hJ3, hb3⟩
      have hc3 := hb3.cell
      have hf3 := hb3.frozen
      gi_wp2
      have hb4 := hb3.set (.int .u64 ((m : Int) / 128))
      have hJ4 := HJ.out _ _ _ (.int .u64 ((m : Int) / 128)) hb3 hJ3
      go_roundw
      case rel =>
        refine ⟨_, m / 128, by omega, ?_, by simpa using hb4, hJ4⟩
        have e1 : wbytes m = ((m % 128 + 128 : Nat) : Int) :: wbytes (m / 128) := by rw [wbytes, dif_neg hlt]
        have HP' := HP.out
        rw [e1] at HP'
        rw [← HP', wire_Put.or128]
        simp
      case measure =>
        have hc4 := hb4.cell
        rw [hc4, hc]
        simp
        omega

theorem wbytes_len (k : Nat) : ∀ m, m < 128 ^ (k + 1) → (wbytes m).length ≤ k + 1 := by
  induction k with
  | zero => intro m h; rw [wbytes, dif_pos (by simpa using h)]; simp
  | succ k ih =>
    intro m h
    rw [wbytes]
    split
    · simp
    · have := ih (m / 128) (by rw [Nat.pow_succ] at h; omega)
      simp; omega

theorem wire_groups0 (n : Int) (w : World) :
    Calls Try.prog 99 #[.int .u64 n] w fun e w' => e = .returned (.func (.func 116) #[] #[.pointer (some ⟨w.heap.size, 0, none⟩)]) ∧ w' = w.alloc (.cells #[.int .u64 n] 41) := by
  go_enter Try.func99, Try.ntmps99
  go_wp2
  go_ret
  exact ⟨rfl, rfl⟩

set_option maxRecDepth 100000 in
set_option maxHeartbeats 2000000 in
theorem wire_Put.calls0 (A0 : Option Addr) (c0 : Nat) (l0 : List Int) (m0 : Nat) (w : World) (hr0 : Kd.C (Kd.int .u8) w A0 l0.length l0) (hc0 : l0.length ≤ c0) (hl : l0.length ≤ 140737488355000) (hm0 : m0 < 18446744073709551616) :
    Calls Try.prog 74 #[.slice A0 l0.length c0, .int .u64 m0] w fun e w' => ∃ v0_ : Value, e = .returned v0_ ∧ Kd.R (Kd.int .u8) 5 w' w.heap.size (fun _ => True) v0_ (l0 ++ wbytes m0) ∧ Below w.heap.size w w' := by
  have HR0 := Lib.hid hr0; clear hr0
  have HC0 := Lib.hid hc0; clear hc0
  have HL0 := Lib.hid hl; clear hl
  have HM0 := Lib.hid hm0; clear hm0
  refine (callsIn_wide (n := 3)).1 ?_
  refine callsIn_of_wp_marks Try.func74 rfl trivial ?_ rfl
  simp only [Try.ntmps74, List.size_toArray, List.length_cons, List.length_nil, Nat.reduceAdd, Nat.reduceSub, Array.replicate_succ, Array.replicate_zero, List.push_toArray, List.append_toArray, List.nil_append, List.cons_append]
  gi_wp2_with (first | (refine ⟨trivial, ?_⟩; gi_at_call 98; refine (callsIn_wide.2 (slices_Clone_byte_byte.calls0 _ _ _ _ HR0.out HC0.out (by have := HL0.out; omega))).mono ?_; rintro e w1 ⟨v1, rfl, h1, h2⟩; obtain ⟨A1, c1, rfl, hl1, _⟩ := Kd.R_reads h1; have HC1 := Lib.hid hl1; clear hl1; have H1 := Lib.hid h1; have H2 := Lib.hid h2; clear h1 h2) | (refine ⟨trivial, ?_⟩; gi_at_call 99; refine (callsIn_wide.2 (wire_groups0 _ _)).mono ?_; rintro e w2 ⟨rfl, rfl⟩))
  obtain ⟨W0, hW0⟩ : ∃ W0, (w1.alloc (.cells #[.slice A1 l0.length c1] 71)).alloc (.cells #[.int .u64 m0] 41) = W0 := ⟨_, rfl⟩
  have hs0 : W0.heap.size = w1.heap.size + 2 := by rw [← hW0]; simp
  have hbo : Boxed W0 w1.heap.size 71 (.slice A1 l0.length c1) := by rw [← hW0]; exact (Boxed.new _ _ _).alloc _
  have hbn : Boxed W0 (w1.heap.size + 1) 41 (.int .u64 m0) := by rw [← hW0]; have := Boxed.new (w1.alloc (.cells #[.slice A1 l0.length c1] 71)) 41 (.int .u64 m0); rwa [World.size_alloc] at this
  have hle1 : w.heap.size ≤ w1.heap.size := H2.out.size
  have hrow : W0.ownsRow w.heap.size 5 1 (.slice A1 l0.length c1) l0.length (nums .u8 l0) := by rw [← hW0]; exact ((Kd.own_of_R H1.out).alloc _).alloc _
  have hbel : Below w.heap.size w W0 := by rw [← hW0]; exact (H2.out.alloc H2.out.size _).alloc (by simp; omega) _
  have HS0 := Lib.hid hs0
  have HRW := Lib.hid hrow
  have HBL := Lib.hid hbel
  rw [hW0]
  clear hW0 hrow hbel hs0
  refine range_on rfl (by omega) (gf := 116) (lb := #[.pointer (some ⟨w1.heap.size + 1, 0, none⟩)]) rfl trivial (enters_of Try.func116 (by kernel_rfl) rfl) ?_
  intro fn REC hfn hrec
  refine (wire_groups1 Fence.wide 2 trivial rfl (by omega) (W0.heap.size + 1) (w1.heap.size + 1) m0 HM0.out
    (fun pre W => (∃ v, Boxed W w1.heap.size 71 v ∧ W.ownsRow w.heap.size 5 1 v (l0 ++ pre).length (nums .u8 (l0 ++ pre))) ∧ W.heap[W0.heap.size + 1]? = some (.loop (REC .ready)) ∧ W.heap[W0.heap.size]? = some (.deferred (some [])) ∧ Below w.heap.size w W) ?hY ?hJ _ ?hB ?h0).mono ?hd
  case hd =>
    rintro e W2 ⟨⟨vr, rfl⟩, ⟨v, h1, h2⟩, h3, h4, h5⟩
    clear hrec
    refine ⟨⟨vr, rfl⟩, h3, ?_⟩
    obtain ⟨W3, hW3⟩ : ∃ W3, W2.putObj (W0.heap.size + 1) (.loop (REC .exhausted)) = W3 := ⟨_, rfl⟩
    have hg2 : W2.grownBy W3 (some (W0.heap.size + 1)) := by rw [← hW3]; exact grownBy_putObj' _ _ _
    have j1 := h1.kept hg2 (by have := HS0.out; simp; omega)
    have j2 := ownsRow_putObj h2 (.loop (REC .exhausted)) h3 rfl
    have j4 : W3.heap[W0.heap.size]? = some (.deferred (some [])) := by rw [← hW3]; exact (World.putObj_heap_other (by omega)).trans h4
    have j5 : Below w.heap.size W2 W3 := (Below.refl _ _).grown hg2 h5.size (by intro k e; cases e; have := HS0.out; omega)
    rw [hW3] at j2 ⊢
    have k5 := h5.trans j5
    clear h1 h2 h3 h4 hg2 hW3 j5 h5
    have hc := j1.cell
    have J2 := Lib.hid j2
    have J4 := Lib.hid j4
    have K5 := Lib.hid k5
    clear j1 j2 j4 k5
    gi_wp2
    refine ⟨by simp, .inl ⟨_, _, rfl, run_takeDeferred J4.out, ?_⟩⟩
    refine ⟨_, results_tmp rfl _ _ _, v, rfl, Kd.R_of_own (ownsRow_putObj J2.out _ J4.out rfl) (fun _ _ => trivial), ?_⟩
    exact K5.out.grown (grownBy_putObj' _ _ _) K5.out.size (by intro k e; cases e; have := HS0.out; omega)
  case hB => exact (hbn.alloc _).alloc _
  case h0 =>
    refine ⟨⟨_, (hbo.alloc _).alloc _, by simpa using (HRW.out.alloc _).alloc _⟩, ?_, ?_, (HBL.out.alloc HBL.out.size _).alloc (by have := HBL.out.size; simp; omega) _⟩
    · have := World.alloc_heap_new (W0.alloc (.deferred (some []))) (.loop (REC .ready)); rwa [World.size_alloc] at this
    · exact (Below.heap_alloc _ _ _ (by simp)).trans (World.alloc_heap_new _ _)
  case hJ =>
    rintro pre W u v hb ⟨⟨v1, h1, h2⟩, h3, h4, h5⟩
    refine ⟨⟨v1, h1.other (by omega) _, h2.kept (grownBy_setCell' _ _ _) (.inr (hb.not_row (by decide) h2).symm)⟩, ?_, ?_, h5.setCell (p := ⟨w1.heap.size + 1, 0, none⟩) (by simp; omega) _⟩
    · exact (Below.heap_setCell _ _ _ _ (by have := HS0.out; simp; omega)).trans h3
    · exact (Below.heap_setCell _ _ _ _ (by have := HS0.out; simp; omega)).trans h4
  case hY =>
    rintro pre x rest W m hp ⟨⟨v1, h1, h2⟩, h3, h4, h5⟩ hb
    have hpl : pre.length + 1 ≤ 10 := by
      have := wbytes_len 9 m0 (by have := HM0.out; omega)
      rw [← hp] at this; simp at this; omega
    refine round_on (R := fun W' => (((∃ v, Boxed W' w1.heap.size 71 v ∧ W'.ownsRow w.heap.size 5 1 v (l0 ++ (pre ++ [x])).length (nums .u8 (l0 ++ (pre ++ [x])))) ∧ W'.heap[W0.heap.size + 1]? = some (.loop (REC .ready)) ∧ W'.heap[W0.heap.size]? = some (.deferred (some [])) ∧ Below w.heap.size w W') ∧ Boxed W' (w1.heap.size + 1) 41 (.int .u64 m))) hfn hrec h3 rfl ?_
    clear hrec
    gi_wp2
    refine ⟨h3, ?_⟩
    have hlt : W0.heap.size + 1 < W.heap.size := (Array.getElem?_eq_some_iff.1 h3).1
    obtain ⟨W2, hW2⟩ : ∃ W2, W.putObj (W0.heap.size + 1) (.loop (REC .busy)) = W2 := ⟨_, rfl⟩
    have hg2 : W.grownBy W2 (some (W0.heap.size + 1)) := by rw [← hW2]; exact grownBy_putObj' _ _ _
    have j1 := h1.kept hg2 (by have := HS0.out; simp; omega)
    have jb := hb.kept hg2 (by have := HS0.out; simp; omega)
    have j2 := ownsRow_putObj h2 (.loop (REC .busy)) h3 rfl
    have j3 : W2.heap[W0.heap.size + 1]? = some (.loop (REC .busy)) := by rw [← hW2]; exact World.putObj_heap_same hlt
    have j4 : W2.heap[W0.heap.size]? = some (.deferred (some [])) := by rw [← hW2]; exact (World.putObj_heap_other (by omega)).trans h4
    have j5 : Below w.heap.size W W2 := (Below.refl _ _).grown hg2 h5.size (by intro k e; cases e; have := HS0.out; omega)
    rw [hW2] at j2 ⊢
    have k5 := h5.trans j5
    clear h1 h2 h3 h4 hb hg2 hW2 j5
    have hc := j1.cell
    have hf := j1.frozen
    have J2 := Lib.hid j2
    have J3 := Lib.hid j3
    have J4 := Lib.hid j4
    have K5 := Lib.hid k5
    have J1 := Lib.hid j1
    have JB := Lib.hid jb
    clear j1 j2 j3 j4 k5 jb
    obtain ⟨A3, n3, c3, rfl⟩ : ∃ A n c, v1 = .slice A n c := by obtain ⟨A, c, e⟩ := own_slice J2.out; exact ⟨_, _, _, e⟩
    obtain ⟨i0, hi, hz0, hz1, hz2⟩ := info_parts slices_Clone_byte_byte.info
    have HL := HL0.out
    gi_wp2_with (gi_at_builtin; refine wpListIn_append_own _ rfl _ _ 71 rfl w.heap.size 5 i0 (.int .u8 0) 1 1 Try.underlying71 hi hz0 hz1 hz2 rfl (by decide) _ _ _ rfl (J2.out.alloc _) ⟨W2.heap.size, 0, none⟩ 1 1 [.int .u8 x] rfl rfl (cell_one_new _ _ _) (by simp [Value.oneCell']) ?q1 ?q2 ?q3 ?_; (case q1 => simp [maxLen]; omega); (case q2 => simp; omega); (case q3 => have := K5.out.size; simp; omega); intro v' w1' hown' hgrow _; obtain ⟨g', cap', rfl⟩ := ownsRow_succ hown'; obtain ⟨hv1, hv2, hr2, hk2, hb2⟩ := J1.out.appended (by decide) J2.out K5.out.size hle1 hown' hgrow; have hbb := (((JB.out.alloc _).kept hgrow (JB.out.not_row (by decide) J2.out)).other (B' := w1.heap.size) (by omega) (.slice (some ⟨g', 0, none⟩) ((l0 ++ pre).length + 1) cap')); have hc1 := hv1.cell; have hf1 := hv1.frozen; have X1 := Lib.hid hv2; have X2 := Lib.hid hr2; have X3 := Lib.hid hk2; have X4 := Lib.hid hb2; have X5 := Lib.hid hbb; clear hv1 hv2 hr2 hk2 hb2 hbb hown' hgrow)
    have hlen : (l0 ++ pre).length = l0.length + pre.length := List.length_append
    rw [hlen] at X1 X2 X3 X4 X5
    obtain ⟨W3, hW3⟩ : ∃ W3, w1'.setCell ⟨w1.heap.size, 0, none⟩ (.slice (some ⟨g', 0, none⟩) (l0.length + pre.length + 1) cap') = W3 := ⟨_, rfl⟩
    rw [hW3] at X1 X2 X3 X4 X5 ⊢
    have y3 := X3.out.same _ _ J3.out rfl
    have y4 := X3.out.same _ _ J4.out rfl
    have hlt3 : W0.heap.size + 1 < W3.heap.size := (Array.getElem?_eq_some_iff.1 y3).1
    have hg3 : W3.grownBy (W3.putObj (W0.heap.size + 1) (.loop (REC .ready))) (some (W0.heap.size + 1)) := grownBy_putObj' _ _ _
    have hs := HS0.out
    refine ⟨y3, ⟨⟨_, X1.out.kept hg3 (by simp; omega), ?_⟩, World.putObj_heap_same hlt3, (World.putObj_heap_other (by omega)).trans y4, ?_⟩, X5.out.kept hg3 (by simp; omega)⟩
    · have := ownsRow_putObj X2.out (.loop (REC .ready)) y3 rfl
      have e1 : nums .u8 (l0 ++ (pre ++ [x])) = nums .u8 (l0 ++ pre) ++ [.int .u8 x] := by simp [nums]
      rw [e1]
      exact this
    · exact (K5.out.trans X4.out).grown hg3 (by have := K5.out.size; have := X4.out.size; omega) (by intro k e; cases e; have := HBL.out.size; omega)
end
def wire_Put.f (l0 : List Int) (a1 : Int) : Option (List Int) := if l0.length ≤ 140737488355000 ∧ 0 ≤ a1 ∧ a1 < 18446744073709551616 then some (l0 ++ wbytes a1.toNat) else none
theorem wire_Put.calls (A0 : Option Addr) (c0 : Nat) (l0 : List Int) (a1 : Int) (r : List Int) (w : World) (hr0 : Kd.C (Kd.int .u8) w A0 l0.length l0) (hc0 : l0.length ≤ c0) (h : wire_Put.f l0 a1 = some r) :
    Calls Try.prog 74 #[.slice A0 l0.length c0, .int .u64 a1] w fun e w' => ∃ v0_ : Value, e = .returned v0_ ∧ Kd.R (Kd.int .u8) 5 w' w.heap.size (fun _ => True) v0_ r ∧ Below w.heap.size w w' := by
  unfold wire_Put.f at h
  split at h
  · rename_i hc
    obtain ⟨h1, h2, h3⟩ := hc
    obtain rfl := Option.some.inj h
    obtain ⟨m, rfl⟩ := Int.eq_ofNat_of_zero_le h2
    exact wire_Put.calls0 A0 c0 l0 m w hr0 hc0 h1 (by omega)
  · cases h

/-! ### blob_Put: function 75 -/
def blob_Put.f (l0 : List Int) (a1 : ByteArray) : Option (List Int) := (wire_Put.f l0 (IntKind.u64.wrap ((a1.size : Int)))).bind fun t102 => (if t102.length + a1.size < 140737488355328 then (some (t102 ++ bytesOf a1)) else (none))
set_option maxHeartbeats 8000000 in
set_option maxRecDepth 100000 in
theorem blob_Put.calls (A0 : Option Addr) (c0 : Nat) (l0 : List Int) (a1 : ByteArray) (r : List Int) (w : World) (hr0 : Kd.C (Kd.int .u8) w A0 l0.length l0) (hc0 : l0.length ≤ c0) (h : blob_Put.f l0 a1 = some r) :
    Calls Try.prog 75 #[.slice A0 l0.length c0, .string a1] w fun e w' => ∃ v0_ : Value, e = .returned (v0_) ∧ Kd.R (Kd.int .u8) 5 w' w.heap.size (fun _ => True) v0_ r ∧ Below w.heap.size w w' := by
  have HR0 := Aside0.mk hr0
  have HC0 := Aside0.mk hc0
  clear hr0 hc0
  have HB := Aside0.mk (Below.refl w.heap.size w)
  have H : ((wire_Put.f l0 (IntKind.u64.wrap ((a1.size : Int)))).bind fun t102 => (if t102.length + a1.size < 140737488355328 then (some (t102 ++ bytesOf a1)) else (none))) = some r := h
  clear h
  replace H := Option.bind_eq_some_iff.mp H
  obtain ⟨t102, A30, H⟩ := H
  replace H : (if t102.length + a1.size < 140737488355328 then (some (t102 ++ bytesOf a1)) else (none)) = some r := H
  have A3 := Aside0.mk A30
  clear A30
  by_cases c4 : t102.length + a1.size < 140737488355328
  · rw [if_pos c4] at H
    have LMc4 := Aside0.mk c4
    clear c4
    obtain ⟨y105, hy105⟩ : ∃ y_ : List Int, y_ = (t102 ++ bytesOf a1) := ⟨_, rfl⟩
    replace H : (some y105) = some r := by first | (rw [hy105]; with_reducible exact H) | (have H2_ := (Option.bind_some _ _).symm.trans H; rw [hy105]; with_reducible exact H2_) | (have H2_ := (Option.bind_some _ _).symm.trans H; with_reducible exact H2_) | with_reducible exact H | (rw [hy105]; exact H) | exact H
    have Ny105 := Aside0.mk hy105
    clear hy105
    obtain rfl := Option.some.inj H
    go_enter Try.func75, Try.ntmps75
    go_wp2_with (first | ((with_reducible refine gate_callee (f := 74) rfl ?_); refine goesL_ (some 9) rfl rfl Try.func74 (by kernel_rfl) rfl #[.slice A0 l0.length c0, .int .u64 (IntKind.u64.wrap ((a1.size : Int)))] rfl (by (try simp only [List.map_toArray, List.map_cons, List.map_nil]); first | done | rfl | (simp only [List.length_drop, List.length_take]; rfl) | (refine congrArg (fun z_ => #[z_]) (congrArg (Value.int IntKind.u64) (Eq.symm (Go.Proofs.YtjfklfmfeghjnabAid.wrap_len _ (by omega)))))) ?_; (with_reducible refine (wire_Put.calls _ _ l0 (IntKind.u64.wrap ((a1.size : Int))) t102 _ ?side1 ?side2 A3.out).mono ?_); (case side1 => repeat (first | exact HR0.out | (with_reducible refine Kd.C_alloc ?_ _) | (with_reducible refine Kd.C_drewN ?_ _) | (with_reducible refine Kd.C_drew ?_))); (case side2 => exact HC0.out); rintro e w5 ⟨v103, rfl, ho0, hb⟩; refine ⟨_, rfl, ?_⟩; have n0_ := Aside0.mk (Kd.R_lower ho0 (below_size (by repeat (first | (with_reducible first | exact HB.out | apply below_alloc | apply pw_below_drewN | apply below_drew1) | exact HB.out)))); have n1_ := Aside0.mk (below_step (by repeat (first | (with_reducible first | exact HB.out | apply below_alloc | apply pw_below_drewN | apply below_drew1) | exact HB.out)) hb); clear HB; have HO104 := n0_; have HB := n1_; clear n0_ n1_; (try clear hb); (try clear hb2); (try clear hk); (try clear hi); (try clear ho0)) | (at_builtin; refine print_append_str (w0 := w) w.heap.size rfl (.tmp 9) _ 71 9 5 rfl Try.underlying71 Try.underlying9 info5 v103 t102 a1 rfl rfl ?aO ?aB ?aS ?aL ?_; (case aB => exact (by repeat (first | (with_reducible first | exact HB.out | apply below_alloc | apply pw_below_drewN | apply below_drew1) | exact HB.out))); (case aO => exact (Kd.own_of_R (by (with_reducible repeat (first | apply Kd.R_alloc | apply Kd.R_drewN | apply Kd.R_drew)); exact HO104.out))); (case aS => exact (below_size (by repeat (first | (with_reducible first | exact HB.out | apply below_alloc | apply pw_below_drewN | apply below_drew1) | exact HB.out)))); (case aL => have := LMc4.out; omega); intro v106 w6 ho0 hb hg; have ho := Kd.R_of_own (h1 := fun _ => rfl) (ok := fun _ => True) ho0 (fun _ _ => trivial); clear ho0; have hat := True.intro; rw [← Ny105.out] at ho; change Kd.R (Kd.int .u8) 5 w6 w.heap.size (fun _ => True) v106 y105 at ho; have n0_ := Aside0.mk (hb); have n1_ := Aside0.mk (ho); clear HB; clear HO104; have HB := n0_; have HO107 := n1_; clear n0_ n1_; clear ho hb hg hat))
    go_ret
    exact ⟨_, by first | rfl | (simp [errW_none, errW_some] <;> rfl) | (simp [*, errW_none, errW_some] <;> rfl), by (with_reducible repeat (first | apply Kd.R_alloc | apply Kd.R_drewN | apply Kd.R_drew)); exact HO107.out, by repeat (first | (with_reducible first | exact HB.out | apply below_alloc | apply pw_below_drewN | apply below_drew1) | exact HB.out)⟩
  · rw [if_neg c4] at H
    exact absurd H (by simp)

/-! ### sigbin_Put: function 44 -/
mutual
def sigbin_Put.l0 : Nat → List Int → List (S106) → Int → Int → Option (List Int × Int)
 | 0, _, _, _, _ => none
 | k + 1, x5, x19, x20, x21 => if x21 < x20 then (if 0 ≤ x21 then (if x21 < (x19.length : Int) then ((blob_Put.f x5 ((rd_T106 x19 x21).f0)).bind fun t114 => ((wire_Put.f t114 (IntKind.u64.wrap ((((rd_T106 x19 x21).f1).length : Int)))).bind fun t117 => (sigbin_Put.l1 k t117 x19 x20 x21 ((rd_T106 x19 x21).f1) (((rd_T106 x19 x21).f1).length : Int) 0))) else (none)) else (none)) else (some (x5, 0))
def sigbin_Put.l1 : Nat → List Int → List (S106) → Int → Int → List Int → Int → Int → Option (List Int × Int)
 | 0, _, _, _, _, _, _, _ => none
 | k + 1, x5, x19, x20, x21, x35, x36, x37 => if x37 < x36 then (if 0 ≤ x37 then (if x37 < (x35.length : Int) then (if x5.length < 140737488355328 then (sigbin_Put.l1 k (x5 ++ [(rd x35 x37) % 256]) x19 x20 x21 x35 x36 (wrap64 (x37 + 1))) else (none)) else (none)) else (none)) else (sigbin_Put.l0 k x5 x19 x20 (wrap64 (x21 + 1)))
end
def sigbin_Put.f (k : Nat) (l0 : List (S106)) : Option (List Int × Int) := (sig_Check.f k l0).bind fun t108 => (if t108 = 0 then ((wire_Put.f ([] : List Int) (IntKind.u64.wrap ((l0.length : Int)))).bind fun t109 => (sigbin_Put.l0 k t109 l0 (l0.length : Int) 0)) else (some (([] : List Int), t108)))
theorem sigbin_Put.mono_l : ∀ k, (∀ y0 y1 y2 y3, LeO (sigbin_Put.l0 k y0 y1 y2 y3) (sigbin_Put.l0 (k + 1) y0 y1 y2 y3)) ∧ (∀ y0 y1 y2 y3 y4 y5 y6, LeO (sigbin_Put.l1 k y0 y1 y2 y3 y4 y5 y6) (sigbin_Put.l1 (k + 1) y0 y1 y2 y3 y4 y5 y6))
 | 0 => ⟨fun _ _ _ _ r h => by simp [sigbin_Put.l0] at h, fun _ _ _ _ _ _ _ r h => by simp [sigbin_Put.l1] at h⟩
 | k + 1 => by
  obtain ⟨ih0, ih1⟩ := sigbin_Put.mono_l k
  refine ⟨?_, ?_⟩
  ·intro y0 y1 y2 y3
   unfold sigbin_Put.l0
   repeat' first
   | (with_reducible exact ih0 _ _ _ _)
   | (with_reducible exact ih1 _ _ _ _ _ _ _)
   | (with_reducible exact sig_Check.mono _ _)
   | (with_reducible exact LeO.refl _)
   | (with_reducible exact LeO.none _)
   | (with_reducible refine LeO.ite ?_ ?_)
   | (with_reducible refine LeO.bind ?_ (fun _ => ?_))
   | exact ih0 _ _ _ _
   | exact ih1 _ _ _ _ _ _ _
   | exact sig_Check.mono _ _
   | exact LeO.none _
   | refine LeO.ite ?_ ?_
   | refine LeO.bind ?_ (fun _ => ?_)
  ·intro y0 y1 y2 y3 y4 y5 y6
   unfold sigbin_Put.l1
   repeat' first
   | (with_reducible exact ih0 _ _ _ _)
   | (with_reducible exact ih1 _ _ _ _ _ _ _)
   | (with_reducible exact sig_Check.mono _ _)
   | (with_reducible exact LeO.refl _)
   | (with_reducible exact LeO.none _)
   | (with_reducible refine LeO.ite ?_ ?_)
   | (with_reducible refine LeO.bind ?_ (fun _ => ?_))
   | exact ih0 _ _ _ _
   | exact ih1 _ _ _ _ _ _ _
   | exact sig_Check.mono _ _
   | exact LeO.none _
   | refine LeO.ite ?_ ?_
   | refine LeO.bind ?_ (fun _ => ?_)
theorem sigbin_Put.mono : ∀ a0 k, LeO (sigbin_Put.f k a0) (sigbin_Put.f (k + 1) a0) := by
 intro a0 k
 obtain ⟨ih0, ih1⟩ := sigbin_Put.mono_l k
 unfold sigbin_Put.f
 repeat' first
   | (with_reducible exact ih0 _ _ _ _)
   | (with_reducible exact ih1 _ _ _ _ _ _ _)
   | (with_reducible exact sig_Check.mono _ _)
   | (with_reducible exact LeO.refl _)
   | (with_reducible exact LeO.none _)
   | (with_reducible refine LeO.ite ?_ ?_)
   | (with_reducible refine LeO.bind ?_ (fun _ => ?_))
   | exact ih0 _ _ _ _
   | exact ih1 _ _ _ _ _ _ _
   | exact sig_Check.mono _ _
   | exact LeO.none _
   | refine LeO.ite ?_ ?_
   | refine LeO.bind ?_ (fun _ => ?_)
def sigbin_Put.T8 : Bool × List (List Nat × List Nat) := (true, [([], []), ([], []), ([1], [1]), ([0, 2], [0, 2]), ([], []), ([4], [4]), ([5], [5]), ([6], [6]), ([3, 7, 3], [3, 7]), ([8, 8, 0, 1, 2, 3, 4, 5, 6, 7, 8], [0, 8])])
def sigbin_Put.B8 : List Nat := [0, 0, 2, 7, 0, 16, 48, 112, 255, 511]
theorem sigbin_Put.tab8 : rtab .any (opsOf Try.f44 8) = sigbin_Put.T8 := by kernel_rfl
theorem sigbin_Put.bits8 : waitsOk sigbin_Put.T8.2 sigbin_Put.B8 = true := by kernel_rfl
set_option maxHeartbeats 8000000 in
set_option maxRecDepth 100000 in
theorem sigbin_Put.calls (k : Nat) (A0 : Option Addr) (c0 : Nat) (l0 : List (S106)) (r1 : List Int) (r2 : Int) (w : World) (hr0 : Kd.C k106 w A0 l0.length l0) (hc0 : l0.length ≤ c0) (h : sigbin_Put.f k l0 = some (r1,r2)) :
  Calls Try.prog 44 #[.slice A0 l0.length c0] w fun e w' => ∃ v0_ : Value,e = .returned (.tuple #[v0_,.int .i64 r2]) ∧ Kd.R (Kd.int .u8) 5 w' w.heap.size (fun _ => True) v0_ r1 ∧ Below w.heap.size w w':=by
 have hu106:=Try.underlying106
 have HR0:=Aside0.mk hr0
 have HC0:=Aside0.mk hc0
 clear hr0 hc0
 have HB:=Aside0.mk (Below.refl w.heap.size w)
 have H : ((sig_Check.f k l0).bind fun t108 => (if t108 = 0 then ((wire_Put.f ([] : List Int) (IntKind.u64.wrap ((l0.length : Int)))).bind fun t109 => (sigbin_Put.l0 k t109 l0 (l0.length : Int) 0)) else (some (([] : List Int),t108)))) = some (r1,r2):=h
 clear h
 replace H:=Option.bind_eq_some_iff.mp H
 obtain ⟨t108,A20,H⟩:=H
 replace H : (if t108 = 0 then ((wire_Put.f ([] : List Int) (IntKind.u64.wrap ((l0.length : Int)))).bind fun t109 => (sigbin_Put.l0 k t109 l0 (l0.length : Int) 0)) else (some (([] : List Int),t108))) = some (r1,r2):=H
 have A2:=Aside0.mk A20
 clear A20
 by_cases c3 : t108 = 0
 ·rw [if_pos c3] at H
  have c3b0 : (t108 == 0) = true:=beq_iff_eq.mpr c3
  have c3b1 : (t108 != 0) = false:=bne_eq_false_iff_eq.mpr c3
  clear c3
  replace H:=Option.bind_eq_some_iff.mp H
  obtain ⟨t109,A40,H⟩:=H
  replace H : (sigbin_Put.l0 k t109 l0 (l0.length : Int) 0) = some (r1,r2):=H
  have A4:=Aside0.mk A40
  clear A40
  have H':=Aside0.mk H
  clear H
  go_enter Try.func44,Try.ntmps44
  go_wp2_with (first | ((with_reducible refine gate_callee (f:=56) rfl ?_);refine goesL_ (some 11) rfl rfl Try.func56 (by kernel_rfl) rfl #[.slice A0 l0.length c0] rfl (by (try simp only [List.map_toArray,List.map_cons,List.map_nil]);first | done | rfl | (simp only [List.length_drop,List.length_take];rfl)) ?_;(with_reducible refine (sig_Check.calls k _ _ l0 t108 _ ?side1 ?side2 A2.out).mono ?_);(case side1 => repeat (first | exact HR0.out | (with_reducible refine Kd.C_alloc ?_ _) | (with_reducible refine Kd.C_drewN ?_ _) | (with_reducible refine Kd.C_drew ?_)));(case side2 => exact HC0.out);rintro e w5 ⟨rfl,hb⟩;refine ⟨_,rfl,?_⟩;have n0_:=Aside0.mk (below_step (by repeat (first | (with_reducible first | exact HB.out | apply below_alloc | apply pw_below_drewN | apply below_drew1) | exact HB.out)) hb);clear HB;have HB:=n0_;clear n0_;(try clear hb);(try clear hb2);(try clear hk);(try clear hi)) | ((with_reducible refine gate_callee (f:=74) rfl ?_);refine goesL_ (some 18) rfl rfl Try.func74 (by kernel_rfl) rfl #[.slice none 0 0,.int .u64 (IntKind.u64.wrap ((l0.length : Int)))] rfl (by (try simp only [List.map_toArray,List.map_cons,List.map_nil]);first | done | rfl | (simp only [List.length_drop,List.length_take];rfl)) ?_;(refine (wire_Put.calls _ _ ([] : List Int) (IntKind.u64.wrap ((l0.length : Int))) t109 _ ?side1 ?side2 A4.out).mono ?_);(case side1 => exact Kd.C_nil _ _);(case side2 => exact Nat.le_refl _);rintro e w6 ⟨v110,rfl,ho0,hb⟩;refine ⟨_,rfl,?_⟩;have n0_:=Aside0.mk (Kd.R_lower ho0 (below_size (by repeat (first | (with_reducible first | exact HB.out | apply below_alloc | apply pw_below_drewN | apply below_drew1) | exact HB.out))));have n1_:=Aside0.mk (below_step (by repeat (first | (with_reducible first | exact HB.out | apply below_alloc | apply pw_below_drewN | apply below_drew1) | exact HB.out)) hb);clear HB;have HO111:=n0_;have HB:=n1_;clear n0_ n1_;(try clear hb);(try clear hb2);(try clear hk);(try clear hi);(try clear ho0)))
  go_loopg [5,21] k (fun kq v5 v21 w' => ∃ (x5_1 : List Int) (x21_1 : Int),v21 = .int .i64 x21_1 ∧ Aside0 (sigbin_Put.l0 kq x5_1 l0 (l0.length : Int) x21_1 = some (r1,r2)) ∧ Aside0 (kq ≤ k) ∧ Aside0 (Kd.R (Kd.int .u8) 5 w' w.heap.size (fun _ => True) v5 x5_1) ∧ Aside0 (Below w.heap.size w w'))
  case atStart => exact ⟨(t109),(0),(by first | rfl | (simp;done) | (simp [*];done)),H',⟨Nat.le_refl _⟩,⟨by (with_reducible repeat (first | apply Kd.R_alloc | apply Kd.R_drewN | apply Kd.R_drew));exact HO111.out⟩,⟨by repeat (first | (with_reducible first | exact HB.out | apply below_alloc | apply pw_below_drewN | apply below_drew1) | exact HB.out)⟩⟩
  case round =>
   clear H'
   try clear p2
   try clear c3
   try clear c3b0
   try clear c3b1
   try clear c4
   try clear c5
   obtain ⟨x5_1,x21_1,rfl,HA,HK1,HO_5,HB⟩:=hrel
   cases gk with
   | zero => exact absurd HA.out (by simp [sigbin_Put.l0])
   | succ k1 =>
    have H:=HA.out
    clear HA
    simp only [sigbin_Put.l0] at H
    by_cases c7 : x21_1 < (l0.length : Int)
    ·rw [if_pos c7] at H
     have c7b0 : decide (x21_1 < (l0.length : Int)) = true:=decide_eq_true c7
     clear c7
     by_cases c8 : 0 ≤ x21_1
     ·rw [if_pos c8] at H
      have c8b0 : decide (0 ≤ x21_1) = true:=decide_eq_true c8
      clear c8
      by_cases c9 : x21_1 < (l0.length : Int)
      ·rw [if_pos c9] at H
       have c9b0 : decide (x21_1 < (l0.length : Int)) = true:=decide_eq_true c9
       clear c9
       replace H:=Option.bind_eq_some_iff.mp H
       obtain ⟨t114,A100,H⟩:=H
       replace H : ((wire_Put.f t114 (IntKind.u64.wrap ((((rd_T106 l0 x21_1).f1).length : Int)))).bind fun t117 => (sigbin_Put.l1 k1 t117 l0 (l0.length : Int) x21_1 ((rd_T106 l0 x21_1).f1) (((rd_T106 l0 x21_1).f1).length : Int) 0)) = some (r1,r2):=H
       have A10:=Aside0.mk A100
       clear A100
       replace H:=Option.bind_eq_some_iff.mp H
       obtain ⟨t117,A110,H⟩:=H
       replace H : (sigbin_Put.l1 k1 t117 l0 (l0.length : Int) x21_1 ((rd_T106 l0 x21_1).f1) (((rd_T106 l0 x21_1).f1).length : Int) 0) = some (r1,r2):=H
       have A11:=Aside0.mk A110
       clear A110
       have H':=Aside0.mk H
       clear H
       have p112 : 0 ≤ (x21_1 : Int):=of_decide_eq_true (by first | (with_reducible assumption) | assumption)
       have q112 : x21_1 < (l0.length : Int):=of_decide_eq_true (by first | (with_reducible assumption) | assumption)
       obtain ⟨ad112,A112_1,c112_1,e112,hx112_0,hx112_1,hl112_1,hi112_1⟩:=at_T106 HR0.out x21_1 p112 q112
       cases e112
       replace hx112_0:=(HB.out.cell (World.block_lt_of_cell? w _ hx112_0)).trans hx112_0
       replace hx112_1:=(HB.out.cell (World.block_lt_of_cell? w _ hx112_1)).trans hx112_1
       have HR112_1:=Aside0.mk hi112_1
       have HC112_1:=Aside0.mk hl112_1
       clear hi112_1 hl112_1
       replace p112:=eq_true p112
       replace q112:=eq_true q112
       try go_wp2_with (first | ((with_reducible refine gate_dst (N:=7) rfl ?_);refine box_event ?hg (N:=7) ?hd (cs:=#[.string (⟨#[]⟩ : ByteArray),.slice none 0 0]) (t:=106) ?hr ?_;(case hd => rfl);(case hg => rfl);(case hr => first | (go_simp;done) | (go_simp;rfl));intro gb113 hg w12 hbox hb;have n0_:=Aside0.mk (Kd.R_below (by (with_reducible repeat (first | apply Kd.R_alloc | apply Kd.R_drewN | apply Kd.R_drew));exact HO_5.out) hb);have n1_:=Aside0.mk (below_step (by repeat (first | (with_reducible first | exact HB.out | apply below_alloc | apply pw_below_drewN | apply below_drew1) | exact HB.out)) hb);have n2_:=Aside0.mk (hbox);have n3_:=Aside0.mk ((by rw [hg];exact (below_size (by repeat (first | (with_reducible first | exact HB.out | apply below_alloc | apply pw_below_drewN | apply below_drew1) | exact HB.out))) : w.heap.size ≤ gb113));have n4_:=Aside0.mk ((by rw [hg];exact (below_size (by repeat (first | (with_reducible first | exact HB.out | apply below_alloc | apply pw_below_drewN | apply below_drew1) | exact HB.out))) : w.heap.size ≤ gb113));clear HO_5;clear HB;have HO_5:=n0_;have HB:=n1_;have BK113:=n2_;have GW113:=n3_;have GE113:=n4_;clear n0_ n1_ n2_ n3_ n4_;clear hb hbox hg;have hcz13_0 : w12.cell? ⟨gb113,0,none⟩ = some (.string (⟨#[]⟩ : ByteArray)):=(blk_cell BK113.out 0).trans rfl;have hcz13_1 : w12.cell? ⟨gb113,1,none⟩ = some (.slice none 0 0):=(blk_cell BK113.out 1).trans rfl;have hfz13_0:=blk_frozen BK113.out 0;have hfz13_1:=blk_frozen BK113.out 1))
       have n0_ : Aside0 (Kd.R (Kd.int .u8) 5 ((w12.setCell ⟨gb113,0,none⟩ (.string ((rd_T106 l0 x21_1).f0))).setCell ⟨gb113,1,none⟩ (.slice A112_1 ((rd_T106 l0 x21_1).f1).length c112_1)) w.heap.size (fun _ => True) u5 x5_1):=⟨by (with_reducible repeat (first | apply Kd.R_alloc | apply Kd.R_drewN | apply Kd.R_drew));exact Kd.R_mono (Kd.R_far (p:=⟨gb113,1,none⟩) (Kd.R_far (p:=⟨gb113,0,none⟩) (Kd.R_types HO_5.out BK113.out (by decide)) (fun _ hk => hk.2) (.string ((rd_T106 l0 x21_1).f0))) (fun _ hk => hk.2) (.slice A112_1 ((rd_T106 l0 x21_1).f1).length c112_1)) (fun _ hk => trivial)⟩
       have n1_ : Aside0 (((w12.setCell ⟨gb113,0,none⟩ (.string ((rd_T106 l0 x21_1).f0))).setCell ⟨gb113,1,none⟩ (.slice A112_1 ((rd_T106 l0 x21_1).f1).length c112_1)).heap[gb113]? = some (.cells #[.string ((rd_T106 l0 x21_1).f0),.slice A112_1 ((rd_T106 l0 x21_1).f1).length c112_1] 106 (0,0))):=⟨by (with_reducible repeat (first | refine blk_drewN ?_ _ | refine blk_drew ?_ | refine blk_alloc ?_ _));refine blk_put (cs:=#[.string ((rd_T106 l0 x21_1).f0),.slice none 0 0]) ?_ 1 _ rfl;(with_reducible repeat (first | refine blk_drewN ?_ _ | refine blk_drew ?_ | refine blk_alloc ?_ _));refine blk_put (cs:=#[.string (⟨#[]⟩ : ByteArray),.slice none 0 0]) ?_ 0 _ rfl;(with_reducible repeat (first | refine blk_drewN ?_ _ | refine blk_drew ?_ | refine blk_alloc ?_ _));exact BK113.out⟩
       have n2_ : Aside0 (Below w.heap.size w ((w12.setCell ⟨gb113,0,none⟩ (.string ((rd_T106 l0 x21_1).f0))).setCell ⟨gb113,1,none⟩ (.slice A112_1 ((rd_T106 l0 x21_1).f1).length c112_1))):=⟨by repeat (first | (with_reducible first | exact HB.out | apply below_alloc | apply pw_below_drewN | apply below_drew1 | refine below_set ?_ GE113.out) | exact HB.out)⟩
       (try clear HO_5)
       (try clear BK113)
       (try clear HB)
       generalize ((w12.setCell ⟨gb113,0,none⟩ (.string ((rd_T106 l0 x21_1).f0))).setCell ⟨gb113,1,none⟩ (.slice A112_1 ((rd_T106 l0 x21_1).f1).length c112_1)) = w14 at n0_ n1_ n2_ ⊢
       have HO_5:=n0_
       have BK113:=n1_
       have HB:=n2_
       clear n0_ n1_ n2_
       have n0_:=Aside0.mk (Kd.R_drew HO_5.out)
       have n1_:=Aside0.mk (blk_drew BK113.out)
       have n2_:=Aside0.mk (below_drew1 HB.out)
       clear HO_5
       clear BK113
       clear HB
       have HO_5:=n0_
       have BK113:=n1_
       have HB:=n2_
       clear n0_ n1_ n2_
       obtain ⟨Ao16,co16,eo16⟩:=Kd.R_slice HO_5.out
       (first | subst eo16 | (injection eo16 with f1_ f2_ f3_;have f4_:=f1_.symm;have f5_:=f3_.symm;clear f1_ f2_ f3_;subst f4_;subst f5_))
       refine start_ (n:=10) (S:=fun w' => w'.cell? ⟨gb113,0,none⟩ = some (.string ((rd_T106 l0 x21_1).f0)) ∧ w'.cell? ⟨gb113,1,none⟩ = some (.slice A112_1 ((rd_T106 l0 x21_1).f1).length c112_1)) (ds:=[]) #[n_,n_,n_,n_,n_,n_,n_,n_,n_,n_] (by kernel_rfl) rfl rfl ⟨(blk_cell BK113.out 0).trans rfl,(blk_cell BK113.out 1).trans rfl⟩ (fun hHeld => ?_);refine with_tabW sigbin_Put.tab8 sigbin_Put.bits8 (fun HT_ HW_ => ?_)
       generalize w14.drew = w15 at HO_5 BK113 HB hHeld ⊢
       refine pure_ (i:=0) (N:=some 25) (v:=?_) (a':=?_) #[y_,n_,n_,n_,n_,n_,n_,n_,n_,n_] rfl rfl (any_of HT_.out (by kernel_rfl)) (fun _ _ _ h => h) (Or.inl ⟨by rfl,?_⟩) ?_ ?_
       rotate_left
       ·intro w'
        go_simp
        with_reducible rfl
       rotate_left
       ·simp only [Act.put,sA_,sB_,sC_,i64_w,i32_w]
        rfl
       refine pure_ (i:=1) (N:=some 26) (v:=?_) (a':=?_) #[y_,y_,n_,n_,n_,n_,n_,n_,n_,n_] rfl rfl (any_of HT_.out (by kernel_rfl)) (fun _ _ _ h => h) (Or.inl ⟨by rfl,?_⟩) ?_ ?_
       rotate_left
       ·intro w'
        go_simp
        with_reducible rfl
       rotate_left
       ·simp only [Act.put,sA_,sB_,sC_,i64_w,i32_w]
        rfl
       refine pure_ (i:=4) (N:=some 29) (v:=?_) (a':=?_) #[y_,y_,n_,n_,y_,n_,n_,n_,n_,n_] rfl rfl (any_of HT_.out (by kernel_rfl)) (fun _ _ _ h => h) (Or.inl ⟨by rfl,?_⟩) ?_ ?_
       rotate_left
       ·intro w'
        go_simp
        with_reducible rfl
       rotate_left
       ·simp only [Act.put,sA_,sB_,sC_,i64_w,i32_w]
        rfl
       refine take_ (i:=2) (N:=some 27) (v:=?_) (a':=?_) #[y_,y_,y_,n_,y_,n_,n_,n_,n_,n_] rfl rfl (take_ofW HT_.out HW_.out (by kernel_rfl)) (fun _ _ _ h => h) (Or.inl ⟨by rfl,?_⟩) hHeld ?_ ?_
       rotate_left
       ·rintro w' ⟨s0,s1⟩
        go_simp
        with_reducible rfl
       rotate_left
       ·simp only [Act.put,sA_,sB_,sC_,i64_w,i32_w]
        rfl
       refine take_ (i:=5) (N:=some 30) (v:=?_) (a':=?_) #[y_,y_,y_,n_,y_,y_,n_,n_,n_,n_] rfl rfl (take_ofW HT_.out HW_.out (by kernel_rfl)) (fun _ _ _ h => h) (Or.inl ⟨by rfl,?_⟩) hHeld ?_ ?_
       rotate_left
       ·rintro w' ⟨s0,s1⟩
        go_simp
        with_reducible rfl
       rotate_left
       ·simp only [Act.put,sA_,sB_,sC_,i64_w,i32_w]
        rfl
       refine pure_ (i:=6) (N:=some 31) (v:=?_) (a':=?_) #[y_,y_,y_,n_,y_,y_,y_,n_,n_,n_] rfl rfl (any_of HT_.out (by kernel_rfl)) (fun _ _ _ h => h) (Or.inl ⟨by rfl,?_⟩) ?_ ?_
       rotate_left
       ·intro w'
        go_simp
        with_reducible rfl
       rotate_left
       ·simp only [Act.put,sA_,sB_,sC_,i64_w,i32_w]
        rfl
       refine pure_ (i:=7) (N:=some 32) (v:=?_) (a':=?_) #[y_,y_,y_,n_,y_,y_,y_,y_,n_,n_] rfl rfl (any_of HT_.out (by kernel_rfl)) (fun _ _ _ h => h) (Or.inl ⟨by rfl,?_⟩) ?_ ?_
       rotate_left
       ·intro w'
        go_simp
        with_reducible rfl
       rotate_left
       ·simp only [Act.put,sA_,sB_,sC_,i64_w,i32_w]
        rfl
       refine one_ (i:=3) (N:=some 28) #[y_,y_,y_,y_,y_,y_,y_,y_,n_,n_] rfl rfl (one_of HT_.out (by kernel_rfl)) (by decide) (fun K hK => ?_)
       refine goes_ Try.func75 (by kernel_rfl) rfl #[.slice Ao16 x5_1.length co16,.string ((rd_T106 l0 x21_1).f0)] (by rfl) rfl rfl (by (try simp only [List.map_toArray,List.map_cons,List.map_nil]);first | done | rfl | (simp only [List.length_drop,List.length_take];rfl)) ?_
       with_reducible refine (blob_Put.calls _ _ x5_1 ((rd_T106 l0 x21_1).f0) t114 _ ?side1 ?side2 A10.out).mono ?_
       (case side1 => repeat (first | exact (Kd.R_reads' HO_5.out).2.2 | (with_reducible refine Kd.C_alloc ?_ _) | (with_reducible refine Kd.C_drewN ?_ _) | (with_reducible refine Kd.C_drew ?_)))
       (case side2 => exact (Kd.R_reads' HO_5.out).2.1)
       rintro e w17 ⟨v115,rfl,ho0,hb⟩
       refine ⟨_,rfl,?_⟩
       have n0_:=Aside0.mk (Kd.R_elder' (by (with_reducible repeat (first | apply Kd.R_alloc | apply Kd.R_drewN | apply Kd.R_drew));exact HO_5.out) (Kd.R_base ho0) hb)
       have n1_:=Aside0.mk (Kd.R_lower (Kd.R_new' ho0 (Kd.R_lt (by (with_reducible repeat (first | apply Kd.R_alloc | apply Kd.R_drewN | apply Kd.R_drew));exact HO_5.out))) (below_size (by repeat (first | (with_reducible first | exact HB.out | apply below_alloc | apply pw_below_drewN | apply below_drew1 | refine below_set ?_ GE113.out) | exact HB.out))))
       have n2_:=Aside0.mk (blk_below (g:=gb113) (o:=.cells #[.string ((rd_T106 l0 x21_1).f0),.slice A112_1 ((rd_T106 l0 x21_1).f1).length c112_1] 106 (0,0)) (by (with_reducible repeat (first | refine blk_drewN ?_ _ | refine blk_drew ?_ | refine blk_alloc ?_ _));exact BK113.out) hb)
       have n3_:=Aside0.mk (below_step (by repeat (first | (with_reducible first | exact HB.out | apply below_alloc | apply pw_below_drewN | apply below_drew1 | refine below_set ?_ GE113.out) | exact HB.out)) hb)
       clear HO_5
       clear BK113
       clear HB
       have HO_5:=n0_
       have HO116:=n1_
       have BK113:=n2_
       have HB:=n3_
       clear n0_ n1_ n2_ n3_
       (try clear hb)
       (try clear hb2)
       (try clear hk)
       (try clear hi)
       (try clear ho0)
       obtain ⟨Ao18,co18,eo18⟩:=Kd.R_slice HO116.out
       (first | subst eo18 | (injection eo18 with f1_ f2_ f3_;have f4_:=f1_.symm;have f5_:=f3_.symm;clear f1_ f2_ f3_;subst f4_;subst f5_))
       refine hK.out _ _ ⟨(blk_cell BK113.out 0).trans rfl,(blk_cell BK113.out 1).trans rfl⟩ (fun hHeld => ?_)
       clear hK K
       refine norm_ (a':=?_) ?_ ?_
       rotate_left
       ·show Act.put _ (some 28) _ = _
        simp only [Act.put,sA_,sB_,sC_,i64_w,i32_w]
        rfl
       refine one_ (i:=8) (N:=some 33) #[y_,y_,y_,y_,y_,y_,y_,y_,y_,n_] rfl rfl (one_of HT_.out (by kernel_rfl)) (by decide) (fun K hK => ?_)
       refine goes_ Try.func74 (by kernel_rfl) rfl #[.slice Ao18 t114.length co18,.int .u64 (IntKind.u64.wrap ((((rd_T106 l0 x21_1).f1).length : Int)))] (by rfl) rfl rfl (by (try simp only [List.map_toArray,List.map_cons,List.map_nil]);first | done | rfl | (simp only [List.length_drop,List.length_take];rfl)) ?_
       with_reducible refine (wire_Put.calls _ _ t114 (IntKind.u64.wrap ((((rd_T106 l0 x21_1).f1).length : Int))) t117 _ ?side1 ?side2 A11.out).mono ?_
       (case side1 => repeat (first | exact (Kd.R_reads' HO116.out).2.2 | (with_reducible refine Kd.C_alloc ?_ _) | (with_reducible refine Kd.C_drewN ?_ _) | (with_reducible refine Kd.C_drew ?_)))
       (case side2 => exact (Kd.R_reads' HO116.out).2.1)
       rintro e w19 ⟨v118,rfl,ho0,hb⟩
       refine ⟨_,rfl,?_⟩
       have n0_:=Aside0.mk (Kd.R_elder' (by (with_reducible repeat (first | apply Kd.R_alloc | apply Kd.R_drewN | apply Kd.R_drew));exact HO_5.out) (Kd.R_base ho0) hb)
       have n1_:=Aside0.mk (Kd.R_elder' (by (with_reducible repeat (first | apply Kd.R_alloc | apply Kd.R_drewN | apply Kd.R_drew));exact HO116.out) (Kd.R_base ho0) hb)
       have n2_:=Aside0.mk (Kd.R_lower (Kd.R_new' (Kd.R_new' ho0 (Kd.R_lt (by (with_reducible repeat (first | apply Kd.R_alloc | apply Kd.R_drewN | apply Kd.R_drew));exact HO_5.out))) (Kd.R_lt (by (with_reducible repeat (first | apply Kd.R_alloc | apply Kd.R_drewN | apply Kd.R_drew));exact HO116.out))) (below_size (by repeat (first | (with_reducible first | exact HB.out | apply below_alloc | apply pw_below_drewN | apply below_drew1 | refine below_set ?_ GE113.out) | exact HB.out))))
       have n3_:=Aside0.mk (blk_below (g:=gb113) (o:=.cells #[.string ((rd_T106 l0 x21_1).f0),.slice A112_1 ((rd_T106 l0 x21_1).f1).length c112_1] 106 (0,0)) (by (with_reducible repeat (first | refine blk_drewN ?_ _ | refine blk_drew ?_ | refine blk_alloc ?_ _));exact BK113.out) hb)
       have n4_:=Aside0.mk (below_step (by repeat (first | (with_reducible first | exact HB.out | apply below_alloc | apply pw_below_drewN | apply below_drew1 | refine below_set ?_ GE113.out) | exact HB.out)) hb)
       clear HO_5
       clear HO116
       clear BK113
       clear HB
       have HO_5:=n0_
       have HO116:=n1_
       have HO119:=n2_
       have BK113:=n3_
       have HB:=n4_
       clear n0_ n1_ n2_ n3_ n4_
       (try clear hb)
       (try clear hb2)
       (try clear hk)
       (try clear hi)
       (try clear ho0)
       refine hK.out _ _ ⟨(blk_cell BK113.out 0).trans rfl,(blk_cell BK113.out 1).trans rfl⟩ (fun hHeld => ?_)
       clear hK K
       refine norm_ (a':=?_) ?_ ?_
       rotate_left
       ·show Act.put _ (some 33) _ = _
        simp only [Act.put,sA_,sB_,sC_,i64_w,i32_w]
        rfl
       refine pure_ (i:=9) (N:=some 5) (v:=?_) (a':=?_) #[y_,y_,y_,y_,y_,y_,y_,y_,y_,y_] rfl rfl (any_of HT_.out (by kernel_rfl)) (fun _ _ _ h => h) (Or.inl ⟨by rfl,?_⟩) ?_ ?_
       rotate_left
       ·intro w'
        go_simp
        with_reducible rfl
       rotate_left
       ·simp only [Act.put,sA_,sB_,sC_,i64_w,i32_w]
        rfl
       refine done_ (done_of HT_.out (by kernel_rfl)) ?_
       have hcz20_0 : w19.cell? ⟨gb113,0,none⟩ = some (.string ((rd_T106 l0 x21_1).f0)):=(blk_cell BK113.out 0).trans rfl
       have hcz20_1 : w19.cell? ⟨gb113,1,none⟩ = some (.slice A112_1 ((rd_T106 l0 x21_1).f1).length c112_1):=(blk_cell BK113.out 1).trans rfl
       have hfz20_0:=blk_frozen BK113.out 0
       have hfz20_1:=blk_frozen BK113.out 1
       try go_wp2
       go_loopg [5,37] k1 (fun kq v5 v37 w' => ∃ (x5_2 : List Int) (x37_2 : Int),v37 = .int .i64 x37_2 ∧ Aside0 (sigbin_Put.l1 kq x5_2 l0 (l0.length : Int) x21_1 ((rd_T106 l0 x21_1).f1) (((rd_T106 l0 x21_1).f1).length : Int) x37_2 = some (r1,r2)) ∧ Aside0 (kq ≤ k1) ∧ Aside0 (Kd.R (Kd.int .u8) 5 w' w.heap.size (fun _ => True) v5 x5_2) ∧ Aside0 (w'.heap[gb113]? = some (.cells #[.string ((rd_T106 l0 x21_1).f0),(.slice A112_1 ((rd_T106 l0 x21_1).f1).length c112_1)] 106 (0,0))) ∧ Aside0 (Below w.heap.size w w'))
       case atStart => exact ⟨(t117),(0),(by first | rfl | (simp;done) | (simp [*];done)),H',⟨Nat.le_refl _⟩,⟨by (with_reducible repeat (first | apply Kd.R_alloc | apply Kd.R_drewN | apply Kd.R_drew));exact Kd.R_mono HO119.out (fun _ hk => trivial)⟩,⟨by (with_reducible repeat (first | refine blk_drewN ?_ _ | refine blk_drew ?_ | refine blk_alloc ?_ _));exact BK113.out⟩,⟨by repeat (first | (with_reducible first | exact HB.out | apply below_alloc | apply pw_below_drewN | apply below_drew1 | refine below_set ?_ GE113.out) | exact HB.out)⟩⟩
       case round =>
        clear H'
        try clear c1
        try clear p1
        try clear q1
        try clear hx1
        try clear p2
        try clear c3
        try clear c3b0
        try clear c3b1
        try clear c4
        try clear c5
        try clear c7
        try clear c7b0
        try clear c8
        try clear c8b0
        try clear c9
        try clear c9b0
        try clear c11
        try clear p11
        try clear q11
        try clear hx11
        try clear hcz13_0
        try clear hcz13_1
        try clear hcz20_0
        try clear hcz20_1
        try clear hfz13_0
        try clear hfz13_1
        try clear hfz20_0
        try clear hfz20_1
        try clear hx112_0
        try clear hx112_1
        try clear p112
        try clear p2
        try clear q112
        obtain ⟨x5_2,x37_2,rfl,HA,HK2,HO_5,BK113,HB⟩:=hrel
        cases gk with
        | zero => exact absurd HA.out (by simp [sigbin_Put.l1])
        | succ k2 =>
         have H:=HA.out
         clear HA
         simp only [sigbin_Put.l1] at H
         by_cases c21 : x37_2 < (((rd_T106 l0 x21_1).f1).length : Int)
         ·rw [if_pos c21] at H
          have c21b0 : decide (x37_2 < (((rd_T106 l0 x21_1).f1).length : Int)) = true:=decide_eq_true c21
          clear c21
          by_cases c22 : 0 ≤ x37_2
          ·rw [if_pos c22] at H
           have c22b0 : decide (0 ≤ x37_2) = true:=decide_eq_true c22
           clear c22
           by_cases c23 : x37_2 < (((rd_T106 l0 x21_1).f1).length : Int)
           ·rw [if_pos c23] at H
            have c23b0 : decide (x37_2 < (((rd_T106 l0 x21_1).f1).length : Int)) = true:=decide_eq_true c23
            clear c23
            by_cases c24 : x5_2.length < 140737488355328
            ·rw [if_pos c24] at H
             have LMc24:=Aside0.mk c24
             clear c24
             obtain ⟨y121,hy121⟩ : ∃ y_ : List Int,y_ = (x5_2 ++ [(rd ((rd_T106 l0 x21_1).f1) x37_2) % 256]):=⟨_,rfl⟩
             replace H : (sigbin_Put.l1 k2 y121 l0 (l0.length : Int) x21_1 ((rd_T106 l0 x21_1).f1) (((rd_T106 l0 x21_1).f1).length : Int) (wrap64 (x37_2 + 1))) = some (r1,r2):=by first | (rw [hy121];with_reducible exact H) | (have H2_:=(Option.bind_some _ _).symm.trans H;rw [hy121];with_reducible exact H2_) | (have H2_:=(Option.bind_some _ _).symm.trans H;with_reducible exact H2_) | with_reducible exact H | (rw [hy121];exact H) | exact H
             have Ny121:=Aside0.mk hy121
             clear hy121
             have H':=Aside0.mk H
             clear H
             have p120 : 0 ≤ (x37_2 : Int):=of_decide_eq_true (by first | (with_reducible assumption) | assumption)
             have q120 : x37_2 < (((rd_T106 l0 x21_1).f1).length : Int):=of_decide_eq_true (by first | (with_reducible assumption) | assumption)
             obtain ⟨ad120,e120,hx120_0⟩:=Kd.at_int HR112_1.out x37_2 p120 q120
             cases e120
             replace hx120_0:=(HB.out.cell (World.block_lt_of_cell? w _ hx120_0)).trans hx120_0
             replace p120:=eq_true p120
             replace q120:=eq_true q120
             go_wp2_with (first | ((with_reducible refine gate_builtin (b:=.append) (xs:=#[.tmp 41,.tmp 44]) rfl ?_);at_builtin;refine Kd.R_append (Kd.int .u8) (w0:=w) w.heap.size rfl (.tmp 41) (.tmp 44) 71 5 (.int .u8 0) 1 rfl Try.underlying71 info5 rfl (by decide) (by omega) u5 x5_2 ((rd ((rd_T106 l0 x21_1).f1) x37_2) % 256) [.int .u8 ((rd ((rd_T106 l0 x21_1).f1) x37_2) % 256)] (fun _ => True) (fun _ => False) rfl rfl ?aP (fun _ hk => hk.elim) ?aF ?aO ?aB ?aS ?aL ?_;(case aP => exact rfl);(case aB => exact (by repeat (first | (with_reducible first | exact HB.out | apply below_alloc | apply pw_below_drewN | apply below_drew1 | refine below_set ?_ GE113.out) | exact HB.out)));(case aF => exact (fun _ _ => trivial));(case aO => exact (by (with_reducible repeat (first | apply Kd.R_alloc | apply Kd.R_drewN | apply Kd.R_drew));exact HO_5.out));(case aS => exact (below_size (by repeat (first | (with_reducible first | exact HB.out | apply below_alloc | apply pw_below_drewN | apply below_drew1 | refine below_set ?_ GE113.out) | exact HB.out))));(case aL => have:=LMc24.out;omega);intro v122 w25 ho hb hg hat;rw [← Ny121.out] at ho;have n0_:=Aside0.mk (blk_grown (g:=gb113) (o:=.cells #[.string ((rd_T106 l0 x21_1).f0),.slice (some ad120) ((rd_T106 l0 x21_1).f1).length c112_1] 106 (0,0)) (by (with_reducible repeat (first | refine blk_drewN ?_ _ | refine blk_drew ?_ | refine blk_alloc ?_ _));exact BK113.out) hg (Kd.R_ne HO_5.out BK113.out (by decide)));have n1_:=Aside0.mk (hb);have n2_:=Aside0.mk (ho);clear BK113;clear HB;clear HO_5;have BK113:=n0_;have HB:=n1_;have HO123:=n2_;clear n0_ n1_ n2_;clear ho hb hg hat))
             go_roundg k2
             case measure => have:=HK1.out;have:=HK2.out;omega
             case rel => exact ⟨(y121),(wrap64 (x37_2 + 1)),(by first | rfl | (simp;done) | (simp [*];done)),H',⟨by have:=HK1.out;have:=HK2.out;omega⟩,⟨by (with_reducible repeat (first | apply Kd.R_alloc | apply Kd.R_drewN | apply Kd.R_drew));exact HO123.out⟩,⟨by (with_reducible repeat (first | refine blk_drewN ?_ _ | refine blk_drew ?_ | refine blk_alloc ?_ _));exact BK113.out⟩,⟨by repeat (first | (with_reducible first | exact HB.out | apply below_alloc | apply pw_below_drewN | apply below_drew1 | refine below_set ?_ GE113.out) | exact HB.out)⟩⟩
            ·rw [if_neg c24] at H
             exact absurd H (by simp)
           ·rw [if_neg c23] at H
            exact absurd H (by simp)
          ·rw [if_neg c22] at H
           exact absurd H (by simp)
         ·rw [if_neg c21] at H
          have c21b0 : decide (x37_2 < (((rd_T106 l0 x21_1).f1).length : Int)) = false:=decide_eq_false c21
          clear c21
          have H':=Aside0.mk H
          clear H
          go_wp2
          go_roundg k2
          case measure => have:=HK1.out;have:=HK2.out;omega
          case rel => exact ⟨(x5_2),(wrap64 (x21_1 + 1)),(by first | rfl | (simp;done) | (simp [*];done)),H',⟨by have:=HK1.out;have:=HK2.out;omega⟩,⟨by (with_reducible repeat (first | apply Kd.R_alloc | apply Kd.R_drewN | apply Kd.R_drew));exact HO_5.out⟩,⟨by repeat (first | (with_reducible first | exact HB.out | apply below_alloc | apply pw_below_drewN | apply below_drew1 | refine below_set ?_ GE113.out) | exact HB.out)⟩⟩
      ·rw [if_neg c9] at H
       exact absurd H (by simp)
     ·rw [if_neg c8] at H
      exact absurd H (by simp)
    ·rw [if_neg c7] at H
     have c7b0 : decide (x21_1 < (l0.length : Int)) = false:=decide_eq_false c7
     clear c7
     simp only [Option.some.injEq,Prod.mk.injEq] at H
     obtain ⟨rfl,rfl⟩:=H
     go_wp2
     go_ret2
     exact ⟨_,by first | rfl | (simp [errW_none,errW_some] <;> rfl) | (simp [*,errW_none,errW_some] <;> rfl),by (with_reducible repeat (first | apply Kd.R_alloc | apply Kd.R_drewN | apply Kd.R_drew));exact HO_5.out,by repeat (first | (with_reducible first | exact HB.out | apply below_alloc | apply pw_below_drewN | apply below_drew1) | exact HB.out)⟩
 ·rw [if_neg c3] at H
  have c3b0 : (t108 == 0) = false:=beq_eq_false_iff_ne.mpr c3
  have c3b1 : (t108 != 0) = true:=bne_iff_ne.mpr c3
  simp only [Option.some.injEq,Prod.mk.injEq] at H
  obtain ⟨rfl,rfl⟩:=H
  go_enter Try.func44,Try.ntmps44
  go_wp2_with (first | ((with_reducible refine gate_callee (f:=56) rfl ?_);refine goesL_ (some 11) rfl rfl Try.func56 (by kernel_rfl) rfl #[.slice A0 l0.length c0] rfl (by (try simp only [List.map_toArray,List.map_cons,List.map_nil]);first | done | rfl | (simp only [List.length_drop,List.length_take];rfl)) ?_;(with_reducible refine (sig_Check.calls k _ _ l0 t108 _ ?side1 ?side2 A2.out).mono ?_);(case side1 => repeat (first | exact HR0.out | (with_reducible refine Kd.C_alloc ?_ _) | (with_reducible refine Kd.C_drewN ?_ _) | (with_reducible refine Kd.C_drew ?_)));(case side2 => exact HC0.out);rintro e w26 ⟨rfl,hb⟩;refine ⟨_,rfl,?_⟩;have n0_:=Aside0.mk (below_step (by repeat (first | (with_reducible first | exact HB.out | apply below_alloc | apply pw_below_drewN | apply below_drew1) | exact HB.out)) hb);clear HB;have HB:=n0_;clear n0_;(try clear hb);(try clear hb2);(try clear hk);(try clear hi)))
  go_ret2
  exact ⟨_,by first | rfl | (simp [errW_none,errW_some] <;> rfl) | (simp [*,errW_none,errW_some] <;> rfl),by first | exact Kd.R_nil _ _ _ _ _ | exact Kd.N_nil _ _ _ _ _ | exact Kd.V_nil _ _ _ _ _ | exact Kd.Q_nil _ _ _ _ _ | exact Kd.S_nil _ _ _ _ _,by repeat (first | (with_reducible first | exact HB.out | apply below_alloc | apply pw_below_drewN | apply below_drew1) | exact HB.out)⟩

/-! ### tachographlaw11_fixed: function 40 -/
def tachographlaw11_fixed.f (k : Nat)  : Option (Bool) := (sigbin_Put.f k (([(⟨(⟨#[112]⟩ : ByteArray), (([1] : List Int))⟩ : S106)] : List (S106)))).bind fun bt130 => (if bt130.2 = 0 then (some ((strOfNums bt130.1).toList == ([1, 1, 112, 1, 1] : List UInt8))) else (some false))
theorem tachographlaw11_fixed.mono : ∀ k, LeO (tachographlaw11_fixed.f k ) (tachographlaw11_fixed.f (k + 1) ) := by
  intro  k
  unfold tachographlaw11_fixed.f
  repeat' first
      | (with_reducible exact sigbin_Put.mono _ _)
      | (with_reducible exact LeO.refl _)
      | (with_reducible exact LeO.none _)
      | (with_reducible refine LeO.ite ?_ ?_)
      | (with_reducible refine LeO.bind ?_ (fun _ => ?_))
      | exact sigbin_Put.mono _ _
      | exact LeO.none _
      | refine LeO.ite ?_ ?_
      | refine LeO.bind ?_ (fun _ => ?_)
set_option maxHeartbeats 8000000 in
set_option maxRecDepth 100000 in
theorem tachographlaw11_fixed.calls (k : Nat)  (r : Bool) (w : World) (h : tachographlaw11_fixed.f k  = some r) :
    Calls Try.prog 40 #[] w fun e w' => e = .returned (.bool r) ∧ Below w.heap.size w w' := by
  have hu106 := Try.underlying106
  have HB := Aside0.mk (Below.refl w.heap.size w)
  have H : ((sigbin_Put.f k (([(⟨(⟨#[112]⟩ : ByteArray), (([1] : List Int))⟩ : S106)] : List (S106)))).bind fun bt130 => (if bt130.2 = 0 then (some ((strOfNums bt130.1).toList == ([1, 1, 112, 1, 1] : List UInt8))) else (some false))) = some r := h
  clear h
  obtain ⟨y124, hy124⟩ : ∃ y_ : List Int, y_ = (([1] : List Int)) := ⟨_, rfl⟩
  replace H : ((sigbin_Put.f k (([(⟨(⟨#[112]⟩ : ByteArray), y124⟩ : S106)] : List (S106)))).bind fun bt130 => (if bt130.2 = 0 then (some ((strOfNums bt130.1).toList == ([1, 1, 112, 1, 1] : List UInt8))) else (some false))) = some r := by first | (rw [hy124]; with_reducible exact H) | (have H2_ := (Option.bind_some _ _).symm.trans H; rw [hy124]; with_reducible exact H2_) | (have H2_ := (Option.bind_some _ _).symm.trans H; with_reducible exact H2_) | with_reducible exact H | (rw [hy124]; exact H) | exact H
  have Ny124 := Aside0.mk hy124
  clear hy124
  obtain ⟨y127, hy127⟩ : ∃ y_ : List (S106), y_ = (([(⟨(⟨#[112]⟩ : ByteArray), y124⟩ : S106)] : List (S106))) := ⟨_, rfl⟩
  replace H : ((sigbin_Put.f k y127).bind fun bt130 => (if bt130.2 = 0 then (some ((strOfNums bt130.1).toList == ([1, 1, 112, 1, 1] : List UInt8))) else (some false))) = some r := by first | (rw [hy127]; with_reducible exact H) | (have H2_ := (Option.bind_some _ _).symm.trans H; rw [hy127]; with_reducible exact H2_) | (have H2_ := (Option.bind_some _ _).symm.trans H; with_reducible exact H2_) | with_reducible exact H | (rw [hy127]; exact H) | exact H
  have Ny127 := Aside0.mk hy127
  clear hy127
  replace H := Option.bind_eq_some_iff.mp H
  obtain ⟨⟨t130, t131⟩, A10, H⟩ := H
  replace H : (if t131 = 0 then (some ((strOfNums t130).toList == ([1, 1, 112, 1, 1] : List UInt8))) else (some false)) = some r := H
  have A1 := Aside0.mk A10
  clear A10
  by_cases c2 : t131 = 0
  · rw [if_pos c2] at H
    have c2b0 : (t131 == 0) = true := beq_iff_eq.mpr c2
    have c2b1 : (t131 != 0) = false := bne_eq_false_iff_eq.mpr c2
    clear c2
    obtain rfl := Option.some.inj H
    go_enter Try.func40, Try.ntmps40
    go_wp2_with (first | ((with_reducible refine gate_dst (N := 4) rfl ?_); refine Kd.R_lit (Kd.int .i64) _ 3 ?hg (N := 4) ?hd (xs := ([1] : List Int)) (inner := [.int .i64 1]) (ok := fun _ => True) (okp := fun _ => True) ?hr ?hp (fun _ hk => hk) trivial (Below.refl _ _) (Nat.le_refl _) (by simp) ?_; (case hd => rfl); (case hg => rfl); (case hr => first | (go_simp; done) | (go_simp; rfl)); (case hp => exact (Reps.one (show Kd.M (Kd.int .i64) _ _ _ 1 [.int .i64 1] from rfl) (Reps.none _ _))); intro v125 w3 ho4 hb hg_ hnew_; clear hg_ hnew_; (first | rw [← Ny124.out] at ho4 | (simp only [Int.reduceToNat] at ho4; rw [← Ny124.out] at ho4)); have n0_ := Aside0.mk (Kd.R_lower ho4 (below_size (by repeat (first | (with_reducible first | exact HB.out | apply below_alloc | apply pw_below_drewN | apply below_drew1) | exact HB.out)))); have n1_ := Aside0.mk (below_step (by repeat (first | (with_reducible first | exact HB.out | apply below_alloc | apply pw_below_drewN | apply below_drew1) | exact HB.out)) hb); clear HB; have HO126 := n0_; have HB := n1_; clear n0_ n1_; clear hb ho4; obtain ⟨Ao5, co5, eo5⟩ := Kd.R_slice HO126.out; subst eo5) | ((with_reducible refine gate_dst (N := 6) rfl ?_); refine Kd.N_lit k106 _ 106 ?hg (N' := 6) ?hd (xs := ([(⟨(⟨#[112]⟩ : ByteArray), y124⟩ : S106)] : List (S106))) (inner := [.string (⟨#[112]⟩ : ByteArray), .slice Ao5 y124.length co5]) (ok := (fun _ => True)) (okp := (fun _ => True)) ?hr ?hp (fun _ hk => hk) ((show ∀ k_, w3.heap.size ≤ k_ → (fun _ => True) k_ from fun k_ hk => trivial) _ (Nat.le_refl _)) (Below.refl _ _) (Nat.le_refl _) (by simp) ?_; (case hd => rfl); (case hg => rfl); (case hr => first | (go_simp; done) | (go_simp; rfl)); (case hp => exact (Reps.c2 (show Kd.FK k106 _ _ (⟨(⟨#[112]⟩ : ByteArray), y124⟩ : S106) [.string (⟨#[112]⟩ : ByteArray), .slice Ao5 y124.length co5] from (k106_mkF _ _ (⟨(⟨#[112]⟩ : ByteArray), y124⟩ : S106) (Kd.R_reads' (Kd.R_mono (ok' := (fun _ => True)) (HO126.out) (fun k_ hk => trivial))).2.1 (Kd.R_F (Kd.R_mono (ok' := (fun _ => True)) (HO126.out) (fun k_ hk => trivial))))) (Reps.none _ _))); intro v128 w6 ho7 hb hg_ hnew_; clear hg_ hnew_; (first | rw [← Ny127.out] at ho7 | (simp only [Int.reduceToNat] at ho7; rw [← Ny127.out] at ho7)); have n0_ := Aside0.mk (Kd.N_lower ho7 (below_size (by repeat (first | (with_reducible first | exact HB.out | apply below_alloc | apply pw_below_drewN | apply below_drew1) | exact HB.out)))); have n1_ := Aside0.mk (below_step (by repeat (first | (with_reducible first | exact HB.out | apply below_alloc | apply pw_below_drewN | apply below_drew1) | exact HB.out)) hb); clear HB; clear HO126; have HO129 := n0_; have HB := n1_; clear n0_ n1_; clear hb ho7; obtain ⟨Ao8, co8, eo8⟩ := Kd.N_slice HO129.out; subst eo8) | ((with_reducible refine gate_callee (f := 44) rfl ?_); refine goesL_ (some 7) rfl rfl Try.func44 (by kernel_rfl) rfl #[.slice Ao8 y127.length co8] rfl (by (try simp only [List.map_toArray, List.map_cons, List.map_nil]); first | done | rfl | (simp only [List.length_drop, List.length_take]; rfl) | (refine congrArg (fun z_ => #[z_]) (congrArg (Value.int IntKind.u64) (Eq.symm (Go.Proofs.YtjfklfmfeghjnabAid.wrap_len _ (by omega)))))) ?_; (with_reducible refine (sigbin_Put.calls k _ _ y127 t130 t131 _ ?side1 ?side2 A1.out).mono ?_); (case side1 => repeat (first | exact (Kd.N_reads' HO129.out).2.2 | (with_reducible refine Kd.C_alloc ?_ _) | (with_reducible refine Kd.C_drewN ?_ _) | (with_reducible refine Kd.C_drew ?_))); (case side2 => exact (Kd.N_reads' HO129.out).2.1); rintro e w9 ⟨v132, rfl, ho0, hb⟩; refine ⟨_, rfl, ?_⟩; have n0_ := Aside0.mk (Kd.N_elder' (by (with_reducible repeat (first | apply Kd.N_alloc | apply Kd.N_drewN | apply Kd.N_drew)); exact HO129.out) (Kd.R_base ho0) hb); have n1_ := Aside0.mk (Kd.R_lower ho0 (below_size (by repeat (first | (with_reducible first | exact HB.out | apply below_alloc | apply pw_below_drewN | apply below_drew1) | exact HB.out)))); have n2_ := Aside0.mk (below_step (by repeat (first | (with_reducible first | exact HB.out | apply below_alloc | apply pw_below_drewN | apply below_drew1) | exact HB.out)) hb); clear HO129; clear HB; have HO129 := n0_; have HO133 := n1_; have HB := n2_; clear n0_ n1_ n2_; (try clear hb); (try clear hb2); (try clear hk); (try clear hi); (try clear ho0); have hcv10 := own_string (P := Try.prog) Try.underlying71 Try.underlying5 Try.underlying9 (Kd.own_of_R HO133.out)))
    go_ret
    exact ⟨by first | rfl | (simp [errW_none, errW_some] <;> rfl) | (simp [*, errW_none, errW_some] <;> rfl), by repeat (first | (with_reducible first | exact HB.out | apply below_alloc | apply pw_below_drewN | apply below_drew1) | exact HB.out)⟩
  · rw [if_neg c2] at H
    have c2b0 : (t131 == 0) = false := beq_eq_false_iff_ne.mpr c2
    have c2b1 : (t131 != 0) = true := bne_iff_ne.mpr c2
    obtain rfl := Option.some.inj H
    go_enter Try.func40, Try.ntmps40
    go_wp2_with (first | ((with_reducible refine gate_dst (N := 4) rfl ?_); refine Kd.R_lit (Kd.int .i64) _ 3 ?hg (N := 4) ?hd (xs := ([1] : List Int)) (inner := [.int .i64 1]) (ok := fun _ => True) (okp := fun _ => True) ?hr ?hp (fun _ hk => hk) trivial (Below.refl _ _) (Nat.le_refl _) (by simp) ?_; (case hd => rfl); (case hg => rfl); (case hr => first | (go_simp; done) | (go_simp; rfl)); (case hp => exact (Reps.one (show Kd.M (Kd.int .i64) _ _ _ 1 [.int .i64 1] from rfl) (Reps.none _ _))); intro v125 w11 ho12 hb hg_ hnew_; clear hg_ hnew_; (first | rw [← Ny124.out] at ho12 | (simp only [Int.reduceToNat] at ho12; rw [← Ny124.out] at ho12)); have n0_ := Aside0.mk (Kd.R_lower ho12 (below_size (by repeat (first | (with_reducible first | exact HB.out | apply below_alloc | apply pw_below_drewN | apply below_drew1) | exact HB.out)))); have n1_ := Aside0.mk (below_step (by repeat (first | (with_reducible first | exact HB.out | apply below_alloc | apply pw_below_drewN | apply below_drew1) | exact HB.out)) hb); clear HB; have HO126 := n0_; have HB := n1_; clear n0_ n1_; clear hb ho12; obtain ⟨Ao13, co13, eo13⟩ := Kd.R_slice HO126.out; subst eo13) | ((with_reducible refine gate_dst (N := 6) rfl ?_); refine Kd.N_lit k106 _ 106 ?hg (N' := 6) ?hd (xs := ([(⟨(⟨#[112]⟩ : ByteArray), y124⟩ : S106)] : List (S106))) (inner := [.string (⟨#[112]⟩ : ByteArray), .slice Ao13 y124.length co13]) (ok := (fun _ => True)) (okp := (fun _ => True)) ?hr ?hp (fun _ hk => hk) ((show ∀ k_, w11.heap.size ≤ k_ → (fun _ => True) k_ from fun k_ hk => trivial) _ (Nat.le_refl _)) (Below.refl _ _) (Nat.le_refl _) (by simp) ?_; (case hd => rfl); (case hg => rfl); (case hr => first | (go_simp; done) | (go_simp; rfl)); (case hp => exact (Reps.c2 (show Kd.FK k106 _ _ (⟨(⟨#[112]⟩ : ByteArray), y124⟩ : S106) [.string (⟨#[112]⟩ : ByteArray), .slice Ao13 y124.length co13] from (k106_mkF _ _ (⟨(⟨#[112]⟩ : ByteArray), y124⟩ : S106) (Kd.R_reads' (Kd.R_mono (ok' := (fun _ => True)) (HO126.out) (fun k_ hk => trivial))).2.1 (Kd.R_F (Kd.R_mono (ok' := (fun _ => True)) (HO126.out) (fun k_ hk => trivial))))) (Reps.none _ _))); intro v128 w14 ho15 hb hg_ hnew_; clear hg_ hnew_; (first | rw [← Ny127.out] at ho15 | (simp only [Int.reduceToNat] at ho15; rw [← Ny127.out] at ho15)); have n0_ := Aside0.mk (Kd.N_lower ho15 (below_size (by repeat (first | (with_reducible first | exact HB.out | apply below_alloc | apply pw_below_drewN | apply below_drew1) | exact HB.out)))); have n1_ := Aside0.mk (below_step (by repeat (first | (with_reducible first | exact HB.out | apply below_alloc | apply pw_below_drewN | apply below_drew1) | exact HB.out)) hb); clear HB; clear HO126; have HO129 := n0_; have HB := n1_; clear n0_ n1_; clear hb ho15; obtain ⟨Ao16, co16, eo16⟩ := Kd.N_slice HO129.out; subst eo16) | ((with_reducible refine gate_callee (f := 44) rfl ?_); refine goesL_ (some 7) rfl rfl Try.func44 (by kernel_rfl) rfl #[.slice Ao16 y127.length co16] rfl (by (try simp only [List.map_toArray, List.map_cons, List.map_nil]); first | done | rfl | (simp only [List.length_drop, List.length_take]; rfl) | (refine congrArg (fun z_ => #[z_]) (congrArg (Value.int IntKind.u64) (Eq.symm (Go.Proofs.YtjfklfmfeghjnabAid.wrap_len _ (by omega)))))) ?_; (with_reducible refine (sigbin_Put.calls k _ _ y127 t130 t131 _ ?side1 ?side2 A1.out).mono ?_); (case side1 => repeat (first | exact (Kd.N_reads' HO129.out).2.2 | (with_reducible refine Kd.C_alloc ?_ _) | (with_reducible refine Kd.C_drewN ?_ _) | (with_reducible refine Kd.C_drew ?_))); (case side2 => exact (Kd.N_reads' HO129.out).2.1); rintro e w17 ⟨v132, rfl, ho0, hb⟩; refine ⟨_, rfl, ?_⟩; have n0_ := Aside0.mk (Kd.N_elder' (by (with_reducible repeat (first | apply Kd.N_alloc | apply Kd.N_drewN | apply Kd.N_drew)); exact HO129.out) (Kd.R_base ho0) hb); have n1_ := Aside0.mk (Kd.R_lower ho0 (below_size (by repeat (first | (with_reducible first | exact HB.out | apply below_alloc | apply pw_below_drewN | apply below_drew1) | exact HB.out)))); have n2_ := Aside0.mk (below_step (by repeat (first | (with_reducible first | exact HB.out | apply below_alloc | apply pw_below_drewN | apply below_drew1) | exact HB.out)) hb); clear HO129; clear HB; have HO129 := n0_; have HO133 := n1_; have HB := n2_; clear n0_ n1_ n2_; (try clear hb); (try clear hb2); (try clear hk); (try clear hi); (try clear ho0)))
    go_ret
    exact ⟨by first | rfl | (simp [errW_none, errW_some] <;> rfl) | (simp [*, errW_none, errW_some] <;> rfl), by repeat (first | (with_reducible first | exact HB.out | apply below_alloc | apply pw_below_drewN | apply below_drew1) | exact HB.out)⟩

/-- A state of type 157 at block g of W; what its slices lead to came in by w0. -/
def IsS157 (w0 W : World) (g : Nat) (f0 : ByteArray) (f1 : Int) (f2 : Int) : Prop := W.heap[g]? = some (.cells #[.string f0, .int .i64 f1, .int .i64 f2] 157 (0, 0)) ∧ w0.heap.size ≤ g
theorem IsS157.grown {w0 W : World} {g : Nat} {f0 : ByteArray} {f1 : Int} {f2 : Int} {W1 : World} {row : Option Nat} (h : IsS157 w0 W g f0 f1 f2) (hw : W.grownBy W1 row) (hne : some g ≠ row) : IsS157 w0 W1 g f0 f1 f2 := by
  obtain ⟨hb, hg⟩ := h
  exact ⟨blk_grown hb hw hne, hg⟩
theorem IsS157.own_neN {w0 W : World} {g : Nat} {f0 : ByteArray} {f1 : Int} {f2 : Int} {α : Type} {d : Kd α} {e : Nat} {base : Nat} {ok : Nat → Prop} {v : Value} {xs : List α} (h : IsS157 w0 W g f0 f1 f2) (ho : Kd.N d e W base ok v xs) (ht : e ≠ 157) : some g ≠ v.ownBlock := by
  obtain ⟨hb, hg⟩ := h
  exact Kd.N_ne ho hb ht
theorem IsS157.fresh {w0 W : World} {g : Nat} {f0 : ByteArray} {f1 : Int} {f2 : Int} (h : IsS157 w0 W g f0 f1 f2) : ∀ k, W.heap.size ≤ k → k ≠ g := by
  obtain ⟨hb, hg⟩ := h
  exact Kd.freshB hb
theorem IsS157.kept {w0 W : World} {g : Nat} {f0 : ByteArray} {f1 : Int} {f2 : Int} {W1 : World} {S : Nat → Prop} (h : IsS157 w0 W g f0 f1 f2) (hk : Kept W W1 S) (hne : ¬ S g) : IsS157 w0 W1 g f0 f1 f2 := by
  obtain ⟨hb, hg⟩ := h
  exact ⟨blk_kept hb hk hne, hg⟩
theorem IsS157.below {w0 W : World} {g : Nat} {f0 : ByteArray} {f1 : Int} {f2 : Int} {W1 : World} (h : IsS157 w0 W g f0 f1 f2) (hw : Below W.heap.size W W1) : IsS157 w0 W1 g f0 f1 f2 := h.grown (grown_of_below hw none) (by simp)
theorem IsS157.alloc {w0 W : World} {g : Nat} {f0 : ByteArray} {f1 : Int} {f2 : Int} (h : IsS157 w0 W g f0 f1 f2) (o : Obj) : IsS157 w0 (W.alloc o) g f0 f1 f2 := h.below (below_alloc (Below.refl _ _) o)
theorem IsS157.drewN {w0 W : World} {g : Nat} {f0 : ByteArray} {f1 : Int} {f2 : Int} (h : IsS157 w0 W g f0 f1 f2) (m : Nat) : IsS157 w0 (W.drewN m) g f0 f1 f2 := h
theorem IsS157.drew {w0 W : World} {g : Nat} {f0 : ByteArray} {f1 : Int} {f2 : Int} (h : IsS157 w0 W g f0 f1 f2) : IsS157 w0 W.drew g f0 f1 f2 := h
theorem IsS157.at_ {w0 W : World} {g : Nat} {f0 : ByteArray} {f1 : Int} {f2 : Int} {w' : World} {m : Nat} (hq : W.drewN m = w') (h : IsS157 w0 W g f0 f1 f2) : IsS157 w0 w' g f0 f1 f2 := by subst hq; exact IsS157.drewN h m
theorem IsS157.apart {w0 W : World} {g : Nat} {f0 : ByteArray} {f1 : Int} {f2 : Int} {α : Type} {d : Kd α} {e : Nat} {base : Nat} {ok : Nat → Prop} {v : Value} {xs : List α} (h : IsS157 w0 W g f0 f1 f2) (ho : d.R e W base ok v xs) (ht : ∀ q, q ∈ e :: d.E → q ≠ 157) : d.R e W base (fun k => ok k ∧ k ≠ g) v xs := by
  obtain ⟨hb, hg⟩ := h
  exact Kd.R_types ho hb ht
theorem IsS157.own_ne {w0 W : World} {g : Nat} {f0 : ByteArray} {f1 : Int} {f2 : Int} {α : Type} {d : Kd α} {e : Nat} {base : Nat} {ok : Nat → Prop} {v : Value} {xs : List α} (h : IsS157 w0 W g f0 f1 f2) (ho : d.R e W base ok v xs) (ht : e ≠ 157) : some g ≠ v.ownBlock := by
  obtain ⟨hb, hg⟩ := h
  exact Kd.R_ne ho hb ht
theorem IsS157.apartQ {w0 W : World} {g : Nat} {f0 : ByteArray} {f1 : Int} {f2 : Int} {α : Type} {d : Kd α} {e : Nat} {base : Nat} {ok : Nat → Prop} {v : Value} {xs : List α} (h : IsS157 w0 W g f0 f1 f2) (ho : d.Q e W base ok v xs) (ht : ∀ q, q ∈ e :: d.E → q ≠ 157) : d.Q e W base (fun k => ok k ∧ k ≠ g) v xs := by
  obtain ⟨hb, hg⟩ := h
  exact Kd.Q_types ho hb ht
theorem IsS157.own_neQ {w0 W : World} {g : Nat} {f0 : ByteArray} {f1 : Int} {f2 : Int} {α : Type} {d : Kd α} {e : Nat} {base : Nat} {ok : Nat → Prop} {v : Value} {xs : List α} (h : IsS157 w0 W g f0 f1 f2) (ho : d.Q e W base ok v xs) (ht : e ≠ 157) : some g ≠ v.ownBlock := by
  obtain ⟨hb, hg⟩ := h
  exact Kd.Q_ne ho hb ht
theorem IsS157.apartS {w0 W : World} {g : Nat} {f0 : ByteArray} {f1 : Int} {f2 : Int} {α : Type} {d : Kd α} {e : Nat} {base : Nat} {ok : Nat → Prop} {v : Value} {xs : List α} (h : IsS157 w0 W g f0 f1 f2) (ho : d.S e W base ok v xs) (ht : ∀ q, q ∈ e :: d.E → q ≠ 157) : d.S e W base (fun k => ok k ∧ k ≠ g) v xs := by
  obtain ⟨hb, hg⟩ := h
  exact Kd.S_types ho hb ht
theorem IsS157.own_neS {w0 W : World} {g : Nat} {f0 : ByteArray} {f1 : Int} {f2 : Int} {α : Type} {d : Kd α} {e : Nat} {base : Nat} {ok : Nat → Prop} {v : Value} {xs : List α} (h : IsS157 w0 W g f0 f1 f2) (ho : d.S e W base ok v xs) (ht : e ≠ 157) : some g ≠ v.ownBlock := by
  obtain ⟨hb, hg⟩ := h
  exact Kd.S_ne ho hb ht
theorem IsS157.lt {w0 W : World} {g : Nat} {f0 : ByteArray} {f1 : Int} {f2 : Int} (h : IsS157 w0 W g f0 f1 f2) : g < W.heap.size := by
  obtain ⟨hb, hg⟩ := h
  exact blk_lt hb
theorem IsS157.ge {w0 W : World} {g : Nat} {f0 : ByteArray} {f1 : Int} {f2 : Int} (h : IsS157 w0 W g f0 f1 f2) : w0.heap.size ≤ g := by
  obtain ⟨hb, hg⟩ := h
  exact hg
theorem IsS157.ne_blk {w0 W : World} {g : Nat} {f0 : ByteArray} {f1 : Int} {f2 : Int} {a : Nat} {cs : Array Value} {t : TypeId} {fr : Nat × Nat} (h : IsS157 w0 W g f0 f1 f2) (hb2 : W.heap[a]? = some (.cells cs t fr)) (ht : t ≠ 157) : g ≠ a := by
  obtain ⟨hb, hg⟩ := h
  rintro rfl
  rw [hb] at hb2
  injection hb2 with hb2
  injection hb2 with _ ht2
  exact ht ht2.symm
theorem IsS157.far {w0 W : World} {g : Nat} {f0 : ByteArray} {f1 : Int} {f2 : Int} {p : Addr} (h : IsS157 w0 W g f0 f1 f2) (hne : g ≠ p.block) (u : Value) : IsS157 w0 (W.setCell p u) g f0 f1 f2 := by
  obtain ⟨hb, hg⟩ := h
  exact ⟨blk_far hb hne u, hg⟩
theorem cellS157_0 {W : World} {g : Nat} {f0 : ByteArray} {f1 : Int} {f2 : Int} (h : W.heap[g]? = some (.cells #[.string f0, .int .i64 f1, .int .i64 f2] 157 (0, 0))) : W.cell? ⟨g, 0, none⟩ = some (.string f0) := (blk_cell h 0).trans rfl
theorem IsS157.set_0 {w0 W : World} {g : Nat} {f0 : ByteArray} {f1 : Int} {f2 : Int} (h : IsS157 w0 W g f0 f1 f2) (x : ByteArray) : IsS157 w0 (W.setCell ⟨g, 0, none⟩ (.string x)) g x f1 f2 := by
  obtain ⟨hb, hg⟩ := h
  exact ⟨by simpa using blk_set hb 0 (.string x), hg⟩
theorem cellS157_1 {W : World} {g : Nat} {f0 : ByteArray} {f1 : Int} {f2 : Int} (h : W.heap[g]? = some (.cells #[.string f0, .int .i64 f1, .int .i64 f2] 157 (0, 0))) : W.cell? ⟨g, 1, none⟩ = some (.int .i64 f1) := (blk_cell h 1).trans rfl
theorem IsS157.set_1 {w0 W : World} {g : Nat} {f0 : ByteArray} {f1 : Int} {f2 : Int} (h : IsS157 w0 W g f0 f1 f2) (x : Int) : IsS157 w0 (W.setCell ⟨g, 1, none⟩ (.int .i64 x)) g f0 x f2 := by
  obtain ⟨hb, hg⟩ := h
  exact ⟨by simpa using blk_set hb 1 (.int .i64 x), hg⟩
theorem cellS157_2 {W : World} {g : Nat} {f0 : ByteArray} {f1 : Int} {f2 : Int} (h : W.heap[g]? = some (.cells #[.string f0, .int .i64 f1, .int .i64 f2] 157 (0, 0))) : W.cell? ⟨g, 2, none⟩ = some (.int .i64 f2) := (blk_cell h 2).trans rfl
theorem IsS157.set_2 {w0 W : World} {g : Nat} {f0 : ByteArray} {f1 : Int} {f2 : Int} (h : IsS157 w0 W g f0 f1 f2) (x : Int) : IsS157 w0 (W.setCell ⟨g, 2, none⟩ (.int .i64 x)) g f0 f1 x := by
  obtain ⟨hb, hg⟩ := h
  exact ⟨by simpa using blk_set hb 2 (.int .i64 x), hg⟩
theorem IsS157.new (w0 W : World) (f0 : ByteArray) (f1 : Int) (f2 : Int) (hB : Below w0.heap.size w0 W) : IsS157 w0 (W.alloc (.cells #[.string f0, .int .i64 f1, .int .i64 f2] 157)) W.heap.size f0 f1 f2 := ⟨by simpa using heap_alloc_new W _, hB.size⟩

/-! ### cursor_New: function 68 -/
def cursor_New.f (l0 : List Int) : Option (ByteArray × Int × Int) := some (strOfNums l0, 0, 0)
set_option maxHeartbeats 8000000 in
set_option maxRecDepth 100000 in
theorem cursor_New.calls (A0 : Option Addr) (c0 : Nat) (l0 : List Int) (r1 : ByteArray) (r2 : Int) (r3 : Int) (w0 w : World) (hB : Below w0.heap.size w0 w) (hr0 : Kd.C (Kd.int .u8) w A0 l0.length l0) (hc0 : l0.length ≤ c0) (h : cursor_New.f l0 = some (r1, r2, r3)) :
    Calls Try.prog 68 #[.slice A0 l0.length c0] w fun e w' => ∃ g_ : Nat, e = .returned (.pointer (some ⟨g_, 0, none⟩)) ∧ IsS157 w0 w' g_ r1 r2 r3 ∧ Below w0.heap.size w0 w' ∧ Below w.heap.size w w' := by
  have hu157 := Try.underlying157
  have HR0 := Aside0.mk hr0
  have HC0 := Aside0.mk hc0
  clear hr0 hc0
  have HBW := Aside0.mk (Below.refl w.heap.size w)
  have HW0 := Aside0.mk hB.size
  have HB := Aside0.mk hB
  clear hB
  have H : (some (strOfNums l0, 0, 0)) = some (r1, r2, r3) := h
  clear h
  simp only [Option.some.injEq, Prod.mk.injEq] at H
  obtain ⟨rfl, rfl, rfl⟩ := H
  have hcv2 := Kd.C_string (P := Try.prog) (A := A0) (c := c0) Try.underlying71 Try.underlying5 Try.underlying9 HR0.out
  have hcv4 := fun m_ : Nat => Kd.C_string (P := Try.prog) (A := A0) (c := c0) Try.underlying71 Try.underlying5 Try.underlying9 (Kd.C_drewN HR0.out m_)
  go_enter Try.func68, Try.ntmps68
  go_wp2_with (first | ((with_reducible refine gate_dst (N := 6) rfl ?_); refine box_event ?hg (N := 6) ?hd (cs := #[.string (strOfNums l0), .int .i64 0, .int .i64 0]) (t := 157) ?hr ?_; (case hd => rfl); (case hg => rfl); (case hr => first | (go_simp; done) | (go_simp; rfl)); intro gb199 hg w5 hbox hb; have n0_ := Aside0.mk (below_step HBW.out hb); have n1_ := Aside0.mk (below_step (by repeat (first | (with_reducible first | exact HB.out | apply below_alloc | apply pw_below_drewN | apply below_drew1) | exact HB.out)) hb); have n2_ := Aside0.mk (hbox); have n3_ := Aside0.mk ((by rw [hg]; exact (below_size (by repeat (first | (with_reducible first | exact HBW.out | apply below_alloc | apply pw_below_drewN | apply below_drew1) | exact HBW.out))) : w.heap.size ≤ gb199)); have n4_ := Aside0.mk ((Nat.le_trans HW0.out (by rw [hg]; exact (below_size (by repeat (first | (with_reducible first | exact HBW.out | apply below_alloc | apply pw_below_drewN | apply below_drew1) | exact HBW.out))) : w.heap.size ≤ gb199) : w0.heap.size ≤ gb199)); clear HBW; clear HB; have HBW := n0_; have HB := n1_; have BK199 := n2_; have GW199 := n3_; have GE199 := n4_; clear n0_ n1_ n2_ n3_ n4_; clear hb hbox hg))
  go_ret
  exact ⟨_, rfl, (show IsS157 w0 _ gb199 (strOfNums l0) 0 0 from ⟨by (with_reducible repeat (first | refine blk_drewN ?_ _ | refine blk_drew ?_ | refine blk_alloc ?_ _)); exact BK199.out, GE199.out⟩), by repeat (first | (with_reducible first | exact HB.out | apply below_alloc | apply pw_below_drewN | apply below_drew1 | refine below_set ?_ GE199.out) | exact HB.out), by repeat (first | (with_reducible first | exact HBW.out | apply below_alloc | apply pw_below_drewN | apply below_drew1 | refine below_set ?_ GW199.out) | exact HBW.out)⟩

end Go.Proofs.Ytjfklfmfeghjnab.PG
