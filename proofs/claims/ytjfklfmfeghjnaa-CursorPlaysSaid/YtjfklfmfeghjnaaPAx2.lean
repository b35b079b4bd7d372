-- Contracts of Go functions, each with its plain Lean function: written by wip/tools/myprint.py of this work (the kit's print, with contracts proved by hand spliced in).
import Derived.Test.YtjfklfmfeghjnaaPAx0
namespace Go.Proofs.Ytjfklfmfeghjnaa.PA
open Go.RowKit Go.Proofs.YtjfklfmfeghjnaaW.PrintWords Go.Proofs.YtjfklfmfeghjnaaW.PrintLast Go.Proofs.YtjfklfmfeghjnaaW.PrintMore
attribute [local go_sem] max2_int min2_int max_two min_two max_three min_three max_four min_four   -- for this text's walks alone
set_option linter.unusedVariables false
set_option linter.unusedSimpArgs false

/-! ### slices_Clone_byte_byte: function 61 -/
theorem slices_Clone_byte_byte.info : (Try.prog.info? 5).map (fun i => (i.zero, i.size, i.bytes)) = some (some (.int .u8 0), 1, 1) := by kernel_rfl

set_option maxHeartbeats 8000000 in
set_option maxRecDepth 100000 in
theorem slices_Clone_byte_byte.calls0 (A0 : Option Addr) (c0 : Nat) (l0 : List Int) (w : World) (hr0 : Kd.C (Kd.int .u8) w A0 l0.length l0) (hc0 : l0.length ≤ c0) (hl : l0.length ≤ 140737488355328) :
    Calls Try.prog 61 #[.slice A0 l0.length c0] w fun e w' => ∃ v0_ : Value, e = .returned v0_ ∧ Kd.R (Kd.int .u8) 5 w' w.heap.size (fun _ => True) v0_ l0 ∧ Below w.heap.size w w' := by
  have hnil := fun (w : World) (a : Option Addr) (n c : Nat) => Lib.run_eql_slice_nil (P := Try.prog) w 27 5 a n c 0 0 Try.underlying27
  have HL := Lib.hid hl; clear hl
  cases A0 with
  | none =>
    have HR := Lib.hid hr0; clear hr0
    go_enter Try.func61, Try.ntmps61
    go_wp2
    go_ret
    have : l0 = [] := by
      cases l0 with
      | nil => rfl
      | cons x l => exfalso; obtain ⟨ad, c, e, _⟩ := Kd.C_get HR.out 0 0 (by omega) (by simp only [List.length_cons]; omega); cases e
    subst this
    exact ⟨_, rfl, Kd.R_nil _ _ _ _ _, Below.refl _ _⟩
  | some ad =>
    have HR := Lib.hid hr0; clear hr0
    have HB := Lib.hid (Below.refl w.heap.size w)
    go_enter Try.func61, Try.ntmps61
    go_wp2_with (first | ((with_reducible refine gate_dst (N := 5) rfl ?_); refine Kd.R_lit (Kd.int .u8) w.heap.size 5 ?hg (N := 5) ?hd (w0 := w) (xs := ([] : List Int)) (inner := []) (ok := fun _ => True) (okp := fun _ => True) ?hr ?hp (fun _ hk => hk) trivial (Below.refl _ _) (Nat.le_refl _) (by simp) ?_; (case hd => rfl); (case hg => rfl); (case hr => first | (go_simp; done) | (go_simp; rfl)); (case hp => exact (Reps.none _ _)); intro v1 w1 h1 h2 h3 h4; have H1 := Lib.hid h1; have H2 := Lib.hid h2; clear h1 h2 h3 h4) | ((with_reducible refine gate_dst (N := 7) rfl ?_); refine Kd.R_append_row (Value.int .u8) 0 (w0 := w) w.heap.size rfl (.tmp 5) (.tmp 6) 27 5 (.int .u8 0) 1 rfl Try.underlying27 slices_Clone_byte_byte.info rfl (by decide) _ [] l0 _ _ _ (fun _ => True) rfl rfl (fun _ _ => trivial) H1.out (Kd.C_below HR.out H2.out) H2.out H2.out.size ?hl ?_; (case hl => have := HL.out; simp; omega); intro v2 w2 h1 h2 h3 h4; have H3 := Lib.hid h1; have H4 := Lib.hid h2; clear h1 h2 h3 h4))
    go_ret
    exact ⟨_, rfl, H3.out, H4.out⟩
def slices_Clone_byte_byte.f (l0 : List Int) : Option (List Int) := if l0.length ≤ 140737488355328 then some l0 else none
theorem slices_Clone_byte_byte.calls (A0 : Option Addr) (c0 : Nat) (l0 : List Int) (r : List Int) (w : World) (hr0 : Kd.C (Kd.int .u8) w A0 l0.length l0) (hc0 : l0.length ≤ c0) (h : slices_Clone_byte_byte.f l0 = some r) :
    Calls Try.prog 61 #[.slice A0 l0.length c0] w fun e w' => ∃ v0_ : Value, e = .returned v0_ ∧ Kd.R (Kd.int .u8) 5 w' w.heap.size (fun _ => True) v0_ r ∧ Below w.heap.size w w' := by
  unfold slices_Clone_byte_byte.f at h
  split at h
  · obtain rfl := Option.some.inj h
    exact slices_Clone_byte_byte.calls0 A0 c0 l0 w hr0 hc0 (by assumption)
  · cases h

-- NOT PRINTED: function 62 (wire_groups)

/-! ### wire_Put: function 22 -/
section
open Go.Shelf Go.Proofs.YtjfklfmfeghjnaaAid
attribute [local go_sem] Oper.semAt_some
def wbytes (m : Nat) : List Int := if h : m < 128 then [(m : Int)] else ((m % 128 + 128 : Nat) : Int) :: wbytes (m / 128)
termination_by m
decreasing_by omega

theorem wire_Put.or128 (m : Nat) : Go.bits .or .u8 ((m : Int) % 256) 128 = ((m % 128 + 128 : Nat) : Int) := by
  have h : ∀ x : Fin 256, Go.bits .or .u8 ((x.val : Nat) : Int) 128 = ((x.val % 128 + 128 : Nat) : Int) := by decide +kernel
  have := h ⟨m % 256, by omega⟩
  have e : ((m % 256 : Nat) : Int) = (m : Int) % 256 := by omega
  simp only [e] at this
  rw [this]
  congr 1
  omega

set_option maxRecDepth 100000 in
set_option maxHeartbeats 1000000 in
theorem wire_groups1 (F : Fence) (n : Nat) (h6 : F.fn 76) (hro : F.round = none) (hn : 1 ≤ n) (l B : Nat) (m0 : Nat) (hm0 : m0 < 18446744073709551616) (J : List Int → World → Prop)
    (hY : ∀ pre x rest W m, pre ++ x :: rest = wbytes m0 → J pre W → Boxed W B 22 (.int .u64 m) → YieldAt F (n - 1) Try.prog l #[.int .u8 x] W fun e W' => e = .returned (.bool true) ∧ J (pre ++ [x]) W' ∧ Boxed W' B 22 (.int .u64 m))
    (hJ : ∀ pre W u v, Boxed W B 22 u → J pre W → J pre (W.setCell ⟨B, 0, none⟩ v))
    (W : World) (hB : Boxed W B 22 (.int .u64 m0)) (h0 : J [] W) :
    CallsIn F n Try.prog 76 #[.func (.yield l) #[] #[], .pointer (some ⟨B, 0, none⟩)] W fun e W' => (∃ v, e = .returned v) ∧ J (wbytes m0) W' := by
  have HY := Lib.hid hY; clear hY
  have HJ := Lib.hid hJ; clear hJ
  refine callsIn_of_wp Try.func76 rfl h6 ?_ hro
  simp only [Try.ntmps76, List.size_toArray, List.length_cons, List.length_nil, Nat.reduceAdd, Nat.reduceSub, Array.replicate_succ, Array.replicate_zero, List.push_toArray, List.append_toArray, List.nil_append, List.cons_append]
  gi_wp2
  gi_loopw [3] (fun _ wr => ∃ (pre : List Int) (m : Nat), m < 18446744073709551616 ∧ pre ++ wbytes m = wbytes m0 ∧ Boxed wr B 22 (.int .u64 m) ∧ J pre wr)
    (fun _ wr => match wr.cell? ⟨B, 0, none⟩ with | some (.int _ m) => m.toNat | _ => 0)
  case atStart => exact ⟨[], m0, hm0, rfl, hB, h0⟩
  case round =>
    obtain ⟨pre, m, hm, hpre, hb, hj⟩ := hrel
    have HP := Lib.hid hpre; clear hpre
    have hc := hb.cell
    have hf := hb.frozen
    by_cases hlt : m < 128
    · obtain ⟨fn, tmps, assign, body, hy, hR⟩ := HY.out pre m [] wr m (by rw [← HP.out, wbytes, dif_pos hlt]) hj hb
      gi_wp2
      refine hR.mono ?_
      rintro e W3 ⟨rfl, hJ3, hb3⟩
      gi_wp2
      go_end0
      have e1 : wbytes m = [(m : Int)] := by rw [wbytes, dif_pos hlt]
      rw [e1] at HP
      rw [HP.out] at hJ3
      exact ⟨⟨_, rfl⟩, hJ3⟩
    · obtain ⟨fn, tmps, assign, body, hy, hR⟩ := HY.out pre (Go.bits .or .u8 ((m : Int) % 256) 128) (wbytes (m / 128)) wr m (by rw [wire_Put.or128, ← HP.out]; congr 1; rw [wbytes.eq_1 m, dif_neg hlt]) hj hb
      gi_wp2
      refine hR.mono ?_
      rintro e W3 ⟨rfl, hJ3, hb3⟩
      have hc3 := hb3.cell
      have hf3 := hb3.frozen
      gi_wp2
      have hb4 := hb3.set (.int .u64 ((m : Int) / 128))
      have hJ4 := HJ.out _ _ _ (.int .u64 ((m : Int) / 128)) hb3 hJ3
      go_roundw
      case rel =>
        refine ⟨_, m / 128, by omega, ?_, by simpa using hb4, hJ4⟩
        have e1 : wbytes m = ((m % 128 + 128 : Nat) : Int) :: wbytes (m / 128) := by rw [wbytes, dif_neg hlt]
        have HP' := HP.out
        rw [e1] at HP'
        rw [← HP', wire_Put.or128]
        simp
      case measure =>
        have hc4 := hb4.cell
        rw [hc4, hc]
        simp
        omega

theorem wbytes_len (k : Nat) : ∀ m, m < 128 ^ (k + 1) → (wbytes m).length ≤ k + 1 := by
  induction k with
  | zero => intro m h; rw [wbytes, dif_pos (by simpa using h)]; simp
  | succ k ih =>
    intro m h
    rw [wbytes]
    split
    · simp
    · have := ih (m / 128) (by rw [Nat.pow_succ] at h; omega)
      simp; omega

theorem wire_groups0 (n : Int) (w : World) :
    Calls Try.prog 62 #[.int .u64 n] w fun e w' => e = .returned (.func (.func 76) #[] #[.pointer (some ⟨w.heap.size, 0, none⟩)]) ∧ w' = w.alloc (.cells #[.int .u64 n] 22) := by
  go_enter Try.func62, Try.ntmps62
  go_wp2
  go_ret
  exact ⟨rfl, rfl⟩

set_option maxRecDepth 100000 in
set_option maxHeartbeats 2000000 in
theorem wire_Put.calls0 (A0 : Option Addr) (c0 : Nat) (l0 : List Int) (m0 : Nat) (w : World) (hr0 : Kd.C (Kd.int .u8) w A0 l0.length l0) (hc0 : l0.length ≤ c0) (hl : l0.length ≤ 140737488355000) (hm0 : m0 < 18446744073709551616) :
    Calls Try.prog 22 #[.slice A0 l0.length c0, .int .u64 m0] w fun e w' => ∃ v0_ : Value, e = .returned v0_ ∧ Kd.R (Kd.int .u8) 5 w' w.heap.size (fun _ => True) v0_ (l0 ++ wbytes m0) ∧ Below w.heap.size w w' := by
  have HR0 := Lib.hid hr0; clear hr0
  have HC0 := Lib.hid hc0; clear hc0
  have HL0 := Lib.hid hl; clear hl
  have HM0 := Lib.hid hm0; clear hm0
  refine (callsIn_wide (n := 3)).1 ?_
  refine callsIn_of_wp_marks Try.func22 rfl trivial ?_ rfl
  simp only [Try.ntmps22, List.size_toArray, List.length_cons, List.length_nil, Nat.reduceAdd, Nat.reduceSub, Array.replicate_succ, Array.replicate_zero, List.push_toArray, List.append_toArray, List.nil_append, List.cons_append]
  gi_wp2_with (first | (refine ⟨trivial, ?_⟩; gi_at_call 61; refine (callsIn_wide.2 (slices_Clone_byte_byte.calls0 _ _ _ _ HR0.out HC0.out (by have := HL0.out; omega))).mono ?_; rintro e w1 ⟨v1, rfl, h1, h2⟩; obtain ⟨A1, c1, rfl, hl1, _⟩ := Kd.R_reads h1; have HC1 := Lib.hid hl1; clear hl1; have H1 := Lib.hid h1; have H2 := Lib.hid h2; clear h1 h2) | (refine ⟨trivial, ?_⟩; gi_at_call 62; refine (callsIn_wide.2 (wire_groups0 _ _)).mono ?_; rintro e w2 ⟨rfl, rfl⟩))
  obtain ⟨W0, hW0⟩ : ∃ W0, (w1.alloc (.cells #[.slice A1 l0.length c1] 27)).alloc (.cells #[.int .u64 m0] 22) = W0 := ⟨_, rfl⟩
  have hs0 : W0.heap.size = w1.heap.size + 2 := by rw [← hW0]; simp
  have hbo : Boxed W0 w1.heap.size 27 (.slice A1 l0.length c1) := by rw [← hW0]; exact (Boxed.new _ _ _).alloc _
  have hbn : Boxed W0 (w1.heap.size + 1) 22 (.int .u64 m0) := by rw [← hW0]; have := Boxed.new (w1.alloc (.cells #[.slice A1 l0.length c1] 27)) 22 (.int .u64 m0); rwa [World.size_alloc] at this
  have hle1 : w.heap.size ≤ w1.heap.size := H2.out.size
  have hrow : W0.ownsRow w.heap.size 5 1 (.slice A1 l0.length c1) l0.length (nums .u8 l0) := by rw [← hW0]; exact ((Kd.own_of_R H1.out).alloc _).alloc _
  have hbel : Below w.heap.size w W0 := by rw [← hW0]; exact (H2.out.alloc H2.out.size _).alloc (by simp; omega) _
  have HS0 := Lib.hid hs0
  have HRW := Lib.hid hrow
  have HBL := Lib.hid hbel
  rw [hW0]
  clear hW0 hrow hbel hs0
  refine range_on rfl (by omega) (gf := 76) (lb := #[.pointer (some ⟨w1.heap.size + 1, 0, none⟩)]) rfl trivial (enters_of Try.func76 (by kernel_rfl) rfl) ?_
  intro fn REC hfn hrec
  refine (wire_groups1 Fence.wide 2 trivial rfl (by omega) (W0.heap.size + 1) (w1.heap.size + 1) m0 HM0.out
    (fun pre W => (∃ v, Boxed W w1.heap.size 27 v ∧ W.ownsRow w.heap.size 5 1 v (l0 ++ pre).length (nums .u8 (l0 ++ pre))) ∧ W.heap[W0.heap.size + 1]? = some (.loop (REC .ready)) ∧ W.heap[W0.heap.size]? = some (.deferred (some [])) ∧ Below w.heap.size w W) ?hY ?hJ _ ?hB ?h0).mono ?hd
  case hd =>
    rintro e W2 ⟨⟨vr, rfl⟩, ⟨v, h1, h2⟩, h3, h4, h5⟩
    clear hrec
    refine ⟨⟨vr, rfl⟩, h3, ?_⟩
    obtain ⟨W3, hW3⟩ : ∃ W3, W2.putObj (W0.heap.size + 1) (.loop (REC .exhausted)) = W3 := ⟨_, rfl⟩
    have hg2 : W2.grownBy W3 (some (W0.heap.size + 1)) := by rw [← hW3]; exact grownBy_putObj' _ _ _
    have j1 := h1.kept hg2 (by have := HS0.out; simp; omega)
    have j2 := ownsRow_putObj h2 (.loop (REC .exhausted)) h3 rfl
    have j4 : W3.heap[W0.heap.size]? = some (.deferred (some [])) := by rw [← hW3]; exact (World.putObj_heap_other (by omega)).trans h4
    have j5 : Below w.heap.size W2 W3 := (Below.refl _ _).grown hg2 h5.size (by intro k e; cases e; have := HS0.out; omega)
    rw [hW3] at j2 ⊢
    have k5 := h5.trans j5
    clear h1 h2 h3 h4 hg2 hW3 j5 h5
    have hc := j1.cell
    have J2 := Lib.hid j2
    have J4 := Lib.hid j4
    have K5 := Lib.hid k5
    clear j1 j2 j4 k5
    gi_wp2
    refine ⟨by simp, .inl ⟨_, _, rfl, run_takeDeferred J4.out, ?_⟩⟩
    refine ⟨_, results_tmp rfl _ _ _, v, rfl, Kd.R_of_own (ownsRow_putObj J2.out _ J4.out rfl) (fun _ _ => trivial), ?_⟩
    exact K5.out.grown (grownBy_putObj' _ _ _) K5.out.size (by intro k e; cases e; have := HS0.out; omega)
  case hB => exact (hbn.alloc _).alloc _
  case h0 =>
    refine ⟨⟨_, (hbo.alloc _).alloc _, by simpa using (HRW.out.alloc _).alloc _⟩, ?_, ?_, (HBL.out.alloc HBL.out.size _).alloc (by have := HBL.out.size; simp; omega) _⟩
    · have := World.alloc_heap_new (W0.alloc (.deferred (some []))) (.loop (REC .ready)); rwa [World.size_alloc] at this
    · exact (Below.heap_alloc _ _ _ (by simp)).trans (World.alloc_heap_new _ _)
  case hJ =>
    rintro pre W u v hb ⟨⟨v1, h1, h2⟩, h3, h4, h5⟩
    refine ⟨⟨v1, h1.other (by omega) _, h2.kept (grownBy_setCell' _ _ _) (.inr (hb.not_row (by decide) h2).symm)⟩, ?_, ?_, h5.setCell (p := ⟨w1.heap.size + 1, 0, none⟩) (by simp; omega) _⟩
    · exact (Below.heap_setCell _ _ _ _ (by have := HS0.out; simp; omega)).trans h3
    · exact (Below.heap_setCell _ _ _ _ (by have := HS0.out; simp; omega)).trans h4
  case hY =>
    rintro pre x rest W m hp ⟨⟨v1, h1, h2⟩, h3, h4, h5⟩ hb
    have hpl : pre.length + 1 ≤ 10 := by
      have := wbytes_len 9 m0 (by have := HM0.out; omega)
      rw [← hp] at this; simp at this; omega
    refine round_on (R := fun W' => (((∃ v, Boxed W' w1.heap.size 27 v ∧ W'.ownsRow w.heap.size 5 1 v (l0 ++ (pre ++ [x])).length (nums .u8 (l0 ++ (pre ++ [x])))) ∧ W'.heap[W0.heap.size + 1]? = some (.loop (REC .ready)) ∧ W'.heap[W0.heap.size]? = some (.deferred (some [])) ∧ Below w.heap.size w W') ∧ Boxed W' (w1.heap.size + 1) 22 (.int .u64 m))) hfn hrec h3 rfl ?_
    clear hrec
    gi_wp2
    refine ⟨h3, ?_⟩
    have hlt : W0.heap.size + 1 < W.heap.size := (Array.getElem?_eq_some_iff.1 h3).1
    obtain ⟨W2, hW2⟩ : ∃ W2, W.putObj (W0.heap.size + 1) (.loop (REC .busy)) = W2 := ⟨_, rfl⟩
    have hg2 : W.grownBy W2 (some (W0.heap.size + 1)) := by rw [← hW2]; exact grownBy_putObj' _ _ _
    have j1 := h1.kept hg2 (by have := HS0.out; simp; omega)
    have jb := hb.kept hg2 (by have := HS0.out; simp; omega)
    have j2 := ownsRow_putObj h2 (.loop (REC .busy)) h3 rfl
    have j3 : W2.heap[W0.heap.size + 1]? = some (.loop (REC .busy)) := by rw [← hW2]; exact World.putObj_heap_same hlt
    have j4 : W2.heap[W0.heap.size]? = some (.deferred (some [])) := by rw [← hW2]; exact (World.putObj_heap_other (by omega)).trans h4
    have j5 : Below w.heap.size W W2 := (Below.refl _ _).grown hg2 h5.size (by intro k e; cases e; have := HS0.out; omega)
    rw [hW2] at j2 ⊢
    have k5 := h5.trans j5
    clear h1 h2 h3 h4 hb hg2 hW2 j5
    have hc := j1.cell
    have hf := j1.frozen
    have J2 := Lib.hid j2
    have J3 := Lib.hid j3
    have J4 := Lib.hid j4
    have K5 := Lib.hid k5
    have J1 := Lib.hid j1
    have JB := Lib.hid jb
    clear j1 j2 j3 j4 k5 jb
    obtain ⟨A3, n3, c3, rfl⟩ : ∃ A n c, v1 = .slice A n c := by obtain ⟨A, c, e⟩ := own_slice J2.out; exact ⟨_, _, _, e⟩
    obtain ⟨i0, hi, hz0, hz1, hz2⟩ := info_parts slices_Clone_byte_byte.info
    have HL := HL0.out
    gi_wp2_with (gi_at_builtin; refine wpListIn_append_own _ rfl _ _ 27 rfl w.heap.size 5 i0 (.int .u8 0) 1 1 Try.underlying27 hi hz0 hz1 hz2 rfl (by decide) _ _ _ rfl (J2.out.alloc _) ⟨W2.heap.size, 0, none⟩ 1 1 [.int .u8 x] rfl rfl (cell_one_new _ _ _) (by simp [Value.oneCell']) ?q1 ?q2 ?q3 ?_; (case q1 => simp [maxLen]; omega); (case q2 => simp; omega); (case q3 => have := K5.out.size; simp; omega); intro v' w1' hown' hgrow _; obtain ⟨g', cap', rfl⟩ := ownsRow_succ hown'; obtain ⟨hv1, hv2, hr2, hk2, hb2⟩ := J1.out.appended (by decide) J2.out K5.out.size hle1 hown' hgrow; have hbb := (((JB.out.alloc _).kept hgrow (JB.out.not_row (by decide) J2.out)).other (B' := w1.heap.size) (by omega) (.slice (some ⟨g', 0, none⟩) ((l0 ++ pre).length + 1) cap')); have hc1 := hv1.cell; have hf1 := hv1.frozen; have X1 := Lib.hid hv2; have X2 := Lib.hid hr2; have X3 := Lib.hid hk2; have X4 := Lib.hid hb2; have X5 := Lib.hid hbb; clear hv1 hv2 hr2 hk2 hb2 hbb hown' hgrow)
    have hlen : (l0 ++ pre).length = l0.length + pre.length := List.length_append
    rw [hlen] at X1 X2 X3 X4 X5
    obtain ⟨W3, hW3⟩ : ∃ W3, w1'.setCell ⟨w1.heap.size, 0, none⟩ (.slice (some ⟨g', 0, none⟩) (l0.length + pre.length + 1) cap') = W3 := ⟨_, rfl⟩
    rw [hW3] at X1 X2 X3 X4 X5 ⊢
    have y3 := X3.out.same _ _ J3.out rfl
    have y4 := X3.out.same _ _ J4.out rfl
    have hlt3 : W0.heap.size + 1 < W3.heap.size := (Array.getElem?_eq_some_iff.1 y3).1
    have hg3 : W3.grownBy (W3.putObj (W0.heap.size + 1) (.loop (REC .ready))) (some (W0.heap.size + 1)) := grownBy_putObj' _ _ _
    have hs := HS0.out
    refine ⟨y3, ⟨⟨_, X1.out.kept hg3 (by simp; omega), ?_⟩, World.putObj_heap_same hlt3, (World.putObj_heap_other (by omega)).trans y4, ?_⟩, X5.out.kept hg3 (by simp; omega)⟩
    · have := ownsRow_putObj X2.out (.loop (REC .ready)) y3 rfl
      have e1 : nums .u8 (l0 ++ (pre ++ [x])) = nums .u8 (l0 ++ pre) ++ [.int .u8 x] := by simp [nums]
      rw [e1]
      exact this
    · exact (K5.out.trans X4.out).grown hg3 (by have := K5.out.size; have := X4.out.size; omega) (by intro k e; cases e; have := HBL.out.size; omega)
end
def wire_Put.f (l0 : List Int) (a1 : Int) : Option (List Int) := if l0.length ≤ 140737488355000 ∧ 0 ≤ a1 ∧ a1 < 18446744073709551616 then some (l0 ++ wbytes a1.toNat) else none
theorem wire_Put.calls (A0 : Option Addr) (c0 : Nat) (l0 : List Int) (a1 : Int) (r : List Int) (w : World) (hr0 : Kd.C (Kd.int .u8) w A0 l0.length l0) (hc0 : l0.length ≤ c0) (h : wire_Put.f l0 a1 = some r) :
    Calls Try.prog 22 #[.slice A0 l0.length c0, .int .u64 a1] w fun e w' => ∃ v0_ : Value, e = .returned v0_ ∧ Kd.R (Kd.int .u8) 5 w' w.heap.size (fun _ => True) v0_ r ∧ Below w.heap.size w w' := by
  unfold wire_Put.f at h
  split at h
  · rename_i hc
    obtain ⟨h1, h2, h3⟩ := hc
    obtain rfl := Option.some.inj h
    obtain ⟨m, rfl⟩ := Int.eq_ofNat_of_zero_le h2
    exact wire_Put.calls0 A0 c0 l0 m w hr0 hc0 h1 (by omega)
  · cases h

/-! ### blob_Put: function 26 -/
def blob_Put.f (l0 : List Int) (a1 : ByteArray) : Option (List Int) := (wire_Put.f l0 (IntKind.u64.wrap ((a1.size : Int)))).bind fun t101 => (if t101.length + a1.size < 140737488355328 then (some (t101 ++ bytesOf a1)) else (none))
set_option maxHeartbeats 8000000 in
set_option maxRecDepth 100000 in
theorem blob_Put.calls (A0 : Option Addr) (c0 : Nat) (l0 : List Int) (a1 : ByteArray) (r : List Int) (w : World) (hr0 : Kd.C (Kd.int .u8) w A0 l0.length l0) (hc0 : l0.length ≤ c0) (h : blob_Put.f l0 a1 = some r) :
  Calls Try.prog 26 #[.slice A0 l0.length c0,.string a1] w fun e w' => ∃ v0_ : Value,e = .returned (v0_) ∧ Kd.R (Kd.int .u8) 5 w' w.heap.size (fun _ => True) v0_ r ∧ Below w.heap.size w w':=by
 have HR0:=Aside0.mk hr0
 have HC0:=Aside0.mk hc0
 clear hr0 hc0
 have HB:=Aside0.mk (Below.refl w.heap.size w)
 have H : ((wire_Put.f l0 (IntKind.u64.wrap ((a1.size : Int)))).bind fun t101 => (if t101.length + a1.size < 140737488355328 then (some (t101 ++ bytesOf a1)) else (none))) = some r:=h
 clear h
 replace H:=Option.bind_eq_some_iff.mp H
 obtain ⟨t101,A30,H⟩:=H
 replace H : (if t101.length + a1.size < 140737488355328 then (some (t101 ++ bytesOf a1)) else (none)) = some r:=H
 have A3:=Aside0.mk A30
 clear A30
 by_cases c4 : t101.length + a1.size < 140737488355328
 ·rw [if_pos c4] at H
  have LMc4:=Aside0.mk c4
  clear c4
  obtain ⟨y104,hy104⟩ : ∃ y_ : List Int,y_ = (t101 ++ bytesOf a1):=⟨_,rfl⟩
  replace H : (some y104) = some r:=by first | (rw [hy104];with_reducible exact H) | (have H2_:=(Option.bind_some _ _).symm.trans H;rw [hy104];with_reducible exact H2_) | (have H2_:=(Option.bind_some _ _).symm.trans H;with_reducible exact H2_) | with_reducible exact H | (rw [hy104];exact H) | exact H
  have Ny104:=Aside0.mk hy104
  clear hy104
  obtain rfl:=Option.some.inj H
  go_enter Try.func26,Try.ntmps26
  go_wp2_with (first | ((with_reducible refine gate_callee (f:=22) rfl ?_);refine goesL_ (some 9) rfl rfl Try.func22 (by kernel_rfl) rfl #[.slice A0 l0.length c0,.int .u64 (IntKind.u64.wrap ((a1.size : Int)))] rfl (by (try simp only [List.map_toArray,List.map_cons,List.map_nil]);first | done | rfl | (simp only [List.length_drop,List.length_take];rfl) | (refine congrArg (fun z_ => #[z_]) (congrArg (Value.int IntKind.u64) (Eq.symm (Go.Proofs.YtjfklfmfeghjnaaAid.wrap_len _ (by omega)))))) ?_;(with_reducible refine (wire_Put.calls _ _ l0 (IntKind.u64.wrap ((a1.size : Int))) t101 _ ?side1 ?side2 A3.out).mono ?_);(case side1 => repeat (first | exact HR0.out | (with_reducible refine Kd.C_alloc ?_ _) | (with_reducible refine Kd.C_drewN ?_ _) | (with_reducible refine Kd.C_drew ?_)));(case side2 => exact HC0.out);rintro e w5 ⟨v102,rfl,ho0,hb⟩;refine ⟨_,rfl,?_⟩;have n0_:=Aside0.mk (Kd.R_lower ho0 (below_size (by repeat (first | (with_reducible first | exact HB.out | apply below_alloc | apply pw_below_drewN | apply below_drew1) | exact HB.out))));have n1_:=Aside0.mk (below_step (by repeat (first | (with_reducible first | exact HB.out | apply below_alloc | apply pw_below_drewN | apply below_drew1) | exact HB.out)) hb);clear HB;have HO103:=n0_;have HB:=n1_;clear n0_ n1_;(try clear hb);(try clear hb2);(try clear hk);(try clear hi);(try clear ho0)) | (at_builtin;refine print_append_str (w0:=w) w.heap.size rfl (.tmp 9) _ 27 9 5 rfl Try.underlying27 Try.underlying9 info5 v102 t101 a1 rfl rfl ?aO ?aB ?aS ?aL ?_;(case aB => exact (by repeat (first | (with_reducible first | exact HB.out | apply below_alloc | apply pw_below_drewN | apply below_drew1) | exact HB.out)));(case aO => exact (Kd.own_of_R (by (with_reducible repeat (first | apply Kd.R_alloc | apply Kd.R_drewN | apply Kd.R_drew));exact HO103.out)));(case aS => exact (below_size (by repeat (first | (with_reducible first | exact HB.out | apply below_alloc | apply pw_below_drewN | apply below_drew1) | exact HB.out))));(case aL => have:=LMc4.out;omega);intro v105 w6 ho0 hb hg;have ho:=Kd.R_of_own (h1:=fun _ => rfl) (ok:=fun _ => True) ho0 (fun _ _ => trivial);clear ho0;have hat:=True.intro;rw [← Ny104.out] at ho;change Kd.R (Kd.int .u8) 5 w6 w.heap.size (fun _ => True) v105 y104 at ho;have n0_:=Aside0.mk (hb);have n1_:=Aside0.mk (ho);clear HB;clear HO103;have HB:=n0_;have HO106:=n1_;clear n0_ n1_;clear ho hb hg hat))
  go_ret
  exact ⟨_,by first | rfl | (simp [errW_none,errW_some] <;> rfl) | (simp [*,errW_none,errW_some] <;> rfl),by (with_reducible repeat (first | apply Kd.R_alloc | apply Kd.R_drewN | apply Kd.R_drew));exact HO106.out,by repeat (first | (with_reducible first | exact HB.out | apply below_alloc | apply pw_below_drewN | apply below_drew1) | exact HB.out)⟩
 ·rw [if_neg c4] at H
  exact absurd H (by simp)

/-! ### tachographlaw02_fixed: function 25 -/
def tachographlaw02_fixed.f  : Option (Bool) := (blob_Put.f ([] : List Int) (⟨#[97, 98]⟩ : ByteArray)).bind fun t107 => (some ((strOfNums t107).toList == ([2, 97, 98] : List UInt8)))
set_option maxHeartbeats 8000000 in
set_option maxRecDepth 100000 in
theorem tachographlaw02_fixed.calls  (r : Bool) (w : World) (h : tachographlaw02_fixed.f  = some r) :
    Calls Try.prog 25 #[] w fun e w' => e = .returned (.bool r) ∧ Below w.heap.size w w' := by
  have HB := Aside0.mk (Below.refl w.heap.size w)
  have H : ((blob_Put.f ([] : List Int) (⟨#[97, 98]⟩ : ByteArray)).bind fun t107 => (some ((strOfNums t107).toList == ([2, 97, 98] : List UInt8)))) = some r := h
  clear h
  replace H := Option.bind_eq_some_iff.mp H
  obtain ⟨t107, A10, H⟩ := H
  replace H : (some ((strOfNums t107).toList == ([2, 97, 98] : List UInt8))) = some r := H
  have A1 := Aside0.mk A10
  clear A10
  obtain rfl := Option.some.inj H
  go_enter Try.func25, Try.ntmps25
  go_wp2_with (first | ((with_reducible refine gate_callee (f := 26) rfl ?_); refine goesL_ (some 1) rfl rfl Try.func26 (by kernel_rfl) rfl #[.slice none 0 0, .string (⟨#[97, 98]⟩ : ByteArray)] rfl (by (try simp only [List.map_toArray, List.map_cons, List.map_nil]); first | done | rfl | (simp only [List.length_drop, List.length_take]; rfl) | (refine congrArg (fun z_ => #[z_]) (congrArg (Value.int IntKind.u64) (Eq.symm (Go.Proofs.YtjfklfmfeghjnaaAid.wrap_len _ (by omega)))))) ?_; (refine (blob_Put.calls _ _ ([] : List Int) (⟨#[97, 98]⟩ : ByteArray) t107 _ ?side1 ?side2 A1.out).mono ?_); (case side1 => exact Kd.C_nil _ _); (case side2 => exact Nat.le_refl _); rintro e w2 ⟨v108, rfl, ho0, hb⟩; refine ⟨_, rfl, ?_⟩; have n0_ := Aside0.mk (Kd.R_lower ho0 (below_size (by repeat (first | (with_reducible first | exact HB.out | apply below_alloc | apply pw_below_drewN | apply below_drew1) | exact HB.out)))); have n1_ := Aside0.mk (below_step (by repeat (first | (with_reducible first | exact HB.out | apply below_alloc | apply pw_below_drewN | apply below_drew1) | exact HB.out)) hb); clear HB; have HO109 := n0_; have HB := n1_; clear n0_ n1_; (try clear hb); (try clear hb2); (try clear hk); (try clear hi); (try clear ho0); have hcv3 := own_string (P := Try.prog) Try.underlying27 Try.underlying5 Try.underlying9 (Kd.own_of_R HO109.out)))
  go_ret
  exact ⟨by first | rfl | (simp [errW_none, errW_some] <;> rfl) | (simp [*, errW_none, errW_some] <;> rfl), by repeat (first | (with_reducible first | exact HB.out | apply below_alloc | apply pw_below_drewN | apply below_drew1) | exact HB.out)⟩

/-! ### wire_Get: function 20 -/
mutual
def wire_Get.l0 : Nat → Int → List Int → Int → Int → Option (Int × Int × Int)
 | 0, _, _, _, _ => none
 | k + 1, x5, x8, x9, x10 => if x10 < x9 then (if 0 ≤ x10 then (if x10 < (x8.length : Int) then (if 0 ≤ (wrap64 (7 * x10)) then (if x10 = 9 then (wire_Get.j1 k (Go.bits .or .u64 x5 (shl .u64 (IntKind.u64.wrap (Go.bits .and .u8 (rd x8 x10) 127)) (wrap64 (7 * x10)))) x10 (rd x8 x10) x8 x9 x10 (decide ((rd x8 x10) > 1))) else (wire_Get.j1 k (Go.bits .or .u64 x5 (shl .u64 (IntKind.u64.wrap (Go.bits .and .u8 (rd x8 x10) 127)) (wrap64 (7 * x10)))) x10 (rd x8 x10) x8 x9 x10 false)) else (none)) else (none)) else (none)) else (some (0, 0, 2))
def wire_Get.j1 : Nat → Int → Int → Int → List Int → Int → Int → Bool → Option (Int × Int × Int)
 | 0, _, _, _, _, _, _, _ => none
 | k + 1, x5, x6, x7, x8, x9, x10, x23 => if x23 = true then (some (0, 0, 3)) else (if x7 ≥ 128 then (wire_Get.l0 k x5 x8 x9 (wrap64 (x10 + 1))) else (if x7 = 0 then (if x6 > 0 then (some (0, 0, 4)) else (some (x5, wrap64 (x6 + 1), 0))) else (some (x5, wrap64 (x6 + 1), 0))))
end
def wire_Get.f (k : Nat) (l0 : List Int) : Option (Int × Int × Int) := wire_Get.l0 k 0 l0 (l0.length : Int) 0
theorem wire_Get.mono_l : ∀ k, (∀ y0 y1 y2 y3, LeO (wire_Get.l0 k y0 y1 y2 y3) (wire_Get.l0 (k + 1) y0 y1 y2 y3)) ∧ (∀ y0 y1 y2 y3 y4 y5 y6, LeO (wire_Get.j1 k y0 y1 y2 y3 y4 y5 y6) (wire_Get.j1 (k + 1) y0 y1 y2 y3 y4 y5 y6))
 | 0 => ⟨fun _ _ _ _ r h => by simp [wire_Get.l0] at h, fun _ _ _ _ _ _ _ r h => by simp [wire_Get.j1] at h⟩
 | k + 1 => by
  obtain ⟨ih0, ih1⟩ := wire_Get.mono_l k
  refine ⟨?_, ?_⟩
  ·intro y0 y1 y2 y3
   unfold wire_Get.l0
   repeat' first
   | (with_reducible exact ih0 _ _ _ _)
   | (with_reducible exact ih1 _ _ _ _ _ _ _)
   | (with_reducible exact LeO.refl _)
   | (with_reducible exact LeO.none _)
   | (with_reducible refine LeO.ite ?_ ?_)
   | (with_reducible refine LeO.bind ?_ (fun _ => ?_))
   | exact ih0 _ _ _ _
   | exact ih1 _ _ _ _ _ _ _
   | exact LeO.none _
   | refine LeO.ite ?_ ?_
   | refine LeO.bind ?_ (fun _ => ?_)
  ·intro y0 y1 y2 y3 y4 y5 y6
   unfold wire_Get.j1
   repeat' first
   | (with_reducible exact ih0 _ _ _ _)
   | (with_reducible exact ih1 _ _ _ _ _ _ _)
   | (with_reducible exact LeO.refl _)
   | (with_reducible exact LeO.none _)
   | (with_reducible refine LeO.ite ?_ ?_)
   | (with_reducible refine LeO.bind ?_ (fun _ => ?_))
   | exact ih0 _ _ _ _
   | exact ih1 _ _ _ _ _ _ _
   | exact LeO.none _
   | refine LeO.ite ?_ ?_
   | refine LeO.bind ?_ (fun _ => ?_)
theorem wire_Get.mono : ∀ a0 k, LeO (wire_Get.f k a0) (wire_Get.f (k + 1) a0) := by
 intro a0 k
 obtain ⟨ih0, ih1⟩ := wire_Get.mono_l k
 unfold wire_Get.f
 repeat' first
   | (with_reducible exact ih0 _ _ _ _)
   | (with_reducible exact ih1 _ _ _ _ _ _ _)
   | (with_reducible exact LeO.refl _)
   | (with_reducible exact LeO.none _)
   | (with_reducible refine LeO.ite ?_ ?_)
   | (with_reducible refine LeO.bind ?_ (fun _ => ?_))
   | exact ih0 _ _ _ _
   | exact ih1 _ _ _ _ _ _ _
   | exact LeO.none _
   | refine LeO.ite ?_ ?_
   | refine LeO.bind ?_ (fun _ => ?_)
set_option maxHeartbeats 8000000 in
set_option maxRecDepth 100000 in
theorem wire_Get.calls (k : Nat) (A0 : Option Addr) (c0 : Nat) (l0 : List Int) (r1 : Int) (r2 : Int) (r3 : Int) (w : World) (hr0 : Kd.C (Kd.int .u8) w A0 l0.length l0) (hc0 : l0.length ≤ c0) (h : wire_Get.f k l0 = some (r1,r2,r3)) :
  Calls Try.prog 20 #[.slice A0 l0.length c0] w fun e w' => e = .returned (.tuple #[.int .u64 r1,.int .i64 r2,.int .i64 r3]) ∧ Drawn0 w w':=by
 have HR0:=Aside0.mk hr0
 have HC0:=Aside0.mk hc0
 clear hr0 hc0
 have H : (wire_Get.l0 k 0 l0 (l0.length : Int) 0) = some (r1,r2,r3):=h
 clear h
 have H':=Aside0.mk H
 clear H
 go_enter Try.func20,Try.ntmps20
 go_wp2
 go_loopg [5,10] k (fun kq v5 v10 w' => ∃ (x5_1 : Int) (x10_1 : Int),v5 = .int .u64 x5_1 ∧ v10 = .int .i64 x10_1 ∧ Aside0 (wire_Get.l0 kq x5_1 l0 (l0.length : Int) x10_1 = some (r1,r2,r3)) ∧ Aside0 (kq ≤ k) ∧ Drawn0 w w')
 case atStart => exact ⟨(0),(0),(by first | rfl | (simp;done) | (simp [*];done)),(by first | rfl | (simp;done) | (simp [*];done)),H',⟨Nat.le_refl _⟩,by repeat (first | exact Drawn0.refl _ | apply Drawn0.step)⟩
 case round =>
  clear H'
  obtain ⟨x5_1,x10_1,rfl,rfl,HA,HK1,⟨m1,rfl⟩⟩:=hrel
  cases gk with
  | zero => exact absurd HA.out (by simp [wire_Get.l0])
  | succ k1 =>
   have H:=HA.out
   clear HA
   simp only [wire_Get.l0] at H
   by_cases c2 : x10_1 < (l0.length : Int)
   ·rw [if_pos c2] at H
    have c2b0 : decide (x10_1 < (l0.length : Int)) = true:=decide_eq_true c2
    clear c2
    by_cases c3 : 0 ≤ x10_1
    ·rw [if_pos c3] at H
     have c3b0 : decide (0 ≤ x10_1) = true:=decide_eq_true c3
     clear c3
     by_cases c4 : x10_1 < (l0.length : Int)
     ·rw [if_pos c4] at H
      have c4b0 : decide (x10_1 < (l0.length : Int)) = true:=decide_eq_true c4
      clear c4
      obtain ⟨ji5,hji5⟩ : ∃ j_ : Int,(wrap64 (7 * x10_1)) = j_:=⟨_,rfl⟩
      replace H : (if 0 ≤ (ji5) then (if x10_1 = 9 then (wire_Get.j1 k1 (Go.bits .or .u64 x5_1 (shl .u64 (IntKind.u64.wrap (Go.bits .and .u8 (rd l0 x10_1) 127)) (ji5))) x10_1 (rd l0 x10_1) l0 (l0.length : Int) x10_1 (decide ((rd l0 x10_1) > 1))) else (wire_Get.j1 k1 (Go.bits .or .u64 x5_1 (shl .u64 (IntKind.u64.wrap (Go.bits .and .u8 (rd l0 x10_1) 127)) (ji5))) x10_1 (rd l0 x10_1) l0 (l0.length : Int) x10_1 false)) else (none)) = some (r1,r2,r3):=by first | (rw [hji5] at H;exact H) | (simp only [hji5] at H ⊢;exact H)
      have hji5w : (IntKind.i64.wrap (7 * x10_1)) = ji5:=(i64_w _).trans hji5
      by_cases c6 : 0 ≤ (ji5)
      ·rw [if_pos c6] at H
       have c6b0:=eq_true c6
       have c6b1 : decide (0 ≤ (ji5)) = true:=decide_eq_true c6
       clear c6
       obtain ⟨ji7,hji7⟩ : ∃ j_ : Int,(shl .u64 (IntKind.u64.wrap (Go.bits .and .u8 (rd l0 x10_1) 127)) (ji5)) = j_:=⟨_,rfl⟩
       replace H : (if x10_1 = 9 then (wire_Get.j1 k1 (Go.bits .or .u64 x5_1 (ji7)) x10_1 (rd l0 x10_1) l0 (l0.length : Int) x10_1 (decide ((rd l0 x10_1) > 1))) else (wire_Get.j1 k1 (Go.bits .or .u64 x5_1 (ji7)) x10_1 (rd l0 x10_1) l0 (l0.length : Int) x10_1 false)) = some (r1,r2,r3):=by first | (rw [hji7] at H;exact H) | (simp only [hji7] at H ⊢;exact H)
       have hji7_ : (IntKind.u64.wrap ((IntKind.u64.wrap (Go.bits .and .u8 (rd l0 x10_1) 127)) * 2 ^ min (ji5).toNat 64)) = ji7:=hji7
       have hji7z : (ji5) ≤ 64 → (IntKind.u64.wrap ((IntKind.u64.wrap (Go.bits .and .u8 (rd l0 x10_1) 127)) * 2 ^ (ji5).toNat)) = ji7:=shl_small hji7
       have HC8:=Aside0.mk H
       clear H
       have p110 : 0 ≤ (x10_1 : Int):=of_decide_eq_true (by first | (with_reducible assumption) | assumption)
       have q110 : x10_1 < (l0.length : Int):=of_decide_eq_true (by first | (with_reducible assumption) | assumption)
       obtain ⟨ad110,e110,hx110_0⟩:=Kd.at_int HR0.out x10_1 p110 q110
       cases e110
       replace p110:=eq_true p110
       replace q110:=eq_true q110
       go_upto_region 6 with (fail)
       go_cut [23] (fun v23 wc => ∃ (kq : Nat) (x23_7 : Bool),v23 = .bool x23_7 ∧ Aside0 (wire_Get.j1 kq (Go.bits .or .u64 x5_1 (ji7)) x10_1 (rd l0 x10_1) l0 (l0.length : Int) x10_1 x23_7 = some (r1,r2,r3)) ∧ Aside0 (kq ≤ k1) ∧ Drawn0 w wc)
       case first =>
        have H:=HC8.out
        clear HC8
        by_cases c9 : x10_1 = 9
        ·rw [if_pos c9] at H
         have c9b0 : (x10_1 == 9) = true:=beq_iff_eq.mpr c9
         have c9b1 : (x10_1 != 9) = false:=bne_eq_false_iff_eq.mpr c9
         clear c9
         (first | rw [c9b0] | (simp only [i64_w,i32_w];rw [c9b0]) | skip)
         have H':=Aside0.mk H
         clear H
         go_wp2
         go_meet
         case rel => exact ⟨_,(decide ((rd l0 x10_1) > 1)),(by first | rfl | (simp;done) | (simp [*];done)),H',⟨by have:=HK1.out;first | omega | exact Nat.le_refl _⟩,by repeat (first | exact Drawn0.refl _ | apply Drawn0.step)⟩
        ·rw [if_neg c9] at H
         have c9b0 : (x10_1 == 9) = false:=beq_eq_false_iff_ne.mpr c9
         have c9b1 : (x10_1 != 9) = true:=bne_iff_ne.mpr c9
         (first | rw [c9b0] | (simp only [i64_w,i32_w];rw [c9b0]) | skip)
         have H':=Aside0.mk H
         clear H
         go_wp2
         go_meet
         case rel => exact ⟨_,(false),(by first | rfl | (simp;done) | (simp [*];done)),H',⟨by have:=HK1.out;first | omega | exact Nat.le_refl _⟩,by repeat (first | exact Drawn0.refl _ | apply Drawn0.step)⟩
       case rest =>
        clear HC8
        try clear p1
        try clear q1
        try clear hx1
        try clear c2
        try clear c2b0
        try clear p2
        try clear c3
        try clear c3b0
        try clear c4
        try clear c4b0
        try clear c6
        try clear c6b0
        try clear c6b1
        try clear p6
        try clear c9
        try clear c9b0
        try clear c9b1
        try clear hx110_0
        try clear p110
        try clear q110
        obtain ⟨kq,x23_7,rfl,HA,HJ7,⟨mc7,rfl⟩⟩:=hcut
        cases kq with
        | zero => exact absurd HA.out (by simp [wire_Get.j1])
        | succ kj7 =>
         have H:=HA.out
         clear HA
         simp only [wire_Get.j1] at H
         by_cases c10 : x23_7 = true
         ·subst c10
          have H1 : (some (0,0,3)) = some (r1,r2,r3):=by rw [if_pos rfl] at H;exact H
          clear H
          have H:=H1
          clear H1
          simp only [Option.some.injEq,Prod.mk.injEq] at H
          obtain ⟨rfl,rfl,rfl⟩:=H
          go_wp2
          go_ret3
          exact ⟨by first | rfl | (simp;done) | (simp only [← hji5,← hji7] <;> (first | rfl | simp)) | (simp [*];done),by repeat (first | exact Drawn0.refl _ | apply Drawn0.step)⟩
         ·replace c10:=Bool.eq_false_iff.mpr c10
          subst c10
          have H1 : (if (rd l0 x10_1) ≥ 128 then (wire_Get.l0 kj7 (Go.bits .or .u64 x5_1 (ji7)) l0 (l0.length : Int) (wrap64 (x10_1 + 1))) else (if (rd l0 x10_1) = 0 then (if x10_1 > 0 then (some (0,0,4)) else (some ((Go.bits .or .u64 x5_1 (ji7)),wrap64 (x10_1 + 1),0))) else (some ((Go.bits .or .u64 x5_1 (ji7)),wrap64 (x10_1 + 1),0)))) = some (r1,r2,r3):=by rw [if_neg (show ¬ (false = true) by decide)] at H;exact H
          clear H
          have H:=H1
          clear H1
          by_cases c11 : (rd l0 x10_1) ≥ 128
          ·rw [if_pos c11] at H
           have c11b0 : decide (128 ≤ (rd l0 x10_1)) = true:=decide_eq_true c11
           clear c11
           have H':=Aside0.mk H
           clear H
           go_wp2
           go_roundg kj7
           case measure => have:=HK1.out;have:=HJ7.out;omega
           case rel => exact ⟨((Go.bits .or .u64 x5_1 (ji7))),(wrap64 (x10_1 + 1)),(by first | rfl | (simp;done) | (simp only [← hji7] <;> (first | rfl | simp)) | (simp [*];done)),(by first | rfl | (simp;done) | (simp [*];done)),H',⟨by have:=HK1.out;have:=HJ7.out;omega⟩,by repeat (first | exact Drawn0.refl _ | apply Drawn0.step)⟩
          ·rw [if_neg c11] at H
           have c11b0 : decide (128 ≤ (rd l0 x10_1)) = false:=decide_eq_false c11
           clear c11
           by_cases c12 : (rd l0 x10_1) = 0
           ·rw [if_pos c12] at H
            have c12b0 : ((rd l0 x10_1) == 0) = true:=beq_iff_eq.mpr c12
            have c12b1 : ((rd l0 x10_1) != 0) = false:=bne_eq_false_iff_eq.mpr c12
            clear c12
            by_cases c13 : x10_1 > 0
            ·rw [if_pos c13] at H
             have c13b0 : decide (0 < x10_1) = true:=decide_eq_true c13
             clear c13
             simp only [Option.some.injEq,Prod.mk.injEq] at H
             obtain ⟨rfl,rfl,rfl⟩:=H
             go_wp2
             go_ret3
             exact ⟨by first | rfl | (simp;done) | (simp only [← hji5,← hji7] <;> (first | rfl | simp)) | (simp [*];done),by repeat (first | exact Drawn0.refl _ | apply Drawn0.step)⟩
            ·rw [if_neg c13] at H
             have c13b0 : decide (0 < x10_1) = false:=decide_eq_false c13
             clear c13
             simp only [Option.some.injEq,Prod.mk.injEq] at H
             obtain ⟨rfl,rfl,rfl⟩:=H
             go_wp2
             go_ret3
             exact ⟨by first | rfl | (simp;done) | (simp only [← hji5,← hji7] <;> (first | rfl | simp)) | (simp [*];done),by repeat (first | exact Drawn0.refl _ | apply Drawn0.step)⟩
           ·rw [if_neg c12] at H
            have c12b0 : ((rd l0 x10_1) == 0) = false:=beq_eq_false_iff_ne.mpr c12
            have c12b1 : ((rd l0 x10_1) != 0) = true:=bne_iff_ne.mpr c12
            simp only [Option.some.injEq,Prod.mk.injEq] at H
            obtain ⟨rfl,rfl,rfl⟩:=H
            go_wp2
            go_ret3
            exact ⟨by first | rfl | (simp;done) | (simp only [← hji5,← hji7] <;> (first | rfl | simp)) | (simp [*];done),by repeat (first | exact Drawn0.refl _ | apply Drawn0.step)⟩
      ·rw [if_neg c6] at H
       exact absurd H (by simp)
     ·rw [if_neg c4] at H
      exact absurd H (by simp)
    ·rw [if_neg c3] at H
     exact absurd H (by simp)
   ·rw [if_neg c2] at H
    have c2b0 : decide (x10_1 < (l0.length : Int)) = false:=decide_eq_false c2
    clear c2
    simp only [Option.some.injEq,Prod.mk.injEq] at H
    obtain ⟨rfl,rfl,rfl⟩:=H
    go_wp2
    go_ret3
    exact ⟨by first | rfl | (simp;done) | (simp [*];done),by repeat (first | exact Drawn0.refl _ | apply Drawn0.step)⟩

/-! ### blob_Get: function 27 -/
def blob_Get.f (k : Nat) (l0 : List Int) (a1 : Int) : Option (ByteArray × Int × Int) := (wire_Get.f k l0).bind fun bt111 => (if bt111.2.2 = 0 then (if bt111.1 > (IntKind.u64.wrap (mx a1 0)) then (some ((⟨#[]⟩ : ByteArray), 0, 6)) else (if bt111.1 > (IntKind.u64.wrap (wrap64 ((l0.length : Int) - bt111.2.1))) then (some ((⟨#[]⟩ : ByteArray), 0, 2)) else (if 0 ≤ bt111.2.1 then (if bt111.2.1 ≤ (wrap64 (bt111.2.1 + (wrap64 (bt111.1)))) then (if (wrap64 (bt111.2.1 + (wrap64 (bt111.1)))) ≤ (l0.length : Int) then (some (strOfNums ((l0.take ((wrap64 (bt111.2.1 + (wrap64 (bt111.1)))) : Int).toNat).drop (bt111.2.1 : Int).toNat), wrap64 (bt111.2.1 + (wrap64 (bt111.1))), 0)) else (none)) else (none)) else (none)))) else (some ((⟨#[]⟩ : ByteArray), 0, bt111.2.2)))
theorem blob_Get.mono : ∀ a0 a1 k, LeO (blob_Get.f k a0 a1) (blob_Get.f (k + 1) a0 a1) := by
 intro a0 a1 k
 unfold blob_Get.f
 repeat' first
   | (with_reducible exact wire_Get.mono _ _)
   | (with_reducible exact LeO.refl _)
   | (with_reducible exact LeO.none _)
   | (with_reducible refine LeO.ite ?_ ?_)
   | (with_reducible refine LeO.bind ?_ (fun _ => ?_))
   | exact wire_Get.mono _ _
   | exact LeO.none _
   | refine LeO.ite ?_ ?_
   | refine LeO.bind ?_ (fun _ => ?_)
set_option maxHeartbeats 8000000 in
set_option maxRecDepth 100000 in
theorem blob_Get.calls (k : Nat) (A0 : Option Addr) (c0 : Nat) (l0 : List Int) (a1 : Int) (r1 : ByteArray) (r2 : Int) (r3 : Int) (w : World) (hr0 : Kd.C (Kd.int .u8) w A0 l0.length l0) (hc0 : l0.length ≤ c0) (h : blob_Get.f k l0 a1 = some (r1,r2,r3)) :
  Calls Try.prog 27 #[.slice A0 l0.length c0,.int .i64 a1] w fun e w' => e = .returned (.tuple #[.string r1,.int .i64 r2,.int .i64 r3]) ∧ Below w.heap.size w w':=by
 have HR0:=Aside0.mk hr0
 have HC0:=Aside0.mk hc0
 clear hr0 hc0
 have HB:=Aside0.mk (Below.refl w.heap.size w)
 have H : ((wire_Get.f k l0).bind fun bt111 => (if bt111.2.2 = 0 then (if bt111.1 > (IntKind.u64.wrap (mx a1 0)) then (some ((⟨#[]⟩ : ByteArray),0,6)) else (if bt111.1 > (IntKind.u64.wrap (wrap64 ((l0.length : Int) - bt111.2.1))) then (some ((⟨#[]⟩ : ByteArray),0,2)) else (if 0 ≤ bt111.2.1 then (if bt111.2.1 ≤ (wrap64 (bt111.2.1 + (wrap64 (bt111.1)))) then (if (wrap64 (bt111.2.1 + (wrap64 (bt111.1)))) ≤ (l0.length : Int) then (some (strOfNums ((l0.take ((wrap64 (bt111.2.1 + (wrap64 (bt111.1)))) : Int).toNat).drop (bt111.2.1 : Int).toNat),wrap64 (bt111.2.1 + (wrap64 (bt111.1))),0)) else (none)) else (none)) else (none)))) else (some ((⟨#[]⟩ : ByteArray),0,bt111.2.2)))) = some (r1,r2,r3):=h
 clear h
 replace H:=Option.bind_eq_some_iff.mp H
 obtain ⟨⟨t111,t112,t113⟩,A30,H⟩:=H
 replace H : (if t113 = 0 then (if t111 > (IntKind.u64.wrap (mx a1 0)) then (some ((⟨#[]⟩ : ByteArray),0,6)) else (if t111 > (IntKind.u64.wrap (wrap64 ((l0.length : Int) - t112))) then (some ((⟨#[]⟩ : ByteArray),0,2)) else (if 0 ≤ t112 then (if t112 ≤ (wrap64 (t112 + (wrap64 (t111)))) then (if (wrap64 (t112 + (wrap64 (t111)))) ≤ (l0.length : Int) then (some (strOfNums ((l0.take ((wrap64 (t112 + (wrap64 (t111)))) : Int).toNat).drop (t112 : Int).toNat),wrap64 (t112 + (wrap64 (t111))),0)) else (none)) else (none)) else (none)))) else (some ((⟨#[]⟩ : ByteArray),0,t113))) = some (r1,r2,r3):=H
 have A3:=Aside0.mk A30
 clear A30
 by_cases c4 : t113 = 0
 ·rw [if_pos c4] at H
  have c4b0 : (t113 == 0) = true:=beq_iff_eq.mpr c4
  have c4b1 : (t113 != 0) = false:=bne_eq_false_iff_eq.mpr c4
  clear c4
  obtain ⟨ji5,hji5⟩ : ∃ j_ : Int,(mx a1 0) = j_:=⟨_,rfl⟩
  replace H : (if t111 > (IntKind.u64.wrap (ji5)) then (some ((⟨#[]⟩ : ByteArray),0,6)) else (if t111 > (IntKind.u64.wrap (wrap64 ((l0.length : Int) - t112))) then (some ((⟨#[]⟩ : ByteArray),0,2)) else (if 0 ≤ t112 then (if t112 ≤ (wrap64 (t112 + (wrap64 (t111)))) then (if (wrap64 (t112 + (wrap64 (t111)))) ≤ (l0.length : Int) then (some (strOfNums ((l0.take ((wrap64 (t112 + (wrap64 (t111)))) : Int).toNat).drop (t112 : Int).toNat),wrap64 (t112 + (wrap64 (t111))),0)) else (none)) else (none)) else (none)))) = some (r1,r2,r3):=by first | (rw [hji5] at H;exact H) | (simp only [hji5] at H ⊢;exact H)
  (try rw [hji5] at A3)
  (try (have hji5l : 0 ≤ ji5:=by (rw [← hji5];unfold mx;(repeat' split) <;> omega)))
  (try (have hji5m : 0 ≤ ji5:=by omega))
  have hji5_ : (if a1 < 0 then 0 else a1) = ji5:=hji5
  by_cases c6 : t111 > (IntKind.u64.wrap (ji5))
  ·rw [if_pos c6] at H
   have c6b0 : decide ((IntKind.u64.wrap (ji5)) < t111) = true:=decide_eq_true c6
   clear c6
   simp only [Option.some.injEq,Prod.mk.injEq] at H
   obtain ⟨rfl,rfl,rfl⟩:=H
   go_enter Try.func27,Try.ntmps27
   go_wp2_with (first | ((with_reducible refine gate_callee (f:=20) rfl ?_);refine goesL_ (some 13) rfl rfl Try.func20 (by kernel_rfl) rfl #[.slice A0 l0.length c0] rfl (by (try simp only [List.map_toArray,List.map_cons,List.map_nil]);first | done | rfl | (simp only [List.length_drop,List.length_take];rfl)) ?_;(with_reducible refine (wire_Get.calls k _ _ l0 t111 t112 t113 _ ?side1 ?side2 A3.out).mono ?_);(case side1 => repeat (first | exact HR0.out | (with_reducible refine Kd.C_alloc ?_ _) | (with_reducible refine Kd.C_drewN ?_ _) | (with_reducible refine Kd.C_drew ?_)));(case side2 => exact HC0.out);rintro e w' ⟨rfl,⟨nd,rfl⟩⟩;refine ⟨_,rfl,?_⟩))
   go_ret3
   exact ⟨by first | rfl | (simp [errW_none,errW_some] <;> rfl) | (simp only [← hji5];first | rfl | (simp [errW_none,errW_some] <;> rfl)) | (simp [*,errW_none,errW_some] <;> rfl),by repeat (first | (with_reducible first | exact HB.out | apply below_alloc | apply pw_below_drewN | apply below_drew1) | exact HB.out)⟩
  ·rw [if_neg c6] at H
   have c6b0 : decide ((IntKind.u64.wrap (ji5)) < t111) = false:=decide_eq_false c6
   clear c6
   by_cases c7 : t111 > (IntKind.u64.wrap (wrap64 ((l0.length : Int) - t112)))
   ·rw [if_pos c7] at H
    have c7b0 : decide ((IntKind.u64.wrap (wrap64 ((l0.length : Int) - t112))) < t111) = true:=decide_eq_true c7
    clear c7
    simp only [Option.some.injEq,Prod.mk.injEq] at H
    obtain ⟨rfl,rfl,rfl⟩:=H
    go_enter Try.func27,Try.ntmps27
    go_wp2_with (first | ((with_reducible refine gate_callee (f:=20) rfl ?_);refine goesL_ (some 13) rfl rfl Try.func20 (by kernel_rfl) rfl #[.slice A0 l0.length c0] rfl (by (try simp only [List.map_toArray,List.map_cons,List.map_nil]);first | done | rfl | (simp only [List.length_drop,List.length_take];rfl)) ?_;(with_reducible refine (wire_Get.calls k _ _ l0 t111 t112 t113 _ ?side1 ?side2 A3.out).mono ?_);(case side1 => repeat (first | exact HR0.out | (with_reducible refine Kd.C_alloc ?_ _) | (with_reducible refine Kd.C_drewN ?_ _) | (with_reducible refine Kd.C_drew ?_)));(case side2 => exact HC0.out);rintro e w' ⟨rfl,⟨nd,rfl⟩⟩;refine ⟨_,rfl,?_⟩))
    go_ret3
    exact ⟨by first | rfl | (simp [errW_none,errW_some] <;> rfl) | (simp only [← hji5];first | rfl | (simp [errW_none,errW_some] <;> rfl)) | (simp [*,errW_none,errW_some] <;> rfl),by repeat (first | (with_reducible first | exact HB.out | apply below_alloc | apply pw_below_drewN | apply below_drew1) | exact HB.out)⟩
   ·rw [if_neg c7] at H
    have c7b0 : decide ((IntKind.u64.wrap (wrap64 ((l0.length : Int) - t112))) < t111) = false:=decide_eq_false c7
    clear c7
    by_cases c8 : 0 ≤ t112
    ·rw [if_pos c8] at H
     have c8b0:=eq_true c8
     have c8b1 : decide (0 ≤ t112) = true:=decide_eq_true c8
     clear c8
     by_cases c9 : t112 ≤ (wrap64 (t112 + (wrap64 (t111))))
     ·rw [if_pos c9] at H
      have c9b0:=eq_true c9
      have c9b1 : decide (t112 ≤ (wrap64 (t112 + (wrap64 (t111))))) = true:=decide_eq_true c9
      by_cases c10 : (wrap64 (t112 + (wrap64 (t111)))) ≤ (l0.length : Int)
      ·rw [if_pos c10] at H
       have c10b0:=eq_true c10
       have c10b1 : decide ((wrap64 (t112 + (wrap64 (t111)))) ≤ (l0.length : Int)) = true:=decide_eq_true c10
       simp only [Option.some.injEq,Prod.mk.injEq] at H
       obtain ⟨rfl,rfl,rfl⟩:=H
       go_enter Try.func27,Try.ntmps27
       go_wp2_with (first | ((with_reducible refine gate_callee (f:=20) rfl ?_);refine goesL_ (some 13) rfl rfl Try.func20 (by kernel_rfl) rfl #[.slice A0 l0.length c0] rfl (by (try simp only [List.map_toArray,List.map_cons,List.map_nil]);first | done | rfl | (simp only [List.length_drop,List.length_take];rfl)) ?_;(with_reducible refine (wire_Get.calls k _ _ l0 t111 t112 t113 _ ?side1 ?side2 A3.out).mono ?_);(case side1 => repeat (first | exact HR0.out | (with_reducible refine Kd.C_alloc ?_ _) | (with_reducible refine Kd.C_drewN ?_ _) | (with_reducible refine Kd.C_drew ?_)));(case side2 => exact HC0.out);rintro e w' ⟨rfl,⟨nd,rfl⟩⟩;refine ⟨_,rfl,?_⟩;obtain ⟨i011,hi011,_,hsz11,_⟩:=info_parts info5;obtain ⟨A11,hcut11,hA11,hC11⟩:=print_mid_of (P:=Try.prog) (Value.int .u8) 0 27 5 .i64 .i64 Try.underlying27 hi011 hsz11 A0 c0 l0 t112 (wrap64 (t112 + (wrap64 (t111)))) (of_decide_eq_true (by first | (with_reducible assumption) | assumption)) (by first | omega | exact of_decide_eq_true (by first | (with_reducible assumption) | assumption)) (of_decide_eq_true (by first | (with_reducible assumption) | assumption)) HC0.out;have HR114:=Aside0.mk (Kd.C_of_reads (h1:=fun _ => rfl) (hA11 _ (Kd.reads_of_C HR0.out)));have HC114:=Aside0.mk hC11;clear hA11 hC11 hi011 hsz11;have hcv12:=Kd.C_string (P:=Try.prog) (A:=A11) (c:=(c0 - t112.toNat)) Try.underlying27 Try.underlying5 Try.underlying9 HR114.out;have hcv14:=Kd.C_string (P:=Try.prog) (A:=A11) (c:=(c0 - t112.toNat)) Try.underlying27 Try.underlying5 Try.underlying9 HR114.out;(try rw [show ((l0.take ((wrap64 (t112 + (wrap64 (t111)))) : Int).toNat).drop (t112 : Int).toNat).length = ((wrap64 (t112 + (wrap64 (t111)))).toNat - t112.toNat) from (by rw [List.length_drop,List.length_take];have h_ : ((wrap64 (t112 + (wrap64 (t111)))) : Int) ≤ (l0.length : Int):=of_decide_eq_true (by first | (with_reducible assumption) | assumption);omega)] at hcv14);have hcv15:=fun m_ : Nat => Kd.C_string (P:=Try.prog) (A:=A11) (c:=(c0 - t112.toNat)) Try.underlying27 Try.underlying5 Try.underlying9 (Kd.C_drewN HR114.out m_);have hcv16:=fun m_ : Nat => Kd.C_string (P:=Try.prog) (A:=A11) (c:=(c0 - t112.toNat)) Try.underlying27 Try.underlying5 Try.underlying9 (Kd.C_drewN HR114.out m_);(try rw [show ((l0.take ((wrap64 (t112 + (wrap64 (t111)))) : Int).toNat).drop (t112 : Int).toNat).length = ((wrap64 (t112 + (wrap64 (t111)))).toNat - t112.toNat) from (by rw [List.length_drop,List.length_take];have h_ : ((wrap64 (t112 + (wrap64 (t111)))) : Int) ≤ (l0.length : Int):=of_decide_eq_true (by first | (with_reducible assumption) | assumption);omega)] at hcv16)))
       go_ret3
       exact ⟨by first | rfl | (simp [errW_none,errW_some] <;> rfl) | (simp only [← hji5];first | rfl | (simp [errW_none,errW_some] <;> rfl)) | (simp [*,errW_none,errW_some] <;> rfl),by repeat (first | (with_reducible first | exact HB.out | apply below_alloc | apply pw_below_drewN | apply below_drew1) | exact HB.out)⟩
      ·rw [if_neg c10] at H
       exact absurd H (by simp)
     ·rw [if_neg c9] at H
      exact absurd H (by simp)
    ·rw [if_neg c8] at H
     exact absurd H (by simp)
 ·rw [if_neg c4] at H
  have c4b0 : (t113 == 0) = false:=beq_eq_false_iff_ne.mpr c4
  have c4b1 : (t113 != 0) = true:=bne_iff_ne.mpr c4
  simp only [Option.some.injEq,Prod.mk.injEq] at H
  obtain ⟨rfl,rfl,rfl⟩:=H
  go_enter Try.func27,Try.ntmps27
  go_wp2_with (first | ((with_reducible refine gate_callee (f:=20) rfl ?_);refine goesL_ (some 13) rfl rfl Try.func20 (by kernel_rfl) rfl #[.slice A0 l0.length c0] rfl (by (try simp only [List.map_toArray,List.map_cons,List.map_nil]);first | done | rfl | (simp only [List.length_drop,List.length_take];rfl)) ?_;(with_reducible refine (wire_Get.calls k _ _ l0 t111 t112 t113 _ ?side1 ?side2 A3.out).mono ?_);(case side1 => repeat (first | exact HR0.out | (with_reducible refine Kd.C_alloc ?_ _) | (with_reducible refine Kd.C_drewN ?_ _) | (with_reducible refine Kd.C_drew ?_)));(case side2 => exact HC0.out);rintro e w' ⟨rfl,⟨nd,rfl⟩⟩;refine ⟨_,rfl,?_⟩))
  go_ret3
  exact ⟨by first | rfl | (simp [errW_none,errW_some] <;> rfl) | (simp [*,errW_none,errW_some] <;> rfl),by repeat (first | (with_reducible first | exact HB.out | apply below_alloc | apply pw_below_drewN | apply below_drew1) | exact HB.out)⟩

end Go.Proofs.Ytjfklfmfeghjnaa.PA
