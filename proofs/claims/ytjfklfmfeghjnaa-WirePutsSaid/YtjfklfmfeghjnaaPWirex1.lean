-- Contracts of Go functions, each with its plain Lean function: written by wip/tools/myprint.py of this work (the kit's print, with contracts proved by hand spliced in).
import Derived.Test.YtjfklfmfeghjnaaPWirex0
namespace Go.Proofs.Ytjfklfmfeghjnaa.PWire
open Go.RowKit Go.Proofs.YtjfklfmfeghjnaaW.PrintWords Go.Proofs.YtjfklfmfeghjnaaW.PrintLast Go.Proofs.YtjfklfmfeghjnaaW.PrintMore
attribute [local go_sem] max2_int min2_int max_two min_two max_three min_three max_four min_four   -- for this text's walks alone
set_option linter.unusedVariables false
set_option linter.unusedSimpArgs false

/-! ### wire_Fold: function 15 -/
def wire_Fold.f (a0 : Int) : Option (Int) := some (Go.bits .xor .u64 (IntKind.u64.wrap ((IntKind.u64.wrap (a0)) * 2)) (IntKind.u64.wrap (a0 / 9223372036854775808)))
set_option maxHeartbeats 8000000 in
set_option maxRecDepth 100000 in
theorem wire_Fold.calls (a0 : Int) (r : Int) (w : World) (h : wire_Fold.f a0 = some r) :
    Calls Try.prog 15 #[.int .i64 a0] w fun e w' => e = .returned (.int .u64 r) ∧ Drawn0 w w' := by
  have H : (some (Go.bits .xor .u64 (IntKind.u64.wrap ((IntKind.u64.wrap (a0)) * 2)) (IntKind.u64.wrap (a0 / 9223372036854775808)))) = some r := h
  clear h
  obtain rfl := Option.some.inj H
  go_enter Try.func15, Try.ntmps15
  go_wp2
  go_ret
  exact ⟨by first | rfl | (simp; done) | (simp [*]; done), by repeat (first | exact Drawn0.refl _ | apply Drawn0.step)⟩

/-! ### wire_Unfold: function 16 -/
def wire_Unfold.f (a0 : Int) : Option (Int) := some (Go.bits .xor .i64 (wrap64 (a0 / 2)) (wrap64 (-(wrap64 (Go.bits .and .u64 a0 1)))))
set_option maxHeartbeats 8000000 in
set_option maxRecDepth 100000 in
theorem wire_Unfold.calls (a0 : Int) (r : Int) (w : World) (h : wire_Unfold.f a0 = some r) :
    Calls Try.prog 16 #[.int .u64 a0] w fun e w' => e = .returned (.int .i64 r) ∧ Drawn0 w w' := by
  have H : (some (Go.bits .xor .i64 (wrap64 (a0 / 2)) (wrap64 (-(wrap64 (Go.bits .and .u64 a0 1)))))) = some r := h
  clear h
  obtain rfl := Option.some.inj H
  go_enter Try.func16, Try.ntmps16
  go_wp2
  go_ret
  exact ⟨by first | rfl | (simp; done) | (simp [*]; done), by repeat (first | exact Drawn0.refl _ | apply Drawn0.step)⟩

/-! ### tachographref01_Fold: function 17 -/
def tachographref01_Fold.f (a0 : Int) : Option (Int) := if a0 ≥ 0 then (some (IntKind.u64.wrap (2 * (IntKind.u64.wrap (a0))))) else (some (IntKind.u64.wrap ((IntKind.u64.wrap (2 * (IntKind.u64.wrap (wrap64 (-(wrap64 (a0 + 1))))))) + 1)))
set_option maxHeartbeats 8000000 in
set_option maxRecDepth 100000 in
theorem tachographref01_Fold.calls (a0 : Int) (r : Int) (w : World) (h : tachographref01_Fold.f a0 = some r) :
    Calls Try.prog 17 #[.int .i64 a0] w fun e w' => e = .returned (.int .u64 r) ∧ Drawn0 w w' := by
  have H : (if a0 ≥ 0 then (some (IntKind.u64.wrap (2 * (IntKind.u64.wrap (a0))))) else (some (IntKind.u64.wrap ((IntKind.u64.wrap (2 * (IntKind.u64.wrap (wrap64 (-(wrap64 (a0 + 1))))))) + 1)))) = some r := h
  clear h
  by_cases c2 : a0 ≥ 0
  · rw [if_pos c2] at H
    have c2b0 : decide (0 ≤ a0) = true := decide_eq_true c2
    clear c2
    obtain rfl := Option.some.inj H
    go_enter Try.func17, Try.ntmps17
    go_wp2
    go_ret
    exact ⟨by first | rfl | (simp; done) | (simp [*]; done), by repeat (first | exact Drawn0.refl _ | apply Drawn0.step)⟩
  · rw [if_neg c2] at H
    have c2b0 : decide (0 ≤ a0) = false := decide_eq_false c2
    clear c2
    obtain rfl := Option.some.inj H
    go_enter Try.func17, Try.ntmps17
    go_wp2
    go_ret
    exact ⟨by first | rfl | (simp; done) | (simp [*]; done), by repeat (first | exact Drawn0.refl _ | apply Drawn0.step)⟩

/-! ### tachographref01_Unfold: function 18 -/
def tachographref01_Unfold.f (a0 : Int) : Option (Int) := if (Int.tmod a0 2) = 0 then (some (wrap64 (IntKind.u64.wrap (Int.tdiv a0 2)))) else (some (wrap64 ((wrap64 (-(wrap64 (IntKind.u64.wrap (Int.tdiv a0 2))))) - 1)))
set_option maxHeartbeats 8000000 in
set_option maxRecDepth 100000 in
theorem tachographref01_Unfold.calls (a0 : Int) (r : Int) (w : World) (h : tachographref01_Unfold.f a0 = some r) :
    Calls Try.prog 18 #[.int .u64 a0] w fun e w' => e = .returned (.int .i64 r) ∧ Drawn0 w w' := by
  have H : (if (Int.tmod a0 2) = 0 then (some (wrap64 (IntKind.u64.wrap (Int.tdiv a0 2)))) else (some (wrap64 ((wrap64 (-(wrap64 (IntKind.u64.wrap (Int.tdiv a0 2))))) - 1)))) = some r := h
  clear h
  by_cases c2 : (Int.tmod a0 2) = 0
  · rw [if_pos c2] at H
    have c2b0 : ((Int.tmod a0 2) == 0) = true := beq_iff_eq.mpr c2
    have c2b1 : ((Int.tmod a0 2) != 0) = false := bne_eq_false_iff_eq.mpr c2
    clear c2
    obtain rfl := Option.some.inj H
    go_enter Try.func18, Try.ntmps18
    go_wp2
    go_ret
    exact ⟨by first | rfl | (simp; done) | (simp [*]; done), by repeat (first | exact Drawn0.refl _ | apply Drawn0.step)⟩
  · rw [if_neg c2] at H
    have c2b0 : ((Int.tmod a0 2) == 0) = false := beq_eq_false_iff_ne.mpr c2
    have c2b1 : ((Int.tmod a0 2) != 0) = true := bne_iff_ne.mpr c2
    obtain rfl := Option.some.inj H
    go_enter Try.func18, Try.ntmps18
    go_wp2
    go_ret
    exact ⟨by first | rfl | (simp; done) | (simp [*]; done), by repeat (first | exact Drawn0.refl _ | apply Drawn0.step)⟩

/-! ### slices_Clone_byte_byte: function 61 -/
theorem slices_Clone_byte_byte.info : (Try.prog.info? 5).map (fun i => (i.zero, i.size, i.bytes)) = some (some (.int .u8 0), 1, 1) := by kernel_rfl

set_option maxHeartbeats 8000000 in
set_option maxRecDepth 100000 in
theorem slices_Clone_byte_byte.calls0 (A0 : Option Addr) (c0 : Nat) (l0 : List Int) (w : World) (hr0 : Kd.C (Kd.int .u8) w A0 l0.length l0) (hc0 : l0.length ≤ c0) (hl : l0.length ≤ 140737488355328) :
    Calls Try.prog 61 #[.slice A0 l0.length c0] w fun e w' => ∃ v0_ : Value, e = .returned v0_ ∧ Kd.R (Kd.int .u8) 5 w' w.heap.size (fun _ => True) v0_ l0 ∧ Below w.heap.size w w' := by
  have hnil := fun (w : World) (a : Option Addr) (n c : Nat) => Lib.run_eql_slice_nil (P := Try.prog) w 27 5 a n c 0 0 Try.underlying27
  have HL := Lib.hid hl; clear hl
  cases A0 with
  | none =>
    have HR := Lib.hid hr0; clear hr0
    go_enter Try.func61, Try.ntmps61
    go_wp2
    go_ret
    have : l0 = [] := by
      cases l0 with
      | nil => rfl
      | cons x l => exfalso; obtain ⟨ad, c, e, _⟩ := Kd.C_get HR.out 0 0 (by omega) (by simp only [List.length_cons]; omega); cases e
    subst this
    exact ⟨_, rfl, Kd.R_nil _ _ _ _ _, Below.refl _ _⟩
  | some ad =>
    have HR := Lib.hid hr0; clear hr0
    have HB := Lib.hid (Below.refl w.heap.size w)
    go_enter Try.func61, Try.ntmps61
    go_wp2_with (first | ((with_reducible refine gate_dst (N := 5) rfl ?_); refine Kd.R_lit (Kd.int .u8) w.heap.size 5 ?hg (N := 5) ?hd (w0 := w) (xs := ([] : List Int)) (inner := []) (ok := fun _ => True) (okp := fun _ => True) ?hr ?hp (fun _ hk => hk) trivial (Below.refl _ _) (Nat.le_refl _) (by simp) ?_; (case hd => rfl); (case hg => rfl); (case hr => first | (go_simp; done) | (go_simp; rfl)); (case hp => exact (Reps.none _ _)); intro v1 w1 h1 h2 h3 h4; have H1 := Lib.hid h1; have H2 := Lib.hid h2; clear h1 h2 h3 h4) | ((with_reducible refine gate_dst (N := 7) rfl ?_); refine Kd.R_append_row (Value.int .u8) 0 (w0 := w) w.heap.size rfl (.tmp 5) (.tmp 6) 27 5 (.int .u8 0) 1 rfl Try.underlying27 slices_Clone_byte_byte.info rfl (by decide) _ [] l0 _ _ _ (fun _ => True) rfl rfl (fun _ _ => trivial) H1.out (Kd.C_below HR.out H2.out) H2.out H2.out.size ?hl ?_; (case hl => have := HL.out; simp; omega); intro v2 w2 h1 h2 h3 h4; have H3 := Lib.hid h1; have H4 := Lib.hid h2; clear h1 h2 h3 h4))
    go_ret
    exact ⟨_, rfl, H3.out, H4.out⟩
def slices_Clone_byte_byte.f (l0 : List Int) : Option (List Int) := if l0.length ≤ 140737488355328 then some l0 else none
theorem slices_Clone_byte_byte.calls (A0 : Option Addr) (c0 : Nat) (l0 : List Int) (r : List Int) (w : World) (hr0 : Kd.C (Kd.int .u8) w A0 l0.length l0) (hc0 : l0.length ≤ c0) (h : slices_Clone_byte_byte.f l0 = some r) :
    Calls Try.prog 61 #[.slice A0 l0.length c0] w fun e w' => ∃ v0_ : Value, e = .returned v0_ ∧ Kd.R (Kd.int .u8) 5 w' w.heap.size (fun _ => True) v0_ r ∧ Below w.heap.size w w' := by
  unfold slices_Clone_byte_byte.f at h
  split at h
  · obtain rfl := Option.some.inj h
    exact slices_Clone_byte_byte.calls0 A0 c0 l0 w hr0 hc0 (by assumption)
  · cases h

-- NOT PRINTED: function 62 (wire_groups)

/-! ### wire_Put: function 22 -/
section
open Go.Shelf Go.Proofs.YtjfklfmfeghjnaaAid
attribute [local go_sem] Oper.semAt_some
def wbytes (m : Nat) : List Int := if h : m < 128 then [(m : Int)] else ((m % 128 + 128 : Nat) : Int) :: wbytes (m / 128)
termination_by m
decreasing_by omega

theorem wire_Put.or128 (m : Nat) : Go.bits .or .u8 ((m : Int) % 256) 128 = ((m % 128 + 128 : Nat) : Int) := by
  have h : ∀ x : Fin 256, Go.bits .or .u8 ((x.val : Nat) : Int) 128 = ((x.val % 128 + 128 : Nat) : Int) := by decide +kernel
  have := h ⟨m % 256, by omega⟩
  have e : ((m % 256 : Nat) : Int) = (m : Int) % 256 := by omega
  simp only [e] at this
  rw [this]
  congr 1
  omega

set_option maxRecDepth 100000 in
set_option maxHeartbeats 1000000 in
theorem wire_groups1 (F : Fence) (n : Nat) (h6 : F.fn 76) (hro : F.round = none) (hn : 1 ≤ n) (l B : Nat) (m0 : Nat) (hm0 : m0 < 18446744073709551616) (J : List Int → World → Prop)
    (hY : ∀ pre x rest W m, pre ++ x :: rest = wbytes m0 → J pre W → Boxed W B 22 (.int .u64 m) → YieldAt F (n - 1) Try.prog l #[.int .u8 x] W fun e W' => e = .returned (.bool true) ∧ J (pre ++ [x]) W' ∧ Boxed W' B 22 (.int .u64 m))
    (hJ : ∀ pre W u v, Boxed W B 22 u → J pre W → J pre (W.setCell ⟨B, 0, none⟩ v))
    (W : World) (hB : Boxed W B 22 (.int .u64 m0)) (h0 : J [] W) :
    CallsIn F n Try.prog 76 #[.func (.yield l) #[] #[], .pointer (some ⟨B, 0, none⟩)] W fun e W' => (∃ v, e = .returned v) ∧ J (wbytes m0) W' := by
  have HY := Lib.hid hY; clear hY
  have HJ := Lib.hid hJ; clear hJ
  refine callsIn_of_wp Try.func76 rfl h6 ?_ hro
  simp only [Try.ntmps76, List.size_toArray, List.length_cons, List.length_nil, Nat.reduceAdd, Nat.reduceSub, Array.replicate_succ, Array.replicate_zero, List.push_toArray, List.append_toArray, List.nil_append, List.cons_append]
  gi_wp2
  gi_loopw [3] (fun _ wr => ∃ (pre : List Int) (m : Nat), m < 18446744073709551616 ∧ pre ++ wbytes m = wbytes m0 ∧ Boxed wr B 22 (.int .u64 m) ∧ J pre wr)
    (fun _ wr => match wr.cell? ⟨B, 0, none⟩ with | some (.int _ m) => m.toNat | _ => 0)
  case atStart => exact ⟨[], m0, hm0, rfl, hB, h0⟩
  case round =>
    obtain ⟨pre, m, hm, hpre, hb, hj⟩ := hrel
    have HP := Lib.hid hpre; clear hpre
    have hc := hb.cell
    have hf := hb.frozen
    by_cases hlt : m < 128
    · obtain ⟨fn, tmps, assign, body, hy, hR⟩ := HY.out pre m [] wr m (by rw [← HP.out, wbytes, dif_pos hlt]) hj hb
      gi_wp2
      refine hR.mono ?_
      rintro e W3 ⟨rfl, hJ3, hb3⟩
      gi_wp2
      go_end0
      have e1 : wbytes m = [(m : Int)] := by rw [wbytes, dif_pos hlt]
      rw [e1] at HP
      rw [HP.out] at hJ3
      exact ⟨⟨_, rfl⟩, hJ3⟩
    · obtain ⟨fn, tmps, assign, body, hy, hR⟩ := HY.out pre (Go.bits .or .u8 ((m : Int) % 256) 128) (wbytes (m / 128)) wr m (by rw [wire_Put.or128, ← HP.out]; congr 1; rw [wbytes.eq_1 m, dif_neg hlt]) hj hb
      gi_wp2
      refine hR.mono ?_
      rintro e W3 ⟨rfl, hJ3, hb3⟩
      have hc3 := hb3.cell
      have hf3 := hb3.frozen
      gi_wp2
      have hb4 := hb3.set (.int .u64 ((m : Int) / 128))
      have hJ4 := HJ.out _ _ _ (.int .u64 ((m : Int) / 128)) hb3 hJ3
      go_roundw
      case rel =>
        refine ⟨_, m / 128, by omega, ?_, by simpa using hb4, hJ4⟩
        have e1 : wbytes m = ((m % 128 + 128 : Nat) : Int) :: wbytes (m / 128) := by rw [wbytes, dif_neg hlt]
        have HP' := HP.out
        rw [e1] at HP'
        rw [← HP', wire_Put.or128]
        simp
      case measure =>
        have hc4 := hb4.cell
        rw [hc4, hc]
        simp
        omega

theorem wbytes_len (k : Nat) : ∀ m, m < 128 ^ (k + 1) → (wbytes m).length ≤ k + 1 := by
  induction k with
  | zero => intro m h; rw [wbytes, dif_pos (by simpa using h)]; simp
  | succ k ih =>
    intro m h
    rw [wbytes]
    split
    · simp
    · have := ih (m / 128) (by rw [Nat.pow_succ] at h; omega)
      simp; omega

theorem wire_groups0 (n : Int) (w : World) :
    Calls Try.prog 62 #[.int .u64 n] w fun e w' => e = .returned (.func (.func 76) #[] #[.pointer (some ⟨w.heap.size, 0, none⟩)]) ∧ w' = w.alloc (.cells #[.int .u64 n] 22) := by
  go_enter Try.func62, Try.ntmps62
  go_wp2
  go_ret
  exact ⟨rfl, rfl⟩

set_option maxRecDepth 100000 in
set_option maxHeartbeats 2000000 in
theorem wire_Put.calls0 (A0 : Option Addr) (c0 : Nat) (l0 : List Int) (m0 : Nat) (w : World) (hr0 : Kd.C (Kd.int .u8) w A0 l0.length l0) (hc0 : l0.length ≤ c0) (hl : l0.length ≤ 140737488355000) (hm0 : m0 < 18446744073709551616) :
    Calls Try.prog 22 #[.slice A0 l0.length c0, .int .u64 m0] w fun e w' => ∃ v0_ : Value, e = .returned v0_ ∧ Kd.R (Kd.int .u8) 5 w' w.heap.size (fun _ => True) v0_ (l0 ++ wbytes m0) ∧ Below w.heap.size w w' := by
  have HR0 := Lib.hid hr0; clear hr0
  have HC0 := Lib.hid hc0; clear hc0
  have HL0 := Lib.hid hl; clear hl
  have HM0 := Lib.hid hm0; clear hm0
  refine (callsIn_wide (n := 3)).1 ?_
  refine callsIn_of_wp_marks Try.func22 rfl trivial ?_ rfl
  simp only [Try.ntmps22, List.size_toArray, List.length_cons, List.length_nil, Nat.reduceAdd, Nat.reduceSub, Array.replicate_succ, Array.replicate_zero, List.push_toArray, List.append_toArray, List.nil_append, List.cons_append]
  gi_wp2_with (first | (refine ⟨trivial, ?_⟩; gi_at_call 61; refine (callsIn_wide.2 (slices_Clone_byte_byte.calls0 _ _ _ _ HR0.out HC0.out (by have := HL0.out; omega))).mono ?_; rintro e w1 ⟨v1, rfl, h1, h2⟩; obtain ⟨A1, c1, rfl, hl1, _⟩ := Kd.R_reads h1; have HC1 := Lib.hid hl1; clear hl1; have H1 := Lib.hid h1; have H2 := Lib.hid h2; clear h1 h2) | (refine ⟨trivial, ?_⟩; gi_at_call 62; refine (callsIn_wide.2 (wire_groups0 _ _)).mono ?_; rintro e w2 ⟨rfl, rfl⟩))
  obtain ⟨W0, hW0⟩ : ∃ W0, (w1.alloc (.cells #[.slice A1 l0.length c1] 27)).alloc (.cells #[.int .u64 m0] 22) = W0 := ⟨_, rfl⟩
  have hs0 : W0.heap.size = w1.heap.size + 2 := by rw [← hW0]; simp
  have hbo : Boxed W0 w1.heap.size 27 (.slice A1 l0.length c1) := by rw [← hW0]; exact (Boxed.new _ _ _).alloc _
  have hbn : Boxed W0 (w1.heap.size + 1) 22 (.int .u64 m0) := by rw [← hW0]; have := Boxed.new (w1.alloc (.cells #[.slice A1 l0.length c1] 27)) 22 (.int .u64 m0); rwa [World.size_alloc] at this
  have hle1 : w.heap.size ≤ w1.heap.size := H2.out.size
  have hrow : W0.ownsRow w.heap.size 5 1 (.slice A1 l0.length c1) l0.length (nums .u8 l0) := by rw [← hW0]; exact ((Kd.own_of_R H1.out).alloc _).alloc _
  have hbel : Below w.heap.size w W0 := by rw [← hW0]; exact (H2.out.alloc H2.out.size _).alloc (by simp; omega) _
  have HS0 := Lib.hid hs0
  have HRW := Lib.hid hrow
  have HBL := Lib.hid hbel
  rw [hW0]
  clear hW0 hrow hbel hs0
  refine range_on rfl (by omega) (gf := 76) (lb := #[.pointer (some ⟨w1.heap.size + 1, 0, none⟩)]) rfl trivial (enters_of Try.func76 (by kernel_rfl) rfl) ?_
  intro fn REC hfn hrec
  refine (wire_groups1 Fence.wide 2 trivial rfl (by omega) (W0.heap.size + 1) (w1.heap.size + 1) m0 HM0.out
    (fun pre W => (∃ v, Boxed W w1.heap.size 27 v ∧ W.ownsRow w.heap.size 5 1 v (l0 ++ pre).length (nums .u8 (l0 ++ pre))) ∧ W.heap[W0.heap.size + 1]? = some (.loop (REC .ready)) ∧ W.heap[W0.heap.size]? = some (.deferred (some [])) ∧ Below w.heap.size w W) ?hY ?hJ _ ?hB ?h0).mono ?hd
  case hd =>
    rintro e W2 ⟨⟨vr, rfl⟩, ⟨v, h1, h2⟩, h3, h4, h5⟩
    clear hrec
    refine ⟨⟨vr, rfl⟩, h3, ?_⟩
    obtain ⟨W3, hW3⟩ : ∃ W3, W2.putObj (W0.heap.size + 1) (.loop (REC .exhausted)) = W3 := ⟨_, rfl⟩
    have hg2 : W2.grownBy W3 (some (W0.heap.size + 1)) := by rw [← hW3]; exact grownBy_putObj' _ _ _
    have j1 := h1.kept hg2 (by have := HS0.out; simp; omega)
    have j2 := ownsRow_putObj h2 (.loop (REC .exhausted)) h3 rfl
    have j4 : W3.heap[W0.heap.size]? = some (.deferred (some [])) := by rw [← hW3]; exact (World.putObj_heap_other (by omega)).trans h4
    have j5 : Below w.heap.size W2 W3 := (Below.refl _ _).grown hg2 h5.size (by intro k e; cases e; have := HS0.out; omega)
    rw [hW3] at j2 ⊢
    have k5 := h5.trans j5
    clear h1 h2 h3 h4 hg2 hW3 j5 h5
    have hc := j1.cell
    have J2 := Lib.hid j2
    have J4 := Lib.hid j4
    have K5 := Lib.hid k5
    clear j1 j2 j4 k5
    gi_wp2
    refine ⟨by simp, .inl ⟨_, _, rfl, run_takeDeferred J4.out, ?_⟩⟩
    refine ⟨_, results_tmp rfl _ _ _, v, rfl, Kd.R_of_own (ownsRow_putObj J2.out _ J4.out rfl) (fun _ _ => trivial), ?_⟩
    exact K5.out.grown (grownBy_putObj' _ _ _) K5.out.size (by intro k e; cases e; have := HS0.out; omega)
  case hB => exact (hbn.alloc _).alloc _
  case h0 =>
    refine ⟨⟨_, (hbo.alloc _).alloc _, by simpa using (HRW.out.alloc _).alloc _⟩, ?_, ?_, (HBL.out.alloc HBL.out.size _).alloc (by have := HBL.out.size; simp; omega) _⟩
    · have := World.alloc_heap_new (W0.alloc (.deferred (some []))) (.loop (REC .ready)); rwa [World.size_alloc] at this
    · exact (Below.heap_alloc _ _ _ (by simp)).trans (World.alloc_heap_new _ _)
  case hJ =>
    rintro pre W u v hb ⟨⟨v1, h1, h2⟩, h3, h4, h5⟩
    refine ⟨⟨v1, h1.other (by omega) _, h2.kept (grownBy_setCell' _ _ _) (.inr (hb.not_row (by decide) h2).symm)⟩, ?_, ?_, h5.setCell (p := ⟨w1.heap.size + 1, 0, none⟩) (by simp; omega) _⟩
    · exact (Below.heap_setCell _ _ _ _ (by have := HS0.out; simp; omega)).trans h3
    · exact (Below.heap_setCell _ _ _ _ (by have := HS0.out; simp; omega)).trans h4
  case hY =>
    rintro pre x rest W m hp ⟨⟨v1, h1, h2⟩, h3, h4, h5⟩ hb
    have hpl : pre.length + 1 ≤ 10 := by
      have := wbytes_len 9 m0 (by have := HM0.out; omega)
      rw [← hp] at this; simp at this; omega
    refine round_on (R := fun W' => (((∃ v, Boxed W' w1.heap.size 27 v ∧ W'.ownsRow w.heap.size 5 1 v (l0 ++ (pre ++ [x])).length (nums .u8 (l0 ++ (pre ++ [x])))) ∧ W'.heap[W0.heap.size + 1]? = some (.loop (REC .ready)) ∧ W'.heap[W0.heap.size]? = some (.deferred (some [])) ∧ Below w.heap.size w W') ∧ Boxed W' (w1.heap.size + 1) 22 (.int .u64 m))) hfn hrec h3 rfl ?_
    clear hrec
    gi_wp2
    refine ⟨h3, ?_⟩
    have hlt : W0.heap.size + 1 < W.heap.size := (Array.getElem?_eq_some_iff.1 h3).1
    obtain ⟨W2, hW2⟩ : ∃ W2, W.putObj (W0.heap.size + 1) (.loop (REC .busy)) = W2 := ⟨_, rfl⟩
    have hg2 : W.grownBy W2 (some (W0.heap.size + 1)) := by rw [← hW2]; exact grownBy_putObj' _ _ _
    have j1 := h1.kept hg2 (by have := HS0.out; simp; omega)
    have jb := hb.kept hg2 (by have := HS0.out; simp; omega)
    have j2 := ownsRow_putObj h2 (.loop (REC .busy)) h3 rfl
    have j3 : W2.heap[W0.heap.size + 1]? = some (.loop (REC .busy)) := by rw [← hW2]; exact World.putObj_heap_same hlt
    have j4 : W2.heap[W0.heap.size]? = some (.deferred (some [])) := by rw [← hW2]; exact (World.putObj_heap_other (by omega)).trans h4
    have j5 : Below w.heap.size W W2 := (Below.refl _ _).grown hg2 h5.size (by intro k e; cases e; have := HS0.out; omega)
    rw [hW2] at j2 ⊢
    have k5 := h5.trans j5
    clear h1 h2 h3 h4 hb hg2 hW2 j5
    have hc := j1.cell
    have hf := j1.frozen
    have J2 := Lib.hid j2
    have J3 := Lib.hid j3
    have J4 := Lib.hid j4
    have K5 := Lib.hid k5
    have J1 := Lib.hid j1
    have JB := Lib.hid jb
    clear j1 j2 j3 j4 k5 jb
    obtain ⟨A3, n3, c3, rfl⟩ : ∃ A n c, v1 = .slice A n c := by obtain ⟨A, c, e⟩ := own_slice J2.out; exact ⟨_, _, _, e⟩
    obtain ⟨i0, hi, hz0, hz1, hz2⟩ := info_parts slices_Clone_byte_byte.info
    have HL := HL0.out
    gi_wp2_with (gi_at_builtin; refine wpListIn_append_own _ rfl _ _ 27 rfl w.heap.size 5 i0 (.int .u8 0) 1 1 Try.underlying27 hi hz0 hz1 hz2 rfl (by decide) _ _ _ rfl (J2.out.alloc _) ⟨W2.heap.size, 0, none⟩ 1 1 [.int .u8 x] rfl rfl (cell_one_new _ _ _) (by simp [Value.oneCell']) ?q1 ?q2 ?q3 ?_; (case q1 => simp [maxLen]; omega); (case q2 => simp; omega); (case q3 => have := K5.out.size; simp; omega); intro v' w1' hown' hgrow _; obtain ⟨g', cap', rfl⟩ := ownsRow_succ hown'; obtain ⟨hv1, hv2, hr2, hk2, hb2⟩ := J1.out.appended (by decide) J2.out K5.out.size hle1 hown' hgrow; have hbb := (((JB.out.alloc _).kept hgrow (JB.out.not_row (by decide) J2.out)).other (B' := w1.heap.size) (by omega) (.slice (some ⟨g', 0, none⟩) ((l0 ++ pre).length + 1) cap')); have hc1 := hv1.cell; have hf1 := hv1.frozen; have X1 := Lib.hid hv2; have X2 := Lib.hid hr2; have X3 := Lib.hid hk2; have X4 := Lib.hid hb2; have X5 := Lib.hid hbb; clear hv1 hv2 hr2 hk2 hb2 hbb hown' hgrow)
    have hlen : (l0 ++ pre).length = l0.length + pre.length := List.length_append
    rw [hlen] at X1 X2 X3 X4 X5
    obtain ⟨W3, hW3⟩ : ∃ W3, w1'.setCell ⟨w1.heap.size, 0, none⟩ (.slice (some ⟨g', 0, none⟩) (l0.length + pre.length + 1) cap') = W3 := ⟨_, rfl⟩
    rw [hW3] at X1 X2 X3 X4 X5 ⊢
    have y3 := X3.out.same _ _ J3.out rfl
    have y4 := X3.out.same _ _ J4.out rfl
    have hlt3 : W0.heap.size + 1 < W3.heap.size := (Array.getElem?_eq_some_iff.1 y3).1
    have hg3 : W3.grownBy (W3.putObj (W0.heap.size + 1) (.loop (REC .ready))) (some (W0.heap.size + 1)) := grownBy_putObj' _ _ _
    have hs := HS0.out
    refine ⟨y3, ⟨⟨_, X1.out.kept hg3 (by simp; omega), ?_⟩, World.putObj_heap_same hlt3, (World.putObj_heap_other (by omega)).trans y4, ?_⟩, X5.out.kept hg3 (by simp; omega)⟩
    · have := ownsRow_putObj X2.out (.loop (REC .ready)) y3 rfl
      have e1 : nums .u8 (l0 ++ (pre ++ [x])) = nums .u8 (l0 ++ pre) ++ [.int .u8 x] := by simp [nums]
      rw [e1]
      exact this
    · exact (K5.out.trans X4.out).grown hg3 (by have := K5.out.size; have := X4.out.size; omega) (by intro k e; cases e; have := HBL.out.size; omega)
end
def wire_Put.f (l0 : List Int) (a1 : Int) : Option (List Int) := if l0.length ≤ 140737488355000 ∧ 0 ≤ a1 ∧ a1 < 18446744073709551616 then some (l0 ++ wbytes a1.toNat) else none
theorem wire_Put.calls (A0 : Option Addr) (c0 : Nat) (l0 : List Int) (a1 : Int) (r : List Int) (w : World) (hr0 : Kd.C (Kd.int .u8) w A0 l0.length l0) (hc0 : l0.length ≤ c0) (h : wire_Put.f l0 a1 = some r) :
    Calls Try.prog 22 #[.slice A0 l0.length c0, .int .u64 a1] w fun e w' => ∃ v0_ : Value, e = .returned v0_ ∧ Kd.R (Kd.int .u8) 5 w' w.heap.size (fun _ => True) v0_ r ∧ Below w.heap.size w w' := by
  unfold wire_Put.f at h
  split at h
  · rename_i hc
    obtain ⟨h1, h2, h3⟩ := hc
    obtain rfl := Option.some.inj h
    obtain ⟨m, rfl⟩ := Int.eq_ofNat_of_zero_le h2
    exact wire_Put.calls0 A0 c0 l0 m w hr0 hc0 h1 (by omega)
  · cases h

/-! ### tachographlaw01_fixed: function 19 -/
def tachographlaw01_fixed.f  : Option (Bool) := (wire_Put.f ([] : List Int) 300).bind fun t101 => (if (strOfNums t101).toList = ([172, 2] : List UInt8) then ((wire_Fold.f (-3)).bind fun t104 => (some (t104 == 5))) else (some false))
set_option maxHeartbeats 8000000 in
set_option maxRecDepth 100000 in
theorem tachographlaw01_fixed.calls  (r : Bool) (w : World) (h : tachographlaw01_fixed.f  = some r) :
    Calls Try.prog 19 #[] w fun e w' => e = .returned (.bool r) ∧ Below w.heap.size w w' := by
  have HB := Aside0.mk (Below.refl w.heap.size w)
  have H : ((wire_Put.f ([] : List Int) 300).bind fun t101 => (if (strOfNums t101).toList = ([172, 2] : List UInt8) then ((wire_Fold.f (-3)).bind fun t104 => (some (t104 == 5))) else (some false))) = some r := h
  clear h
  replace H := Option.bind_eq_some_iff.mp H
  obtain ⟨t101, A10, H⟩ := H
  replace H : (if (strOfNums t101).toList = ([172, 2] : List UInt8) then ((wire_Fold.f (-3)).bind fun t104 => (some (t104 == 5))) else (some false)) = some r := H
  have A1 := Aside0.mk A10
  clear A10
  by_cases c2 : (strOfNums t101).toList = ([172, 2] : List UInt8)
  · rw [if_pos c2] at H
    have c2b0 : ((strOfNums t101).toList == ([172, 2] : List UInt8)) = true := beq_iff_eq.mpr c2
    have c2b1 : ((strOfNums t101).toList != ([172, 2] : List UInt8)) = false := bne_eq_false_iff_eq.mpr c2
    clear c2
    replace H := Option.bind_eq_some_iff.mp H
    obtain ⟨t104, A30, H⟩ := H
    replace H : (some (t104 == 5)) = some r := H
    have A3 := Aside0.mk A30
    clear A30
    obtain rfl := Option.some.inj H
    go_enter Try.func19, Try.ntmps19
    go_wp2_with (first | ((with_reducible refine gate_callee (f := 22) rfl ?_); refine goesL_ (some 1) rfl rfl Try.func22 (by kernel_rfl) rfl #[.slice none 0 0, .int .u64 300] rfl (by (try simp only [List.map_toArray, List.map_cons, List.map_nil]); first | done | rfl | (simp only [List.length_drop, List.length_take]; rfl)) ?_; (refine (wire_Put.calls _ _ ([] : List Int) 300 t101 _ ?side1 ?side2 A1.out).mono ?_); (case side1 => exact Kd.C_nil _ _); (case side2 => exact Nat.le_refl _); rintro e w4 ⟨v102, rfl, ho0, hb⟩; refine ⟨_, rfl, ?_⟩; have n0_ := Aside0.mk (Kd.R_lower ho0 (below_size (by repeat (first | (with_reducible first | exact HB.out | apply below_alloc | apply pw_below_drewN | apply below_drew1) | exact HB.out)))); have n1_ := Aside0.mk (below_step (by repeat (first | (with_reducible first | exact HB.out | apply below_alloc | apply pw_below_drewN | apply below_drew1) | exact HB.out)) hb); clear HB; have HO103 := n0_; have HB := n1_; clear n0_ n1_; (try clear hb); (try clear hb2); (try clear hk); (try clear hi); (try clear ho0); have hcv5 := own_string (P := Try.prog) Try.underlying27 Try.underlying5 Try.underlying9 (Kd.own_of_R HO103.out)) | (go_at_call 15; (with_reducible refine (wire_Fold.calls (-3) t104 _ A3.out).mono ?_); rintro e w' ⟨rfl, ⟨nd, rfl⟩⟩))
    go_ret
    exact ⟨by first | rfl | (simp [errW_none, errW_some] <;> rfl) | (simp [*, errW_none, errW_some] <;> rfl), by repeat (first | (with_reducible first | exact HB.out | apply below_alloc | apply pw_below_drewN | apply below_drew1) | exact HB.out)⟩
  · rw [if_neg c2] at H
    have c2b0 : ((strOfNums t101).toList == ([172, 2] : List UInt8)) = false := beq_eq_false_iff_ne.mpr c2
    have c2b1 : ((strOfNums t101).toList != ([172, 2] : List UInt8)) = true := bne_iff_ne.mpr c2
    obtain rfl := Option.some.inj H
    go_enter Try.func19, Try.ntmps19
    go_wp2_with (first | ((with_reducible refine gate_callee (f := 22) rfl ?_); refine goesL_ (some 1) rfl rfl Try.func22 (by kernel_rfl) rfl #[.slice none 0 0, .int .u64 300] rfl (by (try simp only [List.map_toArray, List.map_cons, List.map_nil]); first | done | rfl | (simp only [List.length_drop, List.length_take]; rfl)) ?_; (refine (wire_Put.calls _ _ ([] : List Int) 300 t101 _ ?side1 ?side2 A1.out).mono ?_); (case side1 => exact Kd.C_nil _ _); (case side2 => exact Nat.le_refl _); rintro e w6 ⟨v102, rfl, ho0, hb⟩; refine ⟨_, rfl, ?_⟩; have n0_ := Aside0.mk (Kd.R_lower ho0 (below_size (by repeat (first | (with_reducible first | exact HB.out | apply below_alloc | apply pw_below_drewN | apply below_drew1) | exact HB.out)))); have n1_ := Aside0.mk (below_step (by repeat (first | (with_reducible first | exact HB.out | apply below_alloc | apply pw_below_drewN | apply below_drew1) | exact HB.out)) hb); clear HB; have HO103 := n0_; have HB := n1_; clear n0_ n1_; (try clear hb); (try clear hb2); (try clear hk); (try clear hi); (try clear ho0); have hcv7 := own_string (P := Try.prog) Try.underlying27 Try.underlying5 Try.underlying9 (Kd.own_of_R HO103.out)))
    go_ret
    exact ⟨by first | rfl | (simp [errW_none, errW_some] <;> rfl) | (simp [*, errW_none, errW_some] <;> rfl), by repeat (first | (with_reducible first | exact HB.out | apply below_alloc | apply pw_below_drewN | apply below_drew1) | exact HB.out)⟩

/-! ### tachographlaw01_WireFolds: function 3 -/
def tachographlaw01_WireFolds.j0 : Nat → Int → Int → Int → Bool → Option (Bool)
  | 0, _, _, _, _ => none
  | k + 1, x0, x1, x7, x35 => if x35 = true then (some false) else (if x0 ≥ 0 then (if x1 > x0 then ((tachographlaw01_fixed.f).bind fun t111 => (if t111 = true then ((wire_Fold.f x1).bind fun t112 => (if x7 < t112 then (some ((x7 == t112) == (x0 == x1))) else (some false))) else (some false))) else (if x0 < 0 then ((tachographlaw01_fixed.f).bind fun t113 => (if t113 = true then (if x1 < x0 then ((wire_Fold.f x1).bind fun t114 => (if x7 < t114 then (some ((x7 == t114) == (x0 == x1))) else (some false))) else ((wire_Fold.f x1).bind fun t115 => (some ((x7 == t115) == (x0 == x1))))) else (some false))) else ((tachographlaw01_fixed.f).bind fun t116 => (if t116 = true then ((wire_Fold.f x1).bind fun t117 => (some ((x7 == t117) == (x0 == x1)))) else (some false))))) else (if x0 < 0 then ((tachographlaw01_fixed.f).bind fun t118 => (if t118 = true then (if x1 < x0 then ((wire_Fold.f x1).bind fun t119 => (if x7 < t119 then (some ((x7 == t119) == (x0 == x1))) else (some false))) else ((wire_Fold.f x1).bind fun t120 => (some ((x7 == t120) == (x0 == x1))))) else (some false))) else ((tachographlaw01_fixed.f).bind fun t121 => (if t121 = true then ((wire_Fold.f x1).bind fun t122 => (some ((x7 == t122) == (x0 == x1)))) else (some false)))))
def tachographlaw01_WireFolds.f (k : Nat) (a0 : Int) (a1 : Int) (a2 : Int) : Option (Bool) := (wire_Fold.f a0).bind fun t105 => ((wire_Unfold.f a2).bind fun t106 => ((tachographref01_Fold.f a0).bind fun t107 => (if t105 = t107 then ((tachographref01_Unfold.f a2).bind fun t108 => (if t106 = t108 then ((wire_Unfold.f t105).bind fun t109 => (if t109 = a0 then ((wire_Fold.f t106).bind fun t110 => (tachographlaw01_WireFolds.j0 k a0 a1 t105 (t110 != a2))) else (tachographlaw01_WireFolds.j0 k a0 a1 t105 true))) else (tachographlaw01_WireFolds.j0 k a0 a1 t105 true))) else (tachographlaw01_WireFolds.j0 k a0 a1 t105 true))))
theorem tachographlaw01_WireFolds.mono_l : ∀ k, (∀ y0 y1 y2 y3, LeO (tachographlaw01_WireFolds.j0 k y0 y1 y2 y3) (tachographlaw01_WireFolds.j0 (k + 1) y0 y1 y2 y3))
  | 0 => fun _ _ _ _ r h => by simp [tachographlaw01_WireFolds.j0] at h
  | k + 1 => by
    have ih0 := tachographlaw01_WireFolds.mono_l k
    · intro y0 y1 y2 y3
      unfold tachographlaw01_WireFolds.j0
      repeat' first
      | (with_reducible exact ih0 _ _ _ _)
      | (with_reducible exact LeO.refl _)
      | (with_reducible exact LeO.none _)
      | (with_reducible refine LeO.ite ?_ ?_)
      | (with_reducible refine LeO.bind ?_ (fun _ => ?_))
      | exact ih0 _ _ _ _
      | exact LeO.none _
      | refine LeO.ite ?_ ?_
      | refine LeO.bind ?_ (fun _ => ?_)
theorem tachographlaw01_WireFolds.mono : ∀ a0 a1 a2 k, LeO (tachographlaw01_WireFolds.f k a0 a1 a2) (tachographlaw01_WireFolds.f (k + 1) a0 a1 a2) := by
  intro a0 a1 a2 k
  have ih0 := tachographlaw01_WireFolds.mono_l k
  unfold tachographlaw01_WireFolds.f
  repeat' first
      | (with_reducible exact ih0 _ _ _ _)
      | (with_reducible exact LeO.refl _)
      | (with_reducible exact LeO.none _)
      | (with_reducible refine LeO.ite ?_ ?_)
      | (with_reducible refine LeO.bind ?_ (fun _ => ?_))
      | exact ih0 _ _ _ _
      | exact LeO.none _
      | refine LeO.ite ?_ ?_
      | refine LeO.bind ?_ (fun _ => ?_)
set_option maxHeartbeats 8000000 in
set_option maxRecDepth 100000 in
theorem tachographlaw01_WireFolds.calls (k : Nat) (a0 : Int) (a1 : Int) (a2 : Int) (r : Bool) (w : World) (h : tachographlaw01_WireFolds.f k a0 a1 a2 = some r) :
    Calls Try.prog 3 #[.int .i64 a0, .int .i64 a1, .int .u64 a2] w fun e w' => e = .returned (.bool r) ∧ Below w.heap.size w w' := by
  have HB := Aside0.mk (Below.refl w.heap.size w)
  have H : ((wire_Fold.f a0).bind fun t105 => ((wire_Unfold.f a2).bind fun t106 => ((tachographref01_Fold.f a0).bind fun t107 => (if t105 = t107 then ((tachographref01_Unfold.f a2).bind fun t108 => (if t106 = t108 then ((wire_Unfold.f t105).bind fun t109 => (if t109 = a0 then ((wire_Fold.f t106).bind fun t110 => (tachographlaw01_WireFolds.j0 k a0 a1 t105 (t110 != a2))) else (tachographlaw01_WireFolds.j0 k a0 a1 t105 true))) else (tachographlaw01_WireFolds.j0 k a0 a1 t105 true))) else (tachographlaw01_WireFolds.j0 k a0 a1 t105 true))))) = some r := h
  clear h
  replace H := Option.bind_eq_some_iff.mp H
  obtain ⟨t105, A40, H⟩ := H
  replace H : ((wire_Unfold.f a2).bind fun t106 => ((tachographref01_Fold.f a0).bind fun t107 => (if t105 = t107 then ((tachographref01_Unfold.f a2).bind fun t108 => (if t106 = t108 then ((wire_Unfold.f t105).bind fun t109 => (if t109 = a0 then ((wire_Fold.f t106).bind fun t110 => (tachographlaw01_WireFolds.j0 k a0 a1 t105 (t110 != a2))) else (tachographlaw01_WireFolds.j0 k a0 a1 t105 true))) else (tachographlaw01_WireFolds.j0 k a0 a1 t105 true))) else (tachographlaw01_WireFolds.j0 k a0 a1 t105 true)))) = some r := H
  have A4 := Aside0.mk A40
  clear A40
  replace H := Option.bind_eq_some_iff.mp H
  obtain ⟨t106, A50, H⟩ := H
  replace H : ((tachographref01_Fold.f a0).bind fun t107 => (if t105 = t107 then ((tachographref01_Unfold.f a2).bind fun t108 => (if t106 = t108 then ((wire_Unfold.f t105).bind fun t109 => (if t109 = a0 then ((wire_Fold.f t106).bind fun t110 => (tachographlaw01_WireFolds.j0 k a0 a1 t105 (t110 != a2))) else (tachographlaw01_WireFolds.j0 k a0 a1 t105 true))) else (tachographlaw01_WireFolds.j0 k a0 a1 t105 true))) else (tachographlaw01_WireFolds.j0 k a0 a1 t105 true))) = some r := H
  have A5 := Aside0.mk A50
  clear A50
  have HC6 := Aside0.mk H
  clear H
  go_enter Try.func3, Try.ntmps3
  go_upto_region 2 with (first | ((with_reducible refine gate_callee (f := 15) rfl ?_); refine goesL_ (some 11) rfl rfl Try.func15 (by kernel_rfl) rfl #[.int .i64 a0] rfl (by (try simp only [List.map_toArray, List.map_cons, List.map_nil]); first | done | rfl | (simp only [List.length_drop, List.length_take]; rfl)) ?_; (with_reducible refine (wire_Fold.calls a0 t105 _ A4.out).mono ?_); rintro e w' ⟨rfl, ⟨nd, rfl⟩⟩; refine ⟨_, rfl, ?_⟩) | ((with_reducible refine gate_callee (f := 16) rfl ?_); refine goesL_ (some 13) rfl rfl Try.func16 (by kernel_rfl) rfl #[.int .u64 a2] rfl (by (try simp only [List.map_toArray, List.map_cons, List.map_nil]); first | done | rfl | (simp only [List.length_drop, List.length_take]; rfl)) ?_; (with_reducible refine (wire_Unfold.calls a2 t106 _ A5.out).mono ?_); rintro e w' ⟨rfl, ⟨nd, rfl⟩⟩; refine ⟨_, rfl, ?_⟩))
  (try simp only [Act.put, List.setIfInBounds_toArray, List.set_cons_zero, List.set_cons_succ])
  go_cut [35] (fun v35 wc => ∃ (kq : Nat) (x35_5 : Bool), v35 = .bool x35_5 ∧ Aside0 (tachographlaw01_WireFolds.j0 kq a0 a1 t105 x35_5 = some r) ∧ Aside0 (kq ≤ k) ∧ Aside0 (Below w.heap.size w wc))
  case first =>
    have H := HC6.out
    clear HC6
    replace H := Option.bind_eq_some_iff.mp H
    obtain ⟨t107, A70, H⟩ := H
    replace H : (if t105 = t107 then ((tachographref01_Unfold.f a2).bind fun t108 => (if t106 = t108 then ((wire_Unfold.f t105).bind fun t109 => (if t109 = a0 then ((wire_Fold.f t106).bind fun t110 => (tachographlaw01_WireFolds.j0 k a0 a1 t105 (t110 != a2))) else (tachographlaw01_WireFolds.j0 k a0 a1 t105 true))) else (tachographlaw01_WireFolds.j0 k a0 a1 t105 true))) else (tachographlaw01_WireFolds.j0 k a0 a1 t105 true)) = some r := H
    have A7 := Aside0.mk A70
    clear A70
    by_cases c8 : t105 = t107
    · rw [if_pos c8] at H
      have c8b0 : (t105 == t107) = true := beq_iff_eq.mpr c8
      have c8b1 : (t105 != t107) = false := bne_eq_false_iff_eq.mpr c8
      clear c8
      (first | rw [c8b0] | (simp only [i64_w, i32_w]; rw [c8b0]) | skip)
      replace H := Option.bind_eq_some_iff.mp H
      obtain ⟨t108, A90, H⟩ := H
      replace H : (if t106 = t108 then ((wire_Unfold.f t105).bind fun t109 => (if t109 = a0 then ((wire_Fold.f t106).bind fun t110 => (tachographlaw01_WireFolds.j0 k a0 a1 t105 (t110 != a2))) else (tachographlaw01_WireFolds.j0 k a0 a1 t105 true))) else (tachographlaw01_WireFolds.j0 k a0 a1 t105 true)) = some r := H
      have A9 := Aside0.mk A90
      clear A90
      by_cases c10 : t106 = t108
      · rw [if_pos c10] at H
        have c10b0 : (t106 == t108) = true := beq_iff_eq.mpr c10
        have c10b1 : (t106 != t108) = false := bne_eq_false_iff_eq.mpr c10
        clear c10
        replace H := Option.bind_eq_some_iff.mp H
        obtain ⟨t109, A110, H⟩ := H
        replace H : (if t109 = a0 then ((wire_Fold.f t106).bind fun t110 => (tachographlaw01_WireFolds.j0 k a0 a1 t105 (t110 != a2))) else (tachographlaw01_WireFolds.j0 k a0 a1 t105 true)) = some r := H
        have A11 := Aside0.mk A110
        clear A110
        by_cases c12 : t109 = a0
        · rw [if_pos c12] at H
          have c12b0 : (t109 == a0) = true := beq_iff_eq.mpr c12
          have c12b1 : (t109 != a0) = false := bne_eq_false_iff_eq.mpr c12
          clear c12
          replace H := Option.bind_eq_some_iff.mp H
          obtain ⟨t110, A130, H⟩ := H
          replace H : (tachographlaw01_WireFolds.j0 k a0 a1 t105 (t110 != a2)) = some r := H
          have A13 := Aside0.mk A130
          clear A130
          have H' := Aside0.mk H
          clear H
          go_wp2_with (first | ((with_reducible refine gate_callee (f := 17) rfl ?_); refine goesL_ (some 16) rfl rfl Try.func17 (by kernel_rfl) rfl #[.int .i64 a0] rfl (by (try simp only [List.map_toArray, List.map_cons, List.map_nil]); first | done | rfl | (simp only [List.length_drop, List.length_take]; rfl)) ?_; (with_reducible refine (tachographref01_Fold.calls a0 t107 _ A7.out).mono ?_); rintro e w' ⟨rfl, ⟨nd, rfl⟩⟩; refine ⟨_, rfl, ?_⟩) | (go_at_call 18; (with_reducible refine (tachographref01_Unfold.calls a2 t108 _ A9.out).mono ?_); rintro e w' ⟨rfl, ⟨nd, rfl⟩⟩) | (go_at_call 16; (with_reducible refine (wire_Unfold.calls t105 t109 _ A11.out).mono ?_); rintro e w' ⟨rfl, ⟨nd, rfl⟩⟩) | (go_at_call 15; (with_reducible refine (wire_Fold.calls t106 t110 _ A13.out).mono ?_); rintro e w' ⟨rfl, ⟨nd, rfl⟩⟩))
          go_meet
          case rel => exact ⟨_, ((t110 != a2)), (by first | rfl | (simp; done) | (simp [*]; done)), H', ⟨by first | omega | exact Nat.le_refl _⟩, ⟨by repeat (first | (with_reducible first | exact HB.out | apply below_alloc | apply pw_below_drewN | apply below_drew1) | exact HB.out)⟩⟩
        · rw [if_neg c12] at H
          have c12b0 : (t109 == a0) = false := beq_eq_false_iff_ne.mpr c12
          have c12b1 : (t109 != a0) = true := bne_iff_ne.mpr c12
          have H' := Aside0.mk H
          clear H
          go_wp2_with (first | ((with_reducible refine gate_callee (f := 17) rfl ?_); refine goesL_ (some 16) rfl rfl Try.func17 (by kernel_rfl) rfl #[.int .i64 a0] rfl (by (try simp only [List.map_toArray, List.map_cons, List.map_nil]); first | done | rfl | (simp only [List.length_drop, List.length_take]; rfl)) ?_; (with_reducible refine (tachographref01_Fold.calls a0 t107 _ A7.out).mono ?_); rintro e w' ⟨rfl, ⟨nd, rfl⟩⟩; refine ⟨_, rfl, ?_⟩) | (go_at_call 18; (with_reducible refine (tachographref01_Unfold.calls a2 t108 _ A9.out).mono ?_); rintro e w' ⟨rfl, ⟨nd, rfl⟩⟩) | (go_at_call 16; (with_reducible refine (wire_Unfold.calls t105 t109 _ A11.out).mono ?_); rintro e w' ⟨rfl, ⟨nd, rfl⟩⟩))
          go_meet
          case rel => exact ⟨_, (true), (by first | rfl | (simp; done) | (simp [*]; done)), H', ⟨by first | omega | exact Nat.le_refl _⟩, ⟨by repeat (first | (with_reducible first | exact HB.out | apply below_alloc | apply pw_below_drewN | apply below_drew1) | exact HB.out)⟩⟩
      · rw [if_neg c10] at H
        have c10b0 : (t106 == t108) = false := beq_eq_false_iff_ne.mpr c10
        have c10b1 : (t106 != t108) = true := bne_iff_ne.mpr c10
        have H' := Aside0.mk H
        clear H
        go_wp2_with (first | ((with_reducible refine gate_callee (f := 17) rfl ?_); refine goesL_ (some 16) rfl rfl Try.func17 (by kernel_rfl) rfl #[.int .i64 a0] rfl (by (try simp only [List.map_toArray, List.map_cons, List.map_nil]); first | done | rfl | (simp only [List.length_drop, List.length_take]; rfl)) ?_; (with_reducible refine (tachographref01_Fold.calls a0 t107 _ A7.out).mono ?_); rintro e w' ⟨rfl, ⟨nd, rfl⟩⟩; refine ⟨_, rfl, ?_⟩) | (go_at_call 18; (with_reducible refine (tachographref01_Unfold.calls a2 t108 _ A9.out).mono ?_); rintro e w' ⟨rfl, ⟨nd, rfl⟩⟩))
        go_meet
        case rel => exact ⟨_, (true), (by first | rfl | (simp; done) | (simp [*]; done)), H', ⟨by first | omega | exact Nat.le_refl _⟩, ⟨by repeat (first | (with_reducible first | exact HB.out | apply below_alloc | apply pw_below_drewN | apply below_drew1) | exact HB.out)⟩⟩
    · rw [if_neg c8] at H
      have c8b0 : (t105 == t107) = false := beq_eq_false_iff_ne.mpr c8
      have c8b1 : (t105 != t107) = true := bne_iff_ne.mpr c8
      (first | rw [c8b0] | (simp only [i64_w, i32_w]; rw [c8b0]) | skip)
      have H' := Aside0.mk H
      clear H
      go_wp2_with (first | ((with_reducible refine gate_callee (f := 17) rfl ?_); refine goesL_ (some 16) rfl rfl Try.func17 (by kernel_rfl) rfl #[.int .i64 a0] rfl (by (try simp only [List.map_toArray, List.map_cons, List.map_nil]); first | done | rfl | (simp only [List.length_drop, List.length_take]; rfl)) ?_; (with_reducible refine (tachographref01_Fold.calls a0 t107 _ A7.out).mono ?_); rintro e w' ⟨rfl, ⟨nd, rfl⟩⟩; refine ⟨_, rfl, ?_⟩))
      go_meet
      case rel => exact ⟨_, (true), (by first | rfl | (simp; done) | (simp [*]; done)), H', ⟨by first | omega | exact Nat.le_refl _⟩, ⟨by repeat (first | (with_reducible first | exact HB.out | apply below_alloc | apply pw_below_drewN | apply below_drew1) | exact HB.out)⟩⟩
  case rest =>
    clear HC6
    try clear c1
    try clear p2
    try clear c3
    try clear c8
    try clear c8b0
    try clear c8b1
    try clear c10
    try clear c10b0
    try clear c10b1
    try clear c12
    try clear c12b0
    try clear c12b1
    obtain ⟨kq, x35_5, rfl, HA, HJ5, HB⟩ := hcut
    cases kq with
    | zero => exact absurd HA.out (by simp [tachographlaw01_WireFolds.j0])
    | succ kj5 =>
      have H := HA.out
      clear HA
      simp only [tachographlaw01_WireFolds.j0] at H
      by_cases c14 : x35_5 = true
      · subst c14
        have H1 : (some false) = some r := by rw [if_pos rfl] at H; exact H
        clear H
        have H := H1
        clear H1
        obtain rfl := Option.some.inj H
        go_wp2
        go_ret
        exact ⟨by first | rfl | (simp [errW_none, errW_some] <;> rfl) | (simp [*, errW_none, errW_some] <;> rfl), by repeat (first | (with_reducible first | exact HB.out | apply below_alloc | apply pw_below_drewN | apply below_drew1) | exact HB.out)⟩
      · replace c14 := Bool.eq_false_iff.mpr c14
        subst c14
        have H1 : (if a0 ≥ 0 then (if a1 > a0 then ((tachographlaw01_fixed.f).bind fun t111 => (if t111 = true then ((wire_Fold.f a1).bind fun t112 => (if t105 < t112 then (some ((t105 == t112) == (a0 == a1))) else (some false))) else (some false))) else (if a0 < 0 then ((tachographlaw01_fixed.f).bind fun t113 => (if t113 = true then (if a1 < a0 then ((wire_Fold.f a1).bind fun t114 => (if t105 < t114 then (some ((t105 == t114) == (a0 == a1))) else (some false))) else ((wire_Fold.f a1).bind fun t115 => (some ((t105 == t115) == (a0 == a1))))) else (some false))) else ((tachographlaw01_fixed.f).bind fun t116 => (if t116 = true then ((wire_Fold.f a1).bind fun t117 => (some ((t105 == t117) == (a0 == a1)))) else (some false))))) else (if a0 < 0 then ((tachographlaw01_fixed.f).bind fun t118 => (if t118 = true then (if a1 < a0 then ((wire_Fold.f a1).bind fun t119 => (if t105 < t119 then (some ((t105 == t119) == (a0 == a1))) else (some false))) else ((wire_Fold.f a1).bind fun t120 => (some ((t105 == t120) == (a0 == a1))))) else (some false))) else ((tachographlaw01_fixed.f).bind fun t121 => (if t121 = true then ((wire_Fold.f a1).bind fun t122 => (some ((t105 == t122) == (a0 == a1)))) else (some false))))) = some r := by rw [if_neg (show ¬ (false = true) by decide)] at H; exact H
        clear H
        have H := H1
        clear H1
        by_cases c15 : a0 ≥ 0
        · rw [if_pos c15] at H
          have c15b0 : decide (0 ≤ a0) = true := decide_eq_true c15
          clear c15
          by_cases c16 : a1 > a0
          · rw [if_pos c16] at H
            have c16b0 : decide (a0 < a1) = true := decide_eq_true c16
            clear c16
            replace H := Option.bind_eq_some_iff.mp H
            obtain ⟨t111, A170, H⟩ := H
            replace H : (if t111 = true then ((wire_Fold.f a1).bind fun t112 => (if t105 < t112 then (some ((t105 == t112) == (a0 == a1))) else (some false))) else (some false)) = some r := H
            have A17 := Aside0.mk A170
            clear A170
            by_cases c18 : t111 = true
            · subst c18
              have H1 : ((wire_Fold.f a1).bind fun t112 => (if t105 < t112 then (some ((t105 == t112) == (a0 == a1))) else (some false))) = some r := by rw [if_pos rfl] at H; exact H
              clear H
              have H := H1
              clear H1
              replace H := Option.bind_eq_some_iff.mp H
              obtain ⟨t112, A190, H⟩ := H
              replace H : (if t105 < t112 then (some ((t105 == t112) == (a0 == a1))) else (some false)) = some r := H
              have A19 := Aside0.mk A190
              clear A190
              by_cases c20 : t105 < t112
              · rw [if_pos c20] at H
                have c20b0 : decide (t105 < t112) = true := decide_eq_true c20
                clear c20
                obtain rfl := Option.some.inj H
                go_wp2_with (first | ((with_reducible refine gate_callee (f := 19) rfl ?_); refine goesL_ (some 52) rfl rfl Try.func19 (by kernel_rfl) rfl #[] rfl (by (try simp only [List.map_toArray, List.map_cons, List.map_nil]); first | done | rfl | (simp only [List.length_drop, List.length_take]; rfl)) ?_; (with_reducible refine (tachographlaw01_fixed.calls  true _ A17.out).mono ?_); rintro e w21 ⟨rfl, hb⟩; refine ⟨_, rfl, ?_⟩; have n0_ := Aside0.mk (below_step (by repeat (first | (with_reducible first | exact HB.out | apply below_alloc | apply pw_below_drewN | apply below_drew1) | exact HB.out)) hb); clear HB; have HB := n0_; clear n0_; (try clear hb); (try clear hb2); (try clear hk); (try clear hi)) | (go_at_call 15; (with_reducible refine (wire_Fold.calls a1 t112 _ A19.out).mono ?_); rintro e w' ⟨rfl, ⟨nd, rfl⟩⟩))
                go_ret
                exact ⟨by first | rfl | (simp [errW_none, errW_some] <;> rfl) | (simp [*, errW_none, errW_some] <;> rfl), by repeat (first | (with_reducible first | exact HB.out | apply below_alloc | apply pw_below_drewN | apply below_drew1) | exact HB.out)⟩
              · rw [if_neg c20] at H
                have c20b0 : decide (t105 < t112) = false := decide_eq_false c20
                clear c20
                obtain rfl := Option.some.inj H
                go_wp2_with (first | ((with_reducible refine gate_callee (f := 19) rfl ?_); refine goesL_ (some 52) rfl rfl Try.func19 (by kernel_rfl) rfl #[] rfl (by (try simp only [List.map_toArray, List.map_cons, List.map_nil]); first | done | rfl | (simp only [List.length_drop, List.length_take]; rfl)) ?_; (with_reducible refine (tachographlaw01_fixed.calls  true _ A17.out).mono ?_); rintro e w22 ⟨rfl, hb⟩; refine ⟨_, rfl, ?_⟩; have n0_ := Aside0.mk (below_step (by repeat (first | (with_reducible first | exact HB.out | apply below_alloc | apply pw_below_drewN | apply below_drew1) | exact HB.out)) hb); clear HB; have HB := n0_; clear n0_; (try clear hb); (try clear hb2); (try clear hk); (try clear hi)) | (go_at_call 15; (with_reducible refine (wire_Fold.calls a1 t112 _ A19.out).mono ?_); rintro e w' ⟨rfl, ⟨nd, rfl⟩⟩))
                go_ret
                exact ⟨by first | rfl | (simp [errW_none, errW_some] <;> rfl) | (simp [*, errW_none, errW_some] <;> rfl), by repeat (first | (with_reducible first | exact HB.out | apply below_alloc | apply pw_below_drewN | apply below_drew1) | exact HB.out)⟩
            · replace c18 := Bool.eq_false_iff.mpr c18
              subst c18
              have H1 : (some false) = some r := by rw [if_neg (show ¬ (false = true) by decide)] at H; exact H
              clear H
              have H := H1
              clear H1
              obtain rfl := Option.some.inj H
              go_wp2_with (first | ((with_reducible refine gate_callee (f := 19) rfl ?_); refine goesL_ (some 52) rfl rfl Try.func19 (by kernel_rfl) rfl #[] rfl (by (try simp only [List.map_toArray, List.map_cons, List.map_nil]); first | done | rfl | (simp only [List.length_drop, List.length_take]; rfl)) ?_; (with_reducible refine (tachographlaw01_fixed.calls  false _ A17.out).mono ?_); rintro e w23 ⟨rfl, hb⟩; refine ⟨_, rfl, ?_⟩; have n0_ := Aside0.mk (below_step (by repeat (first | (with_reducible first | exact HB.out | apply below_alloc | apply pw_below_drewN | apply below_drew1) | exact HB.out)) hb); clear HB; have HB := n0_; clear n0_; (try clear hb); (try clear hb2); (try clear hk); (try clear hi)))
              go_ret
              exact ⟨by first | rfl | (simp [errW_none, errW_some] <;> rfl) | (simp [*, errW_none, errW_some] <;> rfl), by repeat (first | (with_reducible first | exact HB.out | apply below_alloc | apply pw_below_drewN | apply below_drew1) | exact HB.out)⟩
          · rw [if_neg c16] at H
            have c16b0 : decide (a0 < a1) = false := decide_eq_false c16
            clear c16
            by_cases c24 : a0 < 0
            · rw [if_pos c24] at H
              have c24b0 : decide (a0 < 0) = true := decide_eq_true c24
              clear c24
              replace H := Option.bind_eq_some_iff.mp H
              obtain ⟨t113, A250, H⟩ := H
              replace H : (if t113 = true then (if a1 < a0 then ((wire_Fold.f a1).bind fun t114 => (if t105 < t114 then (some ((t105 == t114) == (a0 == a1))) else (some false))) else ((wire_Fold.f a1).bind fun t115 => (some ((t105 == t115) == (a0 == a1))))) else (some false)) = some r := H
              have A25 := Aside0.mk A250
              clear A250
              by_cases c26 : t113 = true
              · subst c26
                have H1 : (if a1 < a0 then ((wire_Fold.f a1).bind fun t114 => (if t105 < t114 then (some ((t105 == t114) == (a0 == a1))) else (some false))) else ((wire_Fold.f a1).bind fun t115 => (some ((t105 == t115) == (a0 == a1))))) = some r := by rw [if_pos rfl] at H; exact H
                clear H
                have H := H1
                clear H1
                by_cases c27 : a1 < a0
                · rw [if_pos c27] at H
                  have c27b0 : decide (a1 < a0) = true := decide_eq_true c27
                  clear c27
                  replace H := Option.bind_eq_some_iff.mp H
                  obtain ⟨t114, A280, H⟩ := H
                  replace H : (if t105 < t114 then (some ((t105 == t114) == (a0 == a1))) else (some false)) = some r := H
                  have A28 := Aside0.mk A280
                  clear A280
                  by_cases c29 : t105 < t114
                  · rw [if_pos c29] at H
                    have c29b0 : decide (t105 < t114) = true := decide_eq_true c29
                    clear c29
                    obtain rfl := Option.some.inj H
                    go_wp2_with (first | ((with_reducible refine gate_callee (f := 19) rfl ?_); refine goesL_ (some 52) rfl rfl Try.func19 (by kernel_rfl) rfl #[] rfl (by (try simp only [List.map_toArray, List.map_cons, List.map_nil]); first | done | rfl | (simp only [List.length_drop, List.length_take]; rfl)) ?_; (with_reducible refine (tachographlaw01_fixed.calls  true _ A25.out).mono ?_); rintro e w30 ⟨rfl, hb⟩; refine ⟨_, rfl, ?_⟩; have n0_ := Aside0.mk (below_step (by repeat (first | (with_reducible first | exact HB.out | apply below_alloc | apply pw_below_drewN | apply below_drew1) | exact HB.out)) hb); clear HB; have HB := n0_; clear n0_; (try clear hb); (try clear hb2); (try clear hk); (try clear hi)) | (go_at_call 15; (with_reducible refine (wire_Fold.calls a1 t114 _ A28.out).mono ?_); rintro e w' ⟨rfl, ⟨nd, rfl⟩⟩))
                    go_ret
                    exact ⟨by first | rfl | (simp [errW_none, errW_some] <;> rfl) | (simp [*, errW_none, errW_some] <;> rfl), by repeat (first | (with_reducible first | exact HB.out | apply below_alloc | apply pw_below_drewN | apply below_drew1) | exact HB.out)⟩
                  · rw [if_neg c29] at H
                    have c29b0 : decide (t105 < t114) = false := decide_eq_false c29
                    clear c29
                    obtain rfl := Option.some.inj H
                    go_wp2_with (first | ((with_reducible refine gate_callee (f := 19) rfl ?_); refine goesL_ (some 52) rfl rfl Try.func19 (by kernel_rfl) rfl #[] rfl (by (try simp only [List.map_toArray, List.map_cons, List.map_nil]); first | done | rfl | (simp only [List.length_drop, List.length_take]; rfl)) ?_; (with_reducible refine (tachographlaw01_fixed.calls  true _ A25.out).mono ?_); rintro e w31 ⟨rfl, hb⟩; refine ⟨_, rfl, ?_⟩; have n0_ := Aside0.mk (below_step (by repeat (first | (with_reducible first | exact HB.out | apply below_alloc | apply pw_below_drewN | apply below_drew1) | exact HB.out)) hb); clear HB; have HB := n0_; clear n0_; (try clear hb); (try clear hb2); (try clear hk); (try clear hi)) | (go_at_call 15; (with_reducible refine (wire_Fold.calls a1 t114 _ A28.out).mono ?_); rintro e w' ⟨rfl, ⟨nd, rfl⟩⟩))
                    go_ret
                    exact ⟨by first | rfl | (simp [errW_none, errW_some] <;> rfl) | (simp [*, errW_none, errW_some] <;> rfl), by repeat (first | (with_reducible first | exact HB.out | apply below_alloc | apply pw_below_drewN | apply below_drew1) | exact HB.out)⟩
                · rw [if_neg c27] at H
                  have c27b0 : decide (a1 < a0) = false := decide_eq_false c27
                  clear c27
                  replace H := Option.bind_eq_some_iff.mp H
                  obtain ⟨t115, A320, H⟩ := H
                  replace H : (some ((t105 == t115) == (a0 == a1))) = some r := H
                  have A32 := Aside0.mk A320
                  clear A320
                  obtain rfl := Option.some.inj H
                  go_wp2_with (first | ((with_reducible refine gate_callee (f := 19) rfl ?_); refine goesL_ (some 52) rfl rfl Try.func19 (by kernel_rfl) rfl #[] rfl (by (try simp only [List.map_toArray, List.map_cons, List.map_nil]); first | done | rfl | (simp only [List.length_drop, List.length_take]; rfl)) ?_; (with_reducible refine (tachographlaw01_fixed.calls  true _ A25.out).mono ?_); rintro e w33 ⟨rfl, hb⟩; refine ⟨_, rfl, ?_⟩; have n0_ := Aside0.mk (below_step (by repeat (first | (with_reducible first | exact HB.out | apply below_alloc | apply pw_below_drewN | apply below_drew1) | exact HB.out)) hb); clear HB; have HB := n0_; clear n0_; (try clear hb); (try clear hb2); (try clear hk); (try clear hi)) | (go_at_call 15; (with_reducible refine (wire_Fold.calls a1 t115 _ A32.out).mono ?_); rintro e w' ⟨rfl, ⟨nd, rfl⟩⟩))
                  go_ret
                  exact ⟨by first | rfl | (simp [errW_none, errW_some] <;> rfl) | (simp [*, errW_none, errW_some] <;> rfl), by repeat (first | (with_reducible first | exact HB.out | apply below_alloc | apply pw_below_drewN | apply below_drew1) | exact HB.out)⟩
              · replace c26 := Bool.eq_false_iff.mpr c26
                subst c26
                have H1 : (some false) = some r := by rw [if_neg (show ¬ (false = true) by decide)] at H; exact H
                clear H
                have H := H1
                clear H1
                obtain rfl := Option.some.inj H
                go_wp2_with (first | ((with_reducible refine gate_callee (f := 19) rfl ?_); refine goesL_ (some 52) rfl rfl Try.func19 (by kernel_rfl) rfl #[] rfl (by (try simp only [List.map_toArray, List.map_cons, List.map_nil]); first | done | rfl | (simp only [List.length_drop, List.length_take]; rfl)) ?_; (with_reducible refine (tachographlaw01_fixed.calls  false _ A25.out).mono ?_); rintro e w34 ⟨rfl, hb⟩; refine ⟨_, rfl, ?_⟩; have n0_ := Aside0.mk (below_step (by repeat (first | (with_reducible first | exact HB.out | apply below_alloc | apply pw_below_drewN | apply below_drew1) | exact HB.out)) hb); clear HB; have HB := n0_; clear n0_; (try clear hb); (try clear hb2); (try clear hk); (try clear hi)))
                go_ret
                exact ⟨by first | rfl | (simp [errW_none, errW_some] <;> rfl) | (simp [*, errW_none, errW_some] <;> rfl), by repeat (first | (with_reducible first | exact HB.out | apply below_alloc | apply pw_below_drewN | apply below_drew1) | exact HB.out)⟩
            · rw [if_neg c24] at H
              have c24b0 : decide (a0 < 0) = false := decide_eq_false c24
              clear c24
              replace H := Option.bind_eq_some_iff.mp H
              obtain ⟨t116, A350, H⟩ := H
              replace H : (if t116 = true then ((wire_Fold.f a1).bind fun t117 => (some ((t105 == t117) == (a0 == a1)))) else (some false)) = some r := H
              have A35 := Aside0.mk A350
              clear A350
              by_cases c36 : t116 = true
              · subst c36
                have H1 : ((wire_Fold.f a1).bind fun t117 => (some ((t105 == t117) == (a0 == a1)))) = some r := by rw [if_pos rfl] at H; exact H
                clear H
                have H := H1
                clear H1
                replace H := Option.bind_eq_some_iff.mp H
                obtain ⟨t117, A370, H⟩ := H
                replace H : (some ((t105 == t117) == (a0 == a1))) = some r := H
                have A37 := Aside0.mk A370
                clear A370
                obtain rfl := Option.some.inj H
                go_wp2_with (first | ((with_reducible refine gate_callee (f := 19) rfl ?_); refine goesL_ (some 52) rfl rfl Try.func19 (by kernel_rfl) rfl #[] rfl (by (try simp only [List.map_toArray, List.map_cons, List.map_nil]); first | done | rfl | (simp only [List.length_drop, List.length_take]; rfl)) ?_; (with_reducible refine (tachographlaw01_fixed.calls  true _ A35.out).mono ?_); rintro e w38 ⟨rfl, hb⟩; refine ⟨_, rfl, ?_⟩; have n0_ := Aside0.mk (below_step (by repeat (first | (with_reducible first | exact HB.out | apply below_alloc | apply pw_below_drewN | apply below_drew1) | exact HB.out)) hb); clear HB; have HB := n0_; clear n0_; (try clear hb); (try clear hb2); (try clear hk); (try clear hi)) | (go_at_call 15; (with_reducible refine (wire_Fold.calls a1 t117 _ A37.out).mono ?_); rintro e w' ⟨rfl, ⟨nd, rfl⟩⟩))
                go_ret
                exact ⟨by first | rfl | (simp [errW_none, errW_some] <;> rfl) | (simp [*, errW_none, errW_some] <;> rfl), by repeat (first | (with_reducible first | exact HB.out | apply below_alloc | apply pw_below_drewN | apply below_drew1) | exact HB.out)⟩
              · replace c36 := Bool.eq_false_iff.mpr c36
                subst c36
                have H1 : (some false) = some r := by rw [if_neg (show ¬ (false = true) by decide)] at H; exact H
                clear H
                have H := H1
                clear H1
                obtain rfl := Option.some.inj H
                go_wp2_with (first | ((with_reducible refine gate_callee (f := 19) rfl ?_); refine goesL_ (some 52) rfl rfl Try.func19 (by kernel_rfl) rfl #[] rfl (by (try simp only [List.map_toArray, List.map_cons, List.map_nil]); first | done | rfl | (simp only [List.length_drop, List.length_take]; rfl)) ?_; (with_reducible refine (tachographlaw01_fixed.calls  false _ A35.out).mono ?_); rintro e w39 ⟨rfl, hb⟩; refine ⟨_, rfl, ?_⟩; have n0_ := Aside0.mk (below_step (by repeat (first | (with_reducible first | exact HB.out | apply below_alloc | apply pw_below_drewN | apply below_drew1) | exact HB.out)) hb); clear HB; have HB := n0_; clear n0_; (try clear hb); (try clear hb2); (try clear hk); (try clear hi)))
                go_ret
                exact ⟨by first | rfl | (simp [errW_none, errW_some] <;> rfl) | (simp [*, errW_none, errW_some] <;> rfl), by repeat (first | (with_reducible first | exact HB.out | apply below_alloc | apply pw_below_drewN | apply below_drew1) | exact HB.out)⟩
        · rw [if_neg c15] at H
          have c15b0 : decide (0 ≤ a0) = false := decide_eq_false c15
          clear c15
          by_cases c40 : a0 < 0
          · rw [if_pos c40] at H
            have c40b0 : decide (a0 < 0) = true := decide_eq_true c40
            clear c40
            replace H := Option.bind_eq_some_iff.mp H
            obtain ⟨t118, A410, H⟩ := H
            replace H : (if t118 = true then (if a1 < a0 then ((wire_Fold.f a1).bind fun t119 => (if t105 < t119 then (some ((t105 == t119) == (a0 == a1))) else (some false))) else ((wire_Fold.f a1).bind fun t120 => (some ((t105 == t120) == (a0 == a1))))) else (some false)) = some r := H
            have A41 := Aside0.mk A410
            clear A410
            by_cases c42 : t118 = true
            · subst c42
              have H1 : (if a1 < a0 then ((wire_Fold.f a1).bind fun t119 => (if t105 < t119 then (some ((t105 == t119) == (a0 == a1))) else (some false))) else ((wire_Fold.f a1).bind fun t120 => (some ((t105 == t120) == (a0 == a1))))) = some r := by rw [if_pos rfl] at H; exact H
              clear H
              have H := H1
              clear H1
              by_cases c43 : a1 < a0
              · rw [if_pos c43] at H
                have c43b0 : decide (a1 < a0) = true := decide_eq_true c43
                clear c43
                replace H := Option.bind_eq_some_iff.mp H
                obtain ⟨t119, A440, H⟩ := H
                replace H : (if t105 < t119 then (some ((t105 == t119) == (a0 == a1))) else (some false)) = some r := H
                have A44 := Aside0.mk A440
                clear A440
                by_cases c45 : t105 < t119
                · rw [if_pos c45] at H
                  have c45b0 : decide (t105 < t119) = true := decide_eq_true c45
                  clear c45
                  obtain rfl := Option.some.inj H
                  go_wp2_with (first | ((with_reducible refine gate_callee (f := 19) rfl ?_); refine goesL_ (some 52) rfl rfl Try.func19 (by kernel_rfl) rfl #[] rfl (by (try simp only [List.map_toArray, List.map_cons, List.map_nil]); first | done | rfl | (simp only [List.length_drop, List.length_take]; rfl)) ?_; (with_reducible refine (tachographlaw01_fixed.calls  true _ A41.out).mono ?_); rintro e w46 ⟨rfl, hb⟩; refine ⟨_, rfl, ?_⟩; have n0_ := Aside0.mk (below_step (by repeat (first | (with_reducible first | exact HB.out | apply below_alloc | apply pw_below_drewN | apply below_drew1) | exact HB.out)) hb); clear HB; have HB := n0_; clear n0_; (try clear hb); (try clear hb2); (try clear hk); (try clear hi)) | (go_at_call 15; (with_reducible refine (wire_Fold.calls a1 t119 _ A44.out).mono ?_); rintro e w' ⟨rfl, ⟨nd, rfl⟩⟩))
                  go_ret
                  exact ⟨by first | rfl | (simp [errW_none, errW_some] <;> rfl) | (simp [*, errW_none, errW_some] <;> rfl), by repeat (first | (with_reducible first | exact HB.out | apply below_alloc | apply pw_below_drewN | apply below_drew1) | exact HB.out)⟩
                · rw [if_neg c45] at H
                  have c45b0 : decide (t105 < t119) = false := decide_eq_false c45
                  clear c45
                  obtain rfl := Option.some.inj H
                  go_wp2_with (first | ((with_reducible refine gate_callee (f := 19) rfl ?_); refine goesL_ (some 52) rfl rfl Try.func19 (by kernel_rfl) rfl #[] rfl (by (try simp only [List.map_toArray, List.map_cons, List.map_nil]); first | done | rfl | (simp only [List.length_drop, List.length_take]; rfl)) ?_; (with_reducible refine (tachographlaw01_fixed.calls  true _ A41.out).mono ?_); rintro e w47 ⟨rfl, hb⟩; refine ⟨_, rfl, ?_⟩; have n0_ := Aside0.mk (below_step (by repeat (first | (with_reducible first | exact HB.out | apply below_alloc | apply pw_below_drewN | apply below_drew1) | exact HB.out)) hb); clear HB; have HB := n0_; clear n0_; (try clear hb); (try clear hb2); (try clear hk); (try clear hi)) | (go_at_call 15; (with_reducible refine (wire_Fold.calls a1 t119 _ A44.out).mono ?_); rintro e w' ⟨rfl, ⟨nd, rfl⟩⟩))
                  go_ret
                  exact ⟨by first | rfl | (simp [errW_none, errW_some] <;> rfl) | (simp [*, errW_none, errW_some] <;> rfl), by repeat (first | (with_reducible first | exact HB.out | apply below_alloc | apply pw_below_drewN | apply below_drew1) | exact HB.out)⟩
              · rw [if_neg c43] at H
                have c43b0 : decide (a1 < a0) = false := decide_eq_false c43
                clear c43
                replace H := Option.bind_eq_some_iff.mp H
                obtain ⟨t120, A480, H⟩ := H
                replace H : (some ((t105 == t120) == (a0 == a1))) = some r := H
                have A48 := Aside0.mk A480
                clear A480
                obtain rfl := Option.some.inj H
                go_wp2_with (first | ((with_reducible refine gate_callee (f := 19) rfl ?_); refine goesL_ (some 52) rfl rfl Try.func19 (by kernel_rfl) rfl #[] rfl (by (try simp only [List.map_toArray, List.map_cons, List.map_nil]); first | done | rfl | (simp only [List.length_drop, List.length_take]; rfl)) ?_; (with_reducible refine (tachographlaw01_fixed.calls  true _ A41.out).mono ?_); rintro e w49 ⟨rfl, hb⟩; refine ⟨_, rfl, ?_⟩; have n0_ := Aside0.mk (below_step (by repeat (first | (with_reducible first | exact HB.out | apply below_alloc | apply pw_below_drewN | apply below_drew1) | exact HB.out)) hb); clear HB; have HB := n0_; clear n0_; (try clear hb); (try clear hb2); (try clear hk); (try clear hi)) | (go_at_call 15; (with_reducible refine (wire_Fold.calls a1 t120 _ A48.out).mono ?_); rintro e w' ⟨rfl, ⟨nd, rfl⟩⟩))
                go_ret
                exact ⟨by first | rfl | (simp [errW_none, errW_some] <;> rfl) | (simp [*, errW_none, errW_some] <;> rfl), by repeat (first | (with_reducible first | exact HB.out | apply below_alloc | apply pw_below_drewN | apply below_drew1) | exact HB.out)⟩
            · replace c42 := Bool.eq_false_iff.mpr c42
              subst c42
              have H1 : (some false) = some r := by rw [if_neg (show ¬ (false = true) by decide)] at H; exact H
              clear H
              have H := H1
              clear H1
              obtain rfl := Option.some.inj H
              go_wp2_with (first | ((with_reducible refine gate_callee (f := 19) rfl ?_); refine goesL_ (some 52) rfl rfl Try.func19 (by kernel_rfl) rfl #[] rfl (by (try simp only [List.map_toArray, List.map_cons, List.map_nil]); first | done | rfl | (simp only [List.length_drop, List.length_take]; rfl)) ?_; (with_reducible refine (tachographlaw01_fixed.calls  false _ A41.out).mono ?_); rintro e w50 ⟨rfl, hb⟩; refine ⟨_, rfl, ?_⟩; have n0_ := Aside0.mk (below_step (by repeat (first | (with_reducible first | exact HB.out | apply below_alloc | apply pw_below_drewN | apply below_drew1) | exact HB.out)) hb); clear HB; have HB := n0_; clear n0_; (try clear hb); (try clear hb2); (try clear hk); (try clear hi)))
              go_ret
              exact ⟨by first | rfl | (simp [errW_none, errW_some] <;> rfl) | (simp [*, errW_none, errW_some] <;> rfl), by repeat (first | (with_reducible first | exact HB.out | apply below_alloc | apply pw_below_drewN | apply below_drew1) | exact HB.out)⟩
          · rw [if_neg c40] at H
            have c40b0 : decide (a0 < 0) = false := decide_eq_false c40
            clear c40
            replace H := Option.bind_eq_some_iff.mp H
            obtain ⟨t121, A510, H⟩ := H
            replace H : (if t121 = true then ((wire_Fold.f a1).bind fun t122 => (some ((t105 == t122) == (a0 == a1)))) else (some false)) = some r := H
            have A51 := Aside0.mk A510
            clear A510
            by_cases c52 : t121 = true
            · subst c52
              have H1 : ((wire_Fold.f a1).bind fun t122 => (some ((t105 == t122) == (a0 == a1)))) = some r := by rw [if_pos rfl] at H; exact H
              clear H
              have H := H1
              clear H1
              replace H := Option.bind_eq_some_iff.mp H
              obtain ⟨t122, A530, H⟩ := H
              replace H : (some ((t105 == t122) == (a0 == a1))) = some r := H
              have A53 := Aside0.mk A530
              clear A530
              obtain rfl := Option.some.inj H
              go_wp2_with (first | ((with_reducible refine gate_callee (f := 19) rfl ?_); refine goesL_ (some 52) rfl rfl Try.func19 (by kernel_rfl) rfl #[] rfl (by (try simp only [List.map_toArray, List.map_cons, List.map_nil]); first | done | rfl | (simp only [List.length_drop, List.length_take]; rfl)) ?_; (with_reducible refine (tachographlaw01_fixed.calls  true _ A51.out).mono ?_); rintro e w54 ⟨rfl, hb⟩; refine ⟨_, rfl, ?_⟩; have n0_ := Aside0.mk (below_step (by repeat (first | (with_reducible first | exact HB.out | apply below_alloc | apply pw_below_drewN | apply below_drew1) | exact HB.out)) hb); clear HB; have HB := n0_; clear n0_; (try clear hb); (try clear hb2); (try clear hk); (try clear hi)) | (go_at_call 15; (with_reducible refine (wire_Fold.calls a1 t122 _ A53.out).mono ?_); rintro e w' ⟨rfl, ⟨nd, rfl⟩⟩))
              go_ret
              exact ⟨by first | rfl | (simp [errW_none, errW_some] <;> rfl) | (simp [*, errW_none, errW_some] <;> rfl), by repeat (first | (with_reducible first | exact HB.out | apply below_alloc | apply pw_below_drewN | apply below_drew1) | exact HB.out)⟩
            · replace c52 := Bool.eq_false_iff.mpr c52
              subst c52
              have H1 : (some false) = some r := by rw [if_neg (show ¬ (false = true) by decide)] at H; exact H
              clear H
              have H := H1
              clear H1
              obtain rfl := Option.some.inj H
              go_wp2_with (first | ((with_reducible refine gate_callee (f := 19) rfl ?_); refine goesL_ (some 52) rfl rfl Try.func19 (by kernel_rfl) rfl #[] rfl (by (try simp only [List.map_toArray, List.map_cons, List.map_nil]); first | done | rfl | (simp only [List.length_drop, List.length_take]; rfl)) ?_; (with_reducible refine (tachographlaw01_fixed.calls  false _ A51.out).mono ?_); rintro e w55 ⟨rfl, hb⟩; refine ⟨_, rfl, ?_⟩; have n0_ := Aside0.mk (below_step (by repeat (first | (with_reducible first | exact HB.out | apply below_alloc | apply pw_below_drewN | apply below_drew1) | exact HB.out)) hb); clear HB; have HB := n0_; clear n0_; (try clear hb); (try clear hb2); (try clear hk); (try clear hi)))
              go_ret
              exact ⟨by first | rfl | (simp [errW_none, errW_some] <;> rfl) | (simp [*, errW_none, errW_some] <;> rfl), by repeat (first | (with_reducible first | exact HB.out | apply below_alloc | apply pw_below_drewN | apply below_drew1) | exact HB.out)⟩

/-- THE ONE PURE STATEMENT of tachographlaw01_WireFolds: yours. -/
def tachographlaw01_WireFolds.Pure : Prop := ∀ (a0 : Int) (a1 : Int) (a2 : Int), (Lit.int .i64 a0).wf = true → (Lit.int .i64 a1).wf = true → (Lit.int .u64 a2).wf = true → ∃ k, tachographlaw01_WireFolds.f k a0 a1 a2 = some true
theorem tachographlaw01_WireFolds.walk (P : tachographlaw01_WireFolds.Pure) (a0 : Int) (a1 : Int) (a2 : Int) (w : World) (w0 : (Lit.int .i64 a0).wf = true) (w1 : (Lit.int .i64 a1).wf = true) (w2 : (Lit.int .u64 a2).wf = true) :
    Calls Try.prog 3 #[.int .i64 a0, .int .i64 a1, .int .u64 a2] w fun e w' => e = .returned (.bool true) ∧ Below w.heap.size w w' := by
  obtain ⟨k, h⟩ := P a0 a1 a2 w0 w1 w2
  refine (tachographlaw01_WireFolds.calls k a0 a1 a2 true w h).mono ?_
  rintro e w' ⟨rfl, hd⟩
  exact ⟨rfl, hd⟩

end Go.Proofs.Ytjfklfmfeghjnaa.PWire
