-- Contracts of Go functions, each with its plain Lean function: written by wip/tools/myprint.py of this work (the kit's print, with contracts proved by hand spliced in).
import Derived.Test.YtjfklfmfeghjnabPTx0
namespace Go.Proofs.Ytjfklfmfeghjnab.PT
open Go.RowKit Go.Proofs.YtjfklfmfeghjnabW.PrintWords Go.Proofs.YtjfklfmfeghjnabW.PrintLast Go.Proofs.YtjfklfmfeghjnabW.PrintMore
attribute [local go_sem] max2_int min2_int max_two min_two max_three min_three max_four min_four   -- for this text's walks alone
set_option linter.unusedVariables false
set_option linter.unusedSimpArgs false

/-! ### trace_Count: function 33 -/
section
open Go.Shelf Go.Proofs.YtjfklfmfeghjnabAid
attribute [local go_sem] Oper.semAt_some
def trace_evs (ts : List S44) : List S61 := ts.flatMap (·.f1)

theorem trace_rdP (ts : List S44) (i : Nat) (h : i < ts.length) : rd_T44 ts (i : Int) = ts[i] := by
  simp [rd_T44, List.getD_eq_getElem?_getD, List.getElem?_eq_getElem h]
theorem trace_rdE (ts : List S61) (i : Nat) (h : i < ts.length) : rd_T61 ts (i : Int) = ts[i] := by
  simp [rd_T61, List.getD_eq_getElem?_getD, List.getElem?_eq_getElem h]
theorem trace_evs_next (ts : List S44) (i : Nat) (h : i < ts.length) : trace_evs (ts.take (i + 1)) = trace_evs (ts.take i) ++ (rd_T44 ts (i : Int)).f1 := by
  unfold trace_evs
  rw [trace_rdP ts i h, List.take_succ_eq_append_getElem h, List.flatMap_append]
  simp only [List.flatMap_cons, List.flatMap_nil, List.append_nil]
theorem trace_evs_split (ts : List S44) (i : Nat) (h : i < ts.length) (j : Nat) (hj : j < (rd_T44 ts (i : Int)).f1.length) :
    (trace_evs (ts.take i) ++ (rd_T44 ts (i : Int)).f1.take j) ++ rd_T61 (rd_T44 ts (i : Int)).f1 (j : Int) :: ((rd_T44 ts (i : Int)).f1.drop (j + 1) ++ trace_evs (ts.drop (i + 1))) = trace_evs ts := by
  have e1 : trace_evs ts = trace_evs (ts.take (i + 1)) ++ trace_evs (ts.drop (i + 1)) := by
    unfold trace_evs
    rw [← List.flatMap_append, List.take_append_drop]
  rw [e1, trace_evs_next ts i h, trace_rdE _ j hj]
  have e2 := List.take_append_drop j (rd_T44 ts (i : Int)).f1
  rw [List.drop_eq_getElem_cons hj] at e2
  conv => rhs; rw [← e2]
  simp only [List.append_assoc, List.cons_append]

set_option maxRecDepth 100000 in
set_option maxHeartbeats 1000000 in
theorem trace_events1 (F : Fence) (n : Nat) (h6 : F.fn 91) (hro : F.round = none) (hn : 1 ≤ n) (l B : Nat) (A : Option Addr) (c : Nat) (ts : List S44) (w0 : World) (hts : Kd.C k44 w0 A ts.length ts) (hc : ts.length ≤ c) (J : List S61 → World → Prop)
    (W : World)
    (hY : ∀ pre x rest W1 A' c', pre ++ x :: rest = trace_evs ts → x.f1.length ≤ c' → Kd.C k70 w0 A' x.f1.length x.f1 → J pre W1 → YieldAt F (n - 1) Try.prog l #[.agg #[.int .i64 x.f0, .slice A' x.f1.length c']] W1 fun e W' => e = .returned (.bool true) ∧ J (pre ++ [x]) W')
    (hJ : ∀ pre W1 W2, Below W.heap.size W1 W2 → J pre W1 → J pre W2)
    (hJb : ∀ pre W1, J pre W1 → Below w0.heap.size w0 W1 ∧ W.heap.size ≤ W1.heap.size)
    (hB : Boxed W B 37 (.slice A ts.length c)) (h0 : J [] W) :
    CallsIn F n Try.prog 91 #[.func (.yield l) #[] #[], .pointer (some ⟨B, 0, none⟩)] W fun e W' => (∃ v, e = .returned v) ∧ J (trace_evs ts) W' := by
  have HY := Lib.hid hY; clear hY
  have HJ := Lib.hid hJ; clear hJ
  have HJb := Lib.hid hJb; clear hJb
  have hbt : ts.length ≤ 9223372036854775807 := hts.2.1
  have HT := Lib.hid hts; clear hts
  have HC := Lib.hid hc; clear hc
  refine callsIn_of_wp Try.func91 rfl h6 ?_ hro
  simp only [Try.ntmps91, List.size_toArray, List.length_cons, List.length_nil, Nat.reduceAdd, Nat.reduceSub, Array.replicate_succ, Array.replicate_zero, List.push_toArray, List.append_toArray, List.nil_append, List.cons_append]
  have hbc := hB.cell
  have hbf := hB.frozen
  gi_wp2
  gi_loopw [9] (fun v wr => ∃ i : Nat, i ≤ ts.length ∧ v = .int .i64 i ∧ J (trace_evs (ts.take i)) wr) (fun v _ => ts.length - (intOf v).toNat)
  case atStart => exact ⟨0, by omega, rfl, by simpa [trace_evs] using h0⟩
  case round =>
    obtain ⟨i, hi, rfl, hj⟩ := hrel
    by_cases hlt : i < ts.length
    · obtain ⟨ad, A1, c1, e, hx0, hx1, hl1, hi1⟩ := at_T44 HT.out (i : Int) (by omega) (by omega)
      cases e
      obtain ⟨p, hp⟩ : ∃ p, rd_T44 ts (i : Int) = p := ⟨_, rfl⟩
      rw [hp] at hx0 hx1 hl1 hi1
      replace hx0 := ((HJb.out _ _ hj).1.cell (World.block_lt_of_cell? w0 _ hx0)).trans hx0
      replace hx1 := ((HJb.out _ _ hj).1.cell (World.block_lt_of_cell? w0 _ hx1)).trans hx1
      simp only [Int.toNat_natCast] at hx0 hx1
      have HP := Lib.hid hp; clear hp
      have HL1 := Lib.hid hl1; clear hl1
      have hbp : p.f1.length ≤ 9223372036854775807 := hi1.2.1
      have HI1 := Lib.hid hi1; clear hi1
      gi_wp2
      have hj1 := HJ.out _ _ _ ((Below.refl W.heap.size wr).alloc (HJb.out _ _ hj).2 (.cells #[.int .u64 p.f0, .slice A1 p.f1.length c1] 44)) hj
      obtain ⟨W1, hW1⟩ : ∃ W1, wr.alloc (.cells #[.int .u64 p.f0, .slice A1 p.f1.length c1] 44) = W1 := ⟨_, rfl⟩
      rw [hW1] at hj1 ⊢
      clear hx0 hx1 hW1 hj
      gi_loopw [16] (fun v wr' => ∃ j : Nat, j ≤ p.f1.length ∧ v = .int .i64 j ∧ J (trace_evs (ts.take i) ++ p.f1.take j) wr') (fun v _ => p.f1.length - (intOf v).toNat)
      case atStart => exact ⟨0, by omega, rfl, by simpa using hj1⟩
      case round =>
        obtain ⟨j, hjl, rfl, hj2⟩ := hrel
        clear hj1
        by_cases hlt2 : j < p.f1.length
        · obtain ⟨ad2, A2, c2, e2, hy0, hy1, hl2, hi2⟩ := at_T61 HI1.out (j : Int) (by omega) (by omega)
          cases e2
          have hsp := trace_evs_split ts i hlt j (by rw [HP.out]; exact hlt2)
          rw [HP.out] at hsp
          obtain ⟨q, hq⟩ : ∃ q, rd_T61 p.f1 (j : Int) = q := ⟨_, rfl⟩
          rw [hq] at hy0 hy1 hl2 hi2 hsp
          replace hy0 := ((HJb.out _ _ hj2).1.cell (World.block_lt_of_cell? w0 _ hy0)).trans hy0
          replace hy1 := ((HJb.out _ _ hj2).1.cell (World.block_lt_of_cell? w0 _ hy1)).trans hy1
          simp only [Int.toNat_natCast] at hy0 hy1
          have hj3 := HJ.out _ _ _ ((Below.refl W.heap.size wr).alloc (HJb.out _ _ hj2).2 (.cells #[.int .i64 q.f0, .slice A2 q.f1.length c2] 61)) hj2
          obtain ⟨fn, tmps, assign, body, hy, hR⟩ := HY.out _ q _ _ A2 c2 hsp hl2 hi2 hj3
          have HQ := Lib.hid hq; clear hq
          have HS := Lib.hid hsp; clear hsp
          have HL2 := Lib.hid hl2; clear hl2
          have HI2 := Lib.hid hi2; clear hi2
          have HJ2 := Lib.hid hj2; clear hj2
          have HJ3 := Lib.hid hj3; clear hj3
          gi_wp2
          refine hR.mono ?_
          rintro e W3 ⟨rfl, hJ4⟩
          have hJ5 : J (trace_evs (ts.take i) ++ p.f1.take (j + 1)) W3 := by
            have e1 : p.f1.take (j + 1) = p.f1.take j ++ [q] := by
              rw [List.take_succ_eq_append_getElem hlt2, ← HQ.out, trace_rdE _ j hlt2]
            rw [e1, ← List.append_assoc]
            exact hJ4
          clear hJ4 hR hy hy0 hy1
          have HJ5 := Lib.hid hJ5; clear hJ5
          gi_wp2
          go_roundw
          case rel => exact ⟨j + 1, by omega, by go_num, HJ5.out⟩
          case measure => simp [intOf]; omega
        · have hJ6 : J (trace_evs (ts.take (i + 1))) wr := by
            rw [trace_evs_next ts i hlt, HP.out]
            rwa [List.take_of_length_le (show p.f1.length ≤ j by omega)] at hj2
          have HJ6 := Lib.hid hJ6; clear hJ6 hj2
          gi_wp2
          go_roundw
          case rel => exact ⟨i + 1, by omega, by go_num, HJ6.out⟩
          case measure => simp [intOf]; omega
    · have hJ6 : J (trace_evs ts) wr := by rwa [List.take_of_length_le (show ts.length ≤ i by omega)] at hj
      have HJ6 := Lib.hid hJ6; clear hJ6 hj
      gi_wp2
      go_end0
      exact ⟨⟨_, rfl⟩, HJ6.out⟩
theorem trace_events0 (A : Option Addr) (n c : Nat) (w : World) :
    Calls Try.prog 59 #[.slice A n c] w fun e w' => e = .returned (.func (.func 91) #[] #[.pointer (some ⟨w.heap.size, 0, none⟩)]) ∧ w' = w.alloc (.cells #[.slice A n c] 37) := by
  go_enter Try.func59, Try.ntmps59
  go_wp2
  go_ret
  exact ⟨rfl, rfl⟩
def trace_sum (b : Int) (l : List S70) : Int := l.foldl (fun b x => wrap64 (b + (x.f2.size : Int))) b
def trace_tally (l : List S61) : Int × Int × Int := l.foldl (fun s e => (wrap64 (s.1 + 1), wrap64 (s.2.1 + (e.f1.length : Int)), trace_sum s.2.2 e.f1)) (0, 0, 0)
theorem trace_tally_snoc (l : List S61) (e : S61) : trace_tally (l ++ [e]) = (wrap64 ((trace_tally l).1 + 1), wrap64 ((trace_tally l).2.1 + (e.f1.length : Int)), trace_sum (trace_tally l).2.2 e.f1) := by
  simp [trace_tally, List.foldl_append]
theorem trace_sum_next (b : Int) (l : List S70) (j : Nat) (h : j < l.length) : trace_sum b (l.take (j + 1)) = wrap64 (trace_sum b (l.take j) + ((rd_T70 l (j : Int)).f2.size : Int)) := by
  have e : rd_T70 l (j : Int) = l[j] := by simp [rd_T70, List.getD_eq_getElem?_getD, List.getElem?_eq_getElem h]
  rw [e]
  unfold trace_sum
  rw [List.take_succ_eq_append_getElem h, List.foldl_append]
  rfl
set_option maxRecDepth 100000 in
set_option maxHeartbeats 4000000 in
theorem trace_Count.calls0 (A0 : Option Addr) (c0 : Nat) (l0 : List S44) (w : World) (hr0 : Kd.C k44 w A0 l0.length l0) (hc0 : l0.length ≤ c0) :
    Calls Try.prog 33 #[.slice A0 l0.length c0] w fun e w' => e = .returned (.tuple #[.int .i64 (trace_tally (trace_evs l0)).1, .int .i64 (trace_tally (trace_evs l0)).2.1, .int .i64 (trace_tally (trace_evs l0)).2.2]) ∧ Below w.heap.size w w' := by
  have HR0 := Lib.hid hr0; clear hr0
  have HC0 := Lib.hid hc0; clear hc0
  refine (callsIn_wide (n := 3)).1 ?_
  refine callsIn_of_wp_marks Try.func33 rfl trivial ?_ rfl
  simp only [Try.ntmps33, List.size_toArray, List.length_cons, List.length_nil, Nat.reduceAdd, Nat.reduceSub, Array.replicate_succ, Array.replicate_zero, List.push_toArray, List.append_toArray, List.nil_append, List.cons_append]
  gi_wp2_with ((refine ⟨trivial, ?_⟩; gi_at_call 59; refine (callsIn_wide.2 (trace_events0 _ _ _ _)).mono ?_; rintro e w2 ⟨rfl, rfl⟩))
  obtain ⟨W0, hW0⟩ : ∃ W0, (((w.alloc (.cells #[.int .i64 0] 3)).alloc (.cells #[.int .i64 0] 3)).alloc (.cells #[.int .i64 0] 3)).alloc (.cells #[.slice A0 l0.length c0] 37) = W0 := ⟨_, rfl⟩
  have hs0 : W0.heap.size = w.heap.size + 4 := by rw [← hW0]; simp
  have hb5 : Boxed W0 w.heap.size 3 (.int .i64 0) := by rw [← hW0]; exact (((Boxed.new _ _ _).alloc _).alloc _).alloc _
  have hb6 : Boxed W0 (w.heap.size + 1) 3 (.int .i64 0) := by
    rw [← hW0]; have := (((Boxed.new (w.alloc (.cells #[.int .i64 0] 3)) 3 (.int .i64 0)).alloc (.cells #[.int .i64 0] 3)).alloc (.cells #[.slice A0 l0.length c0] 37)); rwa [World.size_alloc] at this
  have hb7 : Boxed W0 (w.heap.size + 1 + 1) 3 (.int .i64 0) := by
    rw [← hW0]; have := ((Boxed.new ((w.alloc (.cells #[.int .i64 0] 3)).alloc (.cells #[.int .i64 0] 3)) 3 (.int .i64 0)).alloc (.cells #[.slice A0 l0.length c0] 37)); rwa [World.size_alloc, World.size_alloc] at this
  have hbB : Boxed W0 (w.heap.size + 1 + 1 + 1) 37 (.slice A0 l0.length c0) := by
    rw [← hW0]; have := (Boxed.new (((w.alloc (.cells #[.int .i64 0] 3)).alloc (.cells #[.int .i64 0] 3)).alloc (.cells #[.int .i64 0] 3)) 37 (.slice A0 l0.length c0)); rwa [World.size_alloc, World.size_alloc, World.size_alloc] at this
  have hbel : Below w.heap.size w W0 := by rw [← hW0]; exact ((((Below.refl _ w).alloc (Nat.le_refl _) _).alloc (by simp) _).alloc (by simp; omega) _).alloc (by simp; omega) _
  have HS0 := Lib.hid hs0
  have HBL := Lib.hid hbel
  rw [hW0]
  clear hW0 hbel hs0
  refine range_on rfl (by omega) (gf := 91) (lb := #[.pointer (some ⟨w.heap.size + 1 + 1 + 1, 0, none⟩)]) rfl trivial (enters_of Try.func91 (by kernel_rfl) rfl) ?_
  intro fn REC hfn hrec
  refine (trace_events1 Fence.wide 2 trivial rfl (by omega) (W0.heap.size + 1) (w.heap.size + 1 + 1 + 1) A0 c0 l0 w HR0.out HC0.out
    (fun pre W => Boxed W w.heap.size 3 (.int .i64 (trace_tally pre).1) ∧ Boxed W (w.heap.size + 1) 3 (.int .i64 (trace_tally pre).2.1) ∧ Boxed W (w.heap.size + 1 + 1) 3 (.int .i64 (trace_tally pre).2.2) ∧ W.heap[W0.heap.size + 1]? = some (.loop (REC .ready)) ∧ W.heap[W0.heap.size]? = some (.deferred (some [])) ∧ Below w.heap.size w W) _ ?hY ?hJ ?hJb ?hB ?h0).mono ?hd
  case hJ =>
    rintro pre W1 W2 hb ⟨h5, h6, h7, hl, hd, hbel⟩
    have hs := HS0.out
    simp only [World.size_alloc] at hb
    exact ⟨(hb.block _ (by omega)).trans h5, (hb.block _ (by omega)).trans h6, (hb.block _ (by omega)).trans h7, (hb.block _ (by omega)).trans hl, (hb.block _ (by omega)).trans hd, hbel.trans (hb.mono (by omega))⟩
  case hJb =>
    rintro pre W1 ⟨h5, h6, h7, hl, hd, hbel⟩
    have := (Array.getElem?_eq_some_iff.1 hl).1
    simp only [World.size_alloc]
    exact ⟨hbel, this⟩
  case hB => exact (hbB.alloc _).alloc _
  case h0 =>
    refine ⟨(hb5.alloc _).alloc _, (hb6.alloc _).alloc _, (hb7.alloc _).alloc _, ?_, ?_, (HBL.out.alloc HBL.out.size _).alloc (by have := HBL.out.size; simp; omega) _⟩
    · have := World.alloc_heap_new (W0.alloc (.deferred (some []))) (.loop (REC .ready)); rwa [World.size_alloc] at this
    · exact (Below.heap_alloc _ _ _ (by simp)).trans (World.alloc_heap_new _ _)
  case hd =>
    rintro e W2 ⟨⟨vr, rfl⟩, h5, h6, h7, hl, hd, hbel⟩
    clear hrec
    refine ⟨⟨vr, rfl⟩, hl, ?_⟩
    obtain ⟨W3, hW3⟩ : ∃ W3, W2.putObj (W0.heap.size + 1) (.loop (REC .exhausted)) = W3 := ⟨_, rfl⟩
    have hg2 : W2.grownBy W3 (some (W0.heap.size + 1)) := by rw [← hW3]; exact grownBy_putObj' _ _ _
    have hs := HS0.out
    have j5 := h5.kept hg2 (by simp; omega)
    have j6 := h6.kept hg2 (by simp; omega)
    have j7 := h7.kept hg2 (by simp; omega)
    have j4 : W3.heap[W0.heap.size]? = some (.deferred (some [])) := by rw [← hW3]; exact (World.putObj_heap_other (by omega)).trans hd
    have jb : Below w.heap.size W2 W3 := (Below.refl _ _).grown hg2 hbel.size (by intro k e; cases e; omega)
    rw [hW3]
    have k5 := hbel.trans jb
    clear h5 h6 h7 hl hd hg2 hW3 jb hbel hs
    have hc5 := j5.cell
    have hc6 := j6.cell
    have hc7 := j7.cell
    have J4 := Lib.hid j4
    have K5 := Lib.hid k5
    clear j5 j6 j7 j4 k5
    gi_wp2
    gi_region
    gi_wp2
    refine ⟨by simp, .inl ⟨_, _, rfl, run_takeDeferred (show W3.drew.heap[W0.heap.size]? = _ from J4.out), ?_⟩⟩
    refine ⟨_, by simp [results, Try.results33, go_sem], rfl, ?_⟩
    exact ((below_drew K5.out)).grown (grownBy_putObj' _ _ _) K5.out.size (by intro k e; cases e; have := HS0.out; omega)
  case hY =>
    rintro pre x rest W A' c' hp hlx hcx ⟨h5, h6, h7, hl, hd, hbel⟩
    clear hp
    have hxl : x.f1.length ≤ 9223372036854775807 := hcx.2.1
    have HLX := Lib.hid hlx; clear hlx
    have HCX := Lib.hid hcx; clear hcx
    refine round_on (R := fun W => Boxed W w.heap.size 3 (.int .i64 (trace_tally (pre ++ [x])).1) ∧ Boxed W (w.heap.size + 1) 3 (.int .i64 (trace_tally (pre ++ [x])).2.1) ∧ Boxed W (w.heap.size + 1 + 1) 3 (.int .i64 (trace_tally (pre ++ [x])).2.2) ∧ W.heap[W0.heap.size + 1]? = some (.loop (REC .ready)) ∧ W.heap[W0.heap.size]? = some (.deferred (some [])) ∧ Below w.heap.size w W) hfn hrec hl rfl ?_
    clear hrec
    gi_wp2
    have hs := HS0.out
    have hlt : W0.heap.size + 1 < W.heap.size := (Array.getElem?_eq_some_iff.1 hl).1
    refine ⟨(Below.heap_alloc _ _ _ hlt).trans hl, ?_⟩
    obtain ⟨W1, hW1⟩ : ∃ W1, W.alloc (.cells #[.int .i64 x.f0, .slice A' x.f1.length c'] 61) = W1 := ⟨_, rfl⟩
    have i8 : W1.heap[W.heap.size]? = some (.cells #[.int .i64 x.f0, .slice A' x.f1.length c'] 61 (0, 0)) := by rw [← hW1]; exact World.alloc_heap_new _ _
    have i5 := h5.alloc (.cells #[.int .i64 x.f0, .slice A' x.f1.length c'] 61)
    rw [hW1] at i5
    have i6 := h6.alloc (.cells #[.int .i64 x.f0, .slice A' x.f1.length c'] 61)
    rw [hW1] at i6
    have i7 := h7.alloc (.cells #[.int .i64 x.f0, .slice A' x.f1.length c'] 61)
    rw [hW1] at i7
    have il : W1.heap[W0.heap.size + 1]? = some (.loop (REC .ready)) := by rw [← hW1]; exact (Below.heap_alloc _ _ _ hlt).trans hl
    have idf : W1.heap[W0.heap.size]? = some (.deferred (some [])) := by rw [← hW1]; exact (Below.heap_alloc _ _ _ (by omega)).trans hd
    have ib : Below w.heap.size w W1 := by rw [← hW1]; exact hbel.alloc hbel.size _
    have is : W1.heap.size = W.heap.size + 1 := by rw [← hW1]; simp
    rw [hW1]
    clear h5 h6 h7 hl hd hbel hW1
    obtain ⟨W2, hW2⟩ : ∃ W2, W1.putObj (W0.heap.size + 1) (.loop (REC .busy)) = W2 := ⟨_, rfl⟩
    have hg2 : W1.grownBy W2 (some (W0.heap.size + 1)) := by rw [← hW2]; exact grownBy_putObj' _ _ _
    have j8 : W2.heap[W.heap.size]? = some (.cells #[.int .i64 x.f0, .slice A' x.f1.length c'] 61 (0, 0)) := (hg2.block _ (by omega) (by simp; omega)).trans i8
    have j5 := i5.kept hg2 (by simp; omega)
    have j6 := i6.kept hg2 (by simp; omega)
    have j7 := i7.kept hg2 (by simp; omega)
    have jl : W2.heap[W0.heap.size + 1]? = some (.loop (REC .busy)) := by rw [← hW2]; exact World.putObj_heap_same (by omega)
    have jd : W2.heap[W0.heap.size]? = some (.deferred (some [])) := by rw [← hW2]; exact (World.putObj_heap_other (by omega)).trans idf
    have jb : Below w.heap.size w W2 := ib.trans ((Below.refl _ _).grown hg2 ib.size (by intro k e; cases e; omega))
    have js : W1.heap.size ≤ W2.heap.size := hg2.size
    rw [hW2]
    clear i5 i6 i7 il idf ib i8 hg2 hW2
    obtain ⟨n5, hn5⟩ : ∃ n, (trace_tally pre).1 = n := ⟨_, rfl⟩
    obtain ⟨n6, hn6⟩ : ∃ n, (trace_tally pre).2.1 = n := ⟨_, rfl⟩
    obtain ⟨n7, hn7⟩ : ∃ n, (trace_tally pre).2.2 = n := ⟨_, rfl⟩
    rw [hn5] at j5
    rw [hn6] at j6
    rw [hn7] at j7
    have HN5 := Lib.hid hn5; clear hn5
    have HN6 := Lib.hid hn6; clear hn6
    have HN7 := Lib.hid hn7; clear hn7
    have hc5 := j5.cell
    have hf5 := j5.frozen
    have hc6 := j6.cell
    have hf6 := j6.frozen
    have hc8 : W2.cell? ⟨W.heap.size, 1, none⟩ = some (.slice A' x.f1.length c') := (blk_cell j8 1).trans rfl
    have J5 := Lib.hid j5
    have J6 := Lib.hid j6
    have J7 := Lib.hid j7
    have J8 := Lib.hid j8
    have JL := Lib.hid jl
    have JD := Lib.hid jd
    have JB := Lib.hid jb
    have JS := Lib.hid js
    have IS := Lib.hid is
    have HS := Lib.hid hs
    have HLT := Lib.hid hlt
    clear j5 j6 j7 j8 jl jd jb js is hs hlt
    gi_wp2
    refine wpIn_mono (Q := fun e a' w' => e = Exit.normal ∧ a' = ({ tmps := #[.slice A0 l0.length c0, undef, .int .i64 0, .int .i64 0, .int .i64 0, .pointer (some ⟨w.heap.size, 0, none⟩), .pointer (some ⟨w.heap.size + 1, 0, none⟩), .pointer (some ⟨w.heap.size + 1 + 1, 0, none⟩), .pointer (some ⟨W.heap.size, 0, none⟩), undef, undef, .slice A0 l0.length c0, .func (.func 91) #[] #[.pointer (some ⟨w.heap.size + 1 + 1 + 1, 0, none⟩)], .agg #[.int .i64 x.f0, .slice A' x.f1.length c'], .int .i64 n5, .int .i64 (IntKind.i64.wrap (n5 + 1)), .int .i64 n6, .pointer (some ⟨W.heap.size, 1, none⟩), .slice A' x.f1.length c', .int .i64 (x.f1.length : Int), .int .i64 (IntKind.i64.wrap (n6 + (x.f1.length : Int))), undef, undef, undef, undef, undef, undef, undef, undef, undef, undef, undef, undef, undef, undef, undef, undef], defers := [] } : Act) ∧ w' = ((W2.setCell ⟨w.heap.size, 0, none⟩ (.int .i64 (IntKind.i64.wrap (n5 + 1)))).setCell ⟨w.heap.size + 1, 0, none⟩ (.int .i64 (IntKind.i64.wrap (n6 + (x.f1.length : Int))))).drew) ?rr ?cc
    case rr =>
      have hne : W.heap.size ≠ w.heap.size ∧ W.heap.size ≠ w.heap.size + 1 := by have := HLT.out; have := HS.out; omega
      clear HR0 HC0 HBL hb5 hb6 hb7 hbB hfn HLX HCX HN5 HN6 HN7 J5 J6 J7 J8 JL JD JB JS IS HS HLT hxl
      gi_region
      all_goals exact ⟨rfl, rfl, rfl⟩
    rintro e a' w' ⟨rfl, rfl, rfl⟩
    have hs := HS0.out
    have hlt := HLT.out
    have is := IS.out
    have js := JS.out
    have k5 : Boxed (((W2.setCell ⟨w.heap.size, 0, none⟩ (.int .i64 (IntKind.i64.wrap (n5 + 1)))).setCell ⟨w.heap.size + 1, 0, none⟩ (.int .i64 (IntKind.i64.wrap (n6 + (x.f1.length : Int))))).drew) w.heap.size 3 (.int .i64 (IntKind.i64.wrap (n5 + 1))) := (J5.out.set _).other (by omega) _
    have k6 : Boxed (((W2.setCell ⟨w.heap.size, 0, none⟩ (.int .i64 (IntKind.i64.wrap (n5 + 1)))).setCell ⟨w.heap.size + 1, 0, none⟩ (.int .i64 (IntKind.i64.wrap (n6 + (x.f1.length : Int))))).drew) (w.heap.size + 1) 3 (.int .i64 (IntKind.i64.wrap (n6 + (x.f1.length : Int)))) := (J6.out.other (by omega) _).set _
    have k7 : Boxed (((W2.setCell ⟨w.heap.size, 0, none⟩ (.int .i64 (IntKind.i64.wrap (n5 + 1)))).setCell ⟨w.heap.size + 1, 0, none⟩ (.int .i64 (IntKind.i64.wrap (n6 + (x.f1.length : Int))))).drew) (w.heap.size + 1 + 1) 3 (.int .i64 n7) := (J7.out.other (by omega) _).other (by omega) _
    have kx : ∀ (i : Nat) (o : Obj), i ≠ w.heap.size → i ≠ w.heap.size + 1 → W2.heap[i]? = some o → (((W2.setCell ⟨w.heap.size, 0, none⟩ (.int .i64 (IntKind.i64.wrap (n5 + 1)))).setCell ⟨w.heap.size + 1, 0, none⟩ (.int .i64 (IntKind.i64.wrap (n6 + (x.f1.length : Int))))).drew).heap[i]? = some o := fun i o h1 h2 h => (Below.heap_setCell _ ⟨w.heap.size + 1, 0, none⟩ _ _ h2).trans ((Below.heap_setCell _ ⟨w.heap.size, 0, none⟩ _ _ h1).trans h)
    have k8 := kx _ _ (by omega) (by omega) J8.out
    have kl := kx _ _ (by omega) (by omega) JL.out
    have kd := kx _ _ (by omega) (by omega) JD.out
    have kb : Below w.heap.size w (((W2.setCell ⟨w.heap.size, 0, none⟩ (.int .i64 (IntKind.i64.wrap (n5 + 1)))).setCell ⟨w.heap.size + 1, 0, none⟩ (.int .i64 (IntKind.i64.wrap (n6 + (x.f1.length : Int))))).drew) := below_drew ((JB.out.setCell (p := ⟨w.heap.size, 0, none⟩) (Nat.le_refl _) _).setCell (p := ⟨w.heap.size + 1, 0, none⟩) (Nat.le_succ _) _)
    obtain ⟨W4, hW4⟩ : ∃ W4, ((W2.setCell ⟨w.heap.size, 0, none⟩ (.int .i64 (IntKind.i64.wrap (n5 + 1)))).setCell ⟨w.heap.size + 1, 0, none⟩ (.int .i64 (IntKind.i64.wrap (n6 + (x.f1.length : Int))))).drew = W4 := ⟨_, rfl⟩
    rw [hW4] at k5 k6 k7 k8 kl kd kb ⊢
    clear hc5 hf5 hc6 hf6 hc8 J5 J6 J7 J8 JL JD JB kx hW4 JS IS HLT
    have hc8 : W4.cell? ⟨W.heap.size, 1, none⟩ = some (.slice A' x.f1.length c') := (blk_cell k8 1).trans rfl
    have K5 := Lib.hid k5
    have K6 := Lib.hid k6
    have K7 := Lib.hid k7
    have KL := Lib.hid kl
    have KD := Lib.hid kd
    have KB := Lib.hid kb
    clear k5 k6 k7 k8 kl kd kb hs hlt is js
    gi_wp2
    gi_loopw [24] (fun v wr => ∃ j : Nat, j ≤ x.f1.length ∧ v = .int .i64 j ∧ Hid (Boxed wr w.heap.size 3 (.int .i64 (IntKind.i64.wrap (n5 + 1)))) ∧ Hid (Boxed wr (w.heap.size + 1) 3 (.int .i64 (IntKind.i64.wrap (n6 + (x.f1.length : Int))))) ∧ Hid (Boxed wr (w.heap.size + 1 + 1) 3 (.int .i64 (trace_sum n7 (x.f1.take j)))) ∧ Hid (wr.heap[W0.heap.size + 1]? = some (.loop (REC .busy))) ∧ Hid (wr.heap[W0.heap.size]? = some (.deferred (some []))) ∧ Hid (Below w.heap.size w wr)) (fun v _ => x.f1.length - (intOf v).toNat)
    case atStart => exact ⟨0, by omega, rfl, K5, K6, by simpa [trace_sum] using K7, KL, KD, KB⟩
    case round =>
      obtain ⟨j, hj, rfl, K5, K6, K7, KL, KD, KB⟩ := hrel
      clear hc8
      by_cases hlt : j < x.f1.length
      · obtain ⟨ad, e, hx0, hx1, hx2⟩ := at_T70 HCX.out (j : Int) (by omega) (by omega)
        cases e
        have hnx := trace_sum_next n7 x.f1 j hlt
        obtain ⟨q, hq⟩ : ∃ q, rd_T70 x.f1 (j : Int) = q := ⟨_, rfl⟩
        rw [hq] at hx0 hx1 hx2 hnx
        replace hx0 := (KB.out.cell (World.block_lt_of_cell? w _ hx0)).trans hx0
        replace hx1 := (KB.out.cell (World.block_lt_of_cell? w _ hx1)).trans hx1
        replace hx2 := (KB.out.cell (World.block_lt_of_cell? w _ hx2)).trans hx2
        simp only [Int.toNat_natCast] at hx0 hx1 hx2
        clear hq
        obtain ⟨s, hs⟩ : ∃ s, trace_sum n7 (x.f1.take j) = s := ⟨_, rfl⟩
        rw [hs] at K7 hnx
        have hsz : (q.f2.size : Int) ≤ q.f2.size := Int.le_refl _
        clear hs
        have HNX := Lib.hid hnx; clear hnx
        have k7 := K7.out.alloc (.cells #[.int .i64 q.f0, .int .i64 q.f1, .string q.f2] 70)
        have hc7 := k7.cell
        have hf7 := k7.frozen
        clear k7
        gi_wp2
        go_roundw
        case rel =>
          have hs := HS0.out
          have h1 := (Array.getElem?_eq_some_iff.1 KL.out).1
          refine ⟨j + 1, by omega, by go_num, Lib.hid ((K5.out.alloc _).other (by omega) _), Lib.hid ((K6.out.alloc _).other (by omega) _), Lib.hid ?_, Lib.hid ((Below.heap_setCell _ _ _ _ (by simp; omega)).trans ((Below.heap_alloc _ _ _ h1).trans KL.out)), Lib.hid ((Below.heap_setCell _ _ _ _ (by simp; omega)).trans ((Below.heap_alloc _ _ _ (by omega)).trans KD.out)), Lib.hid ((KB.out.alloc KB.out.size _).setCell (p := ⟨w.heap.size + 1 + 1, 0, none⟩) (by simp; omega) _)⟩
          rw [HNX.out]
          exact (K7.out.alloc _).set _
        case measure => simp [intOf]; omega
      · have K7' : Boxed wr (w.heap.size + 1 + 1) 3 (.int .i64 (trace_sum n7 x.f1)) := by have := K7.out; rwa [List.take_of_length_le (show x.f1.length ≤ j by omega)] at this
        gi_wp2
        have hs := HS0.out
        have h1 := (Array.getElem?_eq_some_iff.1 KL.out).1
        have hg := grownBy_putObj' wr (W0.heap.size + 1) (.loop (REC .ready))
        refine ⟨KL.out, ?_⟩
        rw [trace_tally_snoc, HN5.out, HN6.out, HN7.out, ← i64_w, ← i64_w]
        exact ⟨K5.out.kept hg (by simp; omega), K6.out.kept hg (by simp; omega), K7'.kept hg (by simp; omega), World.putObj_heap_same h1, (World.putObj_heap_other (by omega)).trans KD.out, KB.out.grown hg KB.out.size (by intro k e; cases e; omega)⟩
def trace_Count.f (l0 : List S44) : Option (Int × Int × Int) := some (trace_tally (trace_evs l0))
theorem trace_Count.calls (A0 : Option Addr) (c0 : Nat) (l0 : List S44) (r1 r2 r3 : Int) (w : World) (hr0 : Kd.C k44 w A0 l0.length l0) (hc0 : l0.length ≤ c0) (h : trace_Count.f l0 = some (r1, r2, r3)) :
    Calls Try.prog 33 #[.slice A0 l0.length c0] w fun e w' => e = .returned (.tuple #[.int .i64 r1, .int .i64 r2, .int .i64 r3]) ∧ Below w.heap.size w w' := by
  have h' : trace_tally (trace_evs l0) = (r1, r2, r3) := Option.some.inj h
  have := trace_Count.calls0 A0 c0 l0 w hr0 hc0
  rwa [h'] at this
end

/-! ### tachographref12_Count: function 34 -/
mutual
def tachographref12_Count.l0 : Nat → List (S44) → Int → Int → Int → Int → Option (Int × Int × Int)
  | 0, _, _, _, _, _ => none
  | k + 1, x0, x4, x155000, x155001, x155002 => if x4 < (x0.length : Int) then (tachographref12_Count.l1 k x0 x4 0 x155000 x155001 x155002) else (some (x155000, x155001, x155002))
def tachographref12_Count.l1 : Nat → List (S44) → Int → Int → Int → Int → Int → Option (Int × Int × Int)
  | 0, _, _, _, _, _, _ => none
  | k + 1, x0, x4, x5, x155000, x155001, x155002 => if 0 ≤ x4 then (if x4 < (x0.length : Int) then (if x5 < (((rd_T44 x0 x4).f1).length : Int) then (if 0 ≤ x5 then (tachographref12_Count.l2 k x0 x4 x5 ((rd_T61 ((rd_T44 x0 x4).f1) x5).f1) 0 (wrap64 (x155000 + 1)) (wrap64 (x155001 + (((rd_T61 ((rd_T44 x0 x4).f1) x5).f1).length : Int))) x155002) else (none)) else (tachographref12_Count.l0 k x0 (wrap64 (x4 + 1)) x155000 x155001 x155002)) else (none)) else (none)
def tachographref12_Count.l2 : Nat → List (S44) → Int → Int → List (S70) → Int → Int → Int → Int → Option (Int × Int × Int)
  | 0, _, _, _, _, _, _, _, _ => none
  | k + 1, x0, x4, x5, x6, x7, x155000, x155001, x155002 => if x7 < (x6.length : Int) then (if 0 ≤ x7 then (tachographref12_Count.l2 k x0 x4 x5 x6 (wrap64 (x7 + 1)) x155000 x155001 (wrap64 (x155002 + (((rd_T70 x6 x7).f2).size : Int)))) else (none)) else (tachographref12_Count.l1 k x0 x4 (wrap64 (x5 + 1)) x155000 x155001 x155002)
end
def tachographref12_Count.f (k : Nat) (l0 : List (S44)) : Option (Int × Int × Int) := tachographref12_Count.l0 k l0 0 0 0 0
theorem tachographref12_Count.mono_l : ∀ k, (∀ y0 y1 y2 y3 y4, LeO (tachographref12_Count.l0 k y0 y1 y2 y3 y4) (tachographref12_Count.l0 (k + 1) y0 y1 y2 y3 y4)) ∧ (∀ y0 y1 y2 y3 y4 y5, LeO (tachographref12_Count.l1 k y0 y1 y2 y3 y4 y5) (tachographref12_Count.l1 (k + 1) y0 y1 y2 y3 y4 y5)) ∧ (∀ y0 y1 y2 y3 y4 y5 y6 y7, LeO (tachographref12_Count.l2 k y0 y1 y2 y3 y4 y5 y6 y7) (tachographref12_Count.l2 (k + 1) y0 y1 y2 y3 y4 y5 y6 y7))
  | 0 => ⟨fun _ _ _ _ _ r h => by simp [tachographref12_Count.l0] at h, fun _ _ _ _ _ _ r h => by simp [tachographref12_Count.l1] at h, fun _ _ _ _ _ _ _ _ r h => by simp [tachographref12_Count.l2] at h⟩
  | k + 1 => by
    obtain ⟨ih0, ih1, ih2⟩ := tachographref12_Count.mono_l k
    refine ⟨?_, ?_, ?_⟩
    · intro y0 y1 y2 y3 y4
      unfold tachographref12_Count.l0
      repeat' first
      | (with_reducible exact ih0 _ _ _ _ _)
      | (with_reducible exact ih1 _ _ _ _ _ _)
      | (with_reducible exact ih2 _ _ _ _ _ _ _ _)
      | (with_reducible exact LeO.refl _)
      | (with_reducible exact LeO.none _)
      | (with_reducible refine LeO.ite ?_ ?_)
      | (with_reducible refine LeO.bind ?_ (fun _ => ?_))
      | exact ih0 _ _ _ _ _
      | exact ih1 _ _ _ _ _ _
      | exact ih2 _ _ _ _ _ _ _ _
      | exact LeO.none _
      | refine LeO.ite ?_ ?_
      | refine LeO.bind ?_ (fun _ => ?_)
    · intro y0 y1 y2 y3 y4 y5
      unfold tachographref12_Count.l1
      repeat' first
      | (with_reducible exact ih0 _ _ _ _ _)
      | (with_reducible exact ih1 _ _ _ _ _ _)
      | (with_reducible exact ih2 _ _ _ _ _ _ _ _)
      | (with_reducible exact LeO.refl _)
      | (with_reducible exact LeO.none _)
      | (with_reducible refine LeO.ite ?_ ?_)
      | (with_reducible refine LeO.bind ?_ (fun _ => ?_))
      | exact ih0 _ _ _ _ _
      | exact ih1 _ _ _ _ _ _
      | exact ih2 _ _ _ _ _ _ _ _
      | exact LeO.none _
      | refine LeO.ite ?_ ?_
      | refine LeO.bind ?_ (fun _ => ?_)
    · intro y0 y1 y2 y3 y4 y5 y6 y7
      unfold tachographref12_Count.l2
      repeat' first
      | (with_reducible exact ih0 _ _ _ _ _)
      | (with_reducible exact ih1 _ _ _ _ _ _)
      | (with_reducible exact ih2 _ _ _ _ _ _ _ _)
      | (with_reducible exact LeO.refl _)
      | (with_reducible exact LeO.none _)
      | (with_reducible refine LeO.ite ?_ ?_)
      | (with_reducible refine LeO.bind ?_ (fun _ => ?_))
      | exact ih0 _ _ _ _ _
      | exact ih1 _ _ _ _ _ _
      | exact ih2 _ _ _ _ _ _ _ _
      | exact LeO.none _
      | refine LeO.ite ?_ ?_
      | refine LeO.bind ?_ (fun _ => ?_)
theorem tachographref12_Count.mono : ∀ a0 k, LeO (tachographref12_Count.f k a0) (tachographref12_Count.f (k + 1) a0) := by
  intro a0 k
  obtain ⟨ih0, ih1, ih2⟩ := tachographref12_Count.mono_l k
  unfold tachographref12_Count.f
  repeat' first
      | (with_reducible exact ih0 _ _ _ _ _)
      | (with_reducible exact ih1 _ _ _ _ _ _)
      | (with_reducible exact ih2 _ _ _ _ _ _ _ _)
      | (with_reducible exact LeO.refl _)
      | (with_reducible exact LeO.none _)
      | (with_reducible refine LeO.ite ?_ ?_)
      | (with_reducible refine LeO.bind ?_ (fun _ => ?_))
      | exact ih0 _ _ _ _ _
      | exact ih1 _ _ _ _ _ _
      | exact ih2 _ _ _ _ _ _ _ _
      | exact LeO.none _
      | refine LeO.ite ?_ ?_
      | refine LeO.bind ?_ (fun _ => ?_)
def tachographref12_Count.T14 : Bool × List (List Nat × List Nat) := (true, [([], []), ([0], [0]), ([], []), ([], []), ([2, 3], [2, 3]), ([4], [4]), ([5], [5]), ([6], [6]), ([1, 7], [1, 7]), ([0, 1, 2, 3, 4, 5, 6, 7, 8], []), ([9, 8, 0, 1, 2, 3, 4, 5, 6, 7, 8], [8, 9])])
def tachographref12_Count.B14 : List Nat := [0, 1, 0, 0, 12, 28, 60, 124, 255, 511, 1023]
theorem tachographref12_Count.tab14 : rtab .any (opsOf Try.f34 14) = tachographref12_Count.T14 := by kernel_rfl
theorem tachographref12_Count.bits14 : waitsOk tachographref12_Count.T14.2 tachographref12_Count.B14 = true := by kernel_rfl
set_option maxHeartbeats 8000000 in
set_option maxRecDepth 100000 in
theorem tachographref12_Count.calls (k : Nat) (A0 : Option Addr) (c0 : Nat) (l0 : List (S44)) (r1 : Int) (r2 : Int) (r3 : Int) (w : World) (hr0 : Kd.C k44 w A0 l0.length l0) (hc0 : l0.length ≤ c0) (h : tachographref12_Count.f k l0 = some (r1, r2, r3)) :
    Calls Try.prog 34 #[.slice A0 l0.length c0] w fun e w' => e = .returned (.agg #[.int .i64 r1, .int .i64 r2, .int .i64 r3]) ∧ Below w.heap.size w w' := by
  have hu57 := Try.underlying57
  have HR0 := Aside0.mk hr0
  have HC0 := Aside0.mk hc0
  clear hr0 hc0
  have HB := Aside0.mk (Below.refl w.heap.size w)
  have H : (tachographref12_Count.l0 k l0 0 0 0 0) = some (r1, r2, r3) := h
  clear h
  have H' := Aside0.mk H
  clear H
  go_enter Try.func34, Try.ntmps34
  go_wp2_with (first | ((with_reducible refine gate_dst (N := 2) rfl ?_); refine box_event ?hg (N := 2) ?hd (cs := #[.int .i64 0, .int .i64 0, .int .i64 0]) (t := 57) ?hr ?_; (case hd => rfl); (case hg => rfl); (case hr => first | (go_simp; done) | (go_simp; rfl)); intro gb153 hg w2 hbox hb; have n0_ := Aside0.mk (below_step (by repeat (first | (with_reducible first | exact HB.out | apply below_alloc | apply pw_below_drewN | apply below_drew1) | exact HB.out)) hb); have n1_ := Aside0.mk (hbox); have n2_ := Aside0.mk ((by rw [hg]; exact (below_size (by repeat (first | (with_reducible first | exact HB.out | apply below_alloc | apply pw_below_drewN | apply below_drew1) | exact HB.out))) : w.heap.size ≤ gb153)); have n3_ := Aside0.mk ((by rw [hg]; exact (below_size (by repeat (first | (with_reducible first | exact HB.out | apply below_alloc | apply pw_below_drewN | apply below_drew1) | exact HB.out))) : w.heap.size ≤ gb153)); clear HB; have HB := n0_; have BK153 := n1_; have GW153 := n2_; have GE153 := n3_; clear n0_ n1_ n2_ n3_; clear hb hbox hg) | ((with_reducible refine gate_dst (N := 3) rfl ?_); refine box_event ?hg (N := 3) ?hd (cs := #[.int .i64 0, .int .i64 0, .int .i64 0]) (t := 57) ?hr ?_; (case hd => rfl); (case hg => rfl); (case hr => first | (go_simp; done) | (go_simp; rfl)); intro gb154 hg w3 hbox hb; have n0_ := Aside0.mk (blk_below (g := gb153) (o := .cells #[.int .i64 0, .int .i64 0, .int .i64 0] 57 (0, 0)) (by (with_reducible repeat (first | refine blk_drewN ?_ _ | refine blk_drew ?_ | refine blk_alloc ?_ _)); exact BK153.out) hb); have n1_ := Aside0.mk (below_step (by repeat (first | (with_reducible first | exact HB.out | apply below_alloc | apply pw_below_drewN | apply below_drew1 | refine below_set ?_ GE153.out) | exact HB.out)) hb); have n2_ := Aside0.mk (hbox); have n3_ := Aside0.mk ((by rw [hg]; exact (below_size (by repeat (first | (with_reducible first | exact HB.out | apply below_alloc | apply pw_below_drewN | apply below_drew1 | refine below_set ?_ GE153.out) | exact HB.out))) : w.heap.size ≤ gb154)); have n4_ := Aside0.mk ((by rw [hg]; exact (below_size (by repeat (first | (with_reducible first | exact HB.out | apply below_alloc | apply pw_below_drewN | apply below_drew1 | refine below_set ?_ GE153.out) | exact HB.out))) : w.heap.size ≤ gb154)); have n5_ := Aside0.mk ((by rw [hg]; exact Nat.ne_of_lt (blk_lt (g := gb153) (o := .cells #[.int .i64 0, .int .i64 0, .int .i64 0] 57 (0, 0)) (by (with_reducible repeat (first | refine blk_drewN ?_ _ | refine blk_drew ?_ | refine blk_alloc ?_ _)); exact BK153.out)) : gb153 ≠ gb154)); have n6_ := Aside0.mk ((by rw [hg]; exact Nat.ne_of_gt (blk_lt (g := gb153) (o := .cells #[.int .i64 0, .int .i64 0, .int .i64 0] 57 (0, 0)) (by (with_reducible repeat (first | refine blk_drewN ?_ _ | refine blk_drew ?_ | refine blk_alloc ?_ _)); exact BK153.out)) : gb154 ≠ gb153)); clear BK153; clear HB; have BK153 := n0_; have HB := n1_; have BK154 := n2_; have GW154 := n3_; have GE154 := n4_; have NB153_154 := n5_; have NB154_153 := n6_; clear n0_ n1_ n2_ n3_ n4_ n5_ n6_; clear hb hbox hg; have hnb4 := NB154_153.out; have hnc4 := NB153_154.out; have hcz5_0 : w3.cell? ⟨gb154, 0, none⟩ = some (.int .i64 0) := (blk_cell BK154.out 0).trans rfl; have hcz5_1 : w3.cell? ⟨gb154, 1, none⟩ = some (.int .i64 0) := (blk_cell BK154.out 1).trans rfl; have hcz5_2 : w3.cell? ⟨gb154, 2, none⟩ = some (.int .i64 0) := (blk_cell BK154.out 2).trans rfl; have hfz5_0 := blk_frozen BK154.out 0; have hfz5_1 := blk_frozen BK154.out 1; have hfz5_2 := blk_frozen BK154.out 2))
  go_loopg [4] k (fun kq v4 w' => ∃ (x4_1 : Int) (x155000_1 : Int) (x155001_1 : Int) (x155002_1 : Int), v4 = .int .i64 x4_1 ∧ Aside0 (tachographref12_Count.l0 kq l0 x4_1 x155000_1 x155001_1 x155002_1 = some (r1, r2, r3)) ∧ Aside0 (kq ≤ k) ∧ Aside0 (w'.heap[gb153]? = some (.cells #[.int .i64 0, .int .i64 0, .int .i64 0] 57 (0, 0))) ∧ Aside0 (w'.heap[gb154]? = some (.cells #[.int .i64 x155000_1, .int .i64 x155001_1, .int .i64 x155002_1] 57 (0, 0))) ∧ Aside0 (Below w.heap.size w w'))
  case atStart => exact ⟨(0), (0), (0), (0), (by first | rfl | (simp; done) | (simp [*]; done)), H', ⟨Nat.le_refl _⟩, ⟨by (with_reducible repeat (first | refine blk_drewN ?_ _ | refine blk_drew ?_ | refine blk_alloc ?_ _)); refine blk_far ?_ NB153_154.out _; (with_reducible repeat (first | refine blk_drewN ?_ _ | refine blk_drew ?_ | refine blk_alloc ?_ _)); refine blk_far ?_ NB153_154.out _; (with_reducible repeat (first | refine blk_drewN ?_ _ | refine blk_drew ?_ | refine blk_alloc ?_ _)); refine blk_far ?_ NB153_154.out _; (with_reducible repeat (first | refine blk_drewN ?_ _ | refine blk_drew ?_ | refine blk_alloc ?_ _)); exact BK153.out⟩, ⟨by (with_reducible repeat (first | refine blk_drewN ?_ _ | refine blk_drew ?_ | refine blk_alloc ?_ _)); refine blk_put (cs := #[.int .i64 0, .int .i64 0, .int .i64 0]) ?_ 2 _ rfl; (with_reducible repeat (first | refine blk_drewN ?_ _ | refine blk_drew ?_ | refine blk_alloc ?_ _)); refine blk_put (cs := #[.int .i64 0, .int .i64 0, .int .i64 0]) ?_ 1 _ rfl; (with_reducible repeat (first | refine blk_drewN ?_ _ | refine blk_drew ?_ | refine blk_alloc ?_ _)); refine blk_put (cs := #[.int .i64 0, .int .i64 0, .int .i64 0]) ?_ 0 _ rfl; (with_reducible repeat (first | refine blk_drewN ?_ _ | refine blk_drew ?_ | refine blk_alloc ?_ _)); exact BK154.out⟩, ⟨by repeat (first | (with_reducible first | exact HB.out | apply below_alloc | apply pw_below_drewN | apply below_drew1 | refine below_set ?_ GE153.out | refine below_set ?_ GE154.out) | exact HB.out)⟩⟩
  case round =>
    clear H'
    try clear p2
    try clear c3
    try clear c4
    try clear hcz5_0
    try clear hcz5_1
    try clear hcz5_2
    try clear hfz5_0
    try clear hfz5_1
    try clear hfz5_2
    obtain ⟨x4_1, x155000_1, x155001_1, x155002_1, rfl, HA, HK1, BK153, BK154, HB⟩ := hrel
    cases gk with
    | zero => exact absurd HA.out (by simp [tachographref12_Count.l0])
    | succ k1 =>
      have H := HA.out
      clear HA
      simp only [tachographref12_Count.l0] at H
      by_cases c6 : x4_1 < (l0.length : Int)
      · rw [if_pos c6] at H
        have c6b0 : decide (x4_1 < (l0.length : Int)) = true := decide_eq_true c6
        clear c6
        have H' := Aside0.mk H
        clear H
        go_wp2
        go_loopg [5] k1 (fun kq v5 w' => ∃ (x5_2 : Int) (x155000_2 : Int) (x155001_2 : Int) (x155002_2 : Int), v5 = .int .i64 x5_2 ∧ Aside0 (tachographref12_Count.l1 kq l0 x4_1 x5_2 x155000_2 x155001_2 x155002_2 = some (r1, r2, r3)) ∧ Aside0 (kq ≤ k1) ∧ Aside0 (w'.heap[gb153]? = some (.cells #[.int .i64 0, .int .i64 0, .int .i64 0] 57 (0, 0))) ∧ Aside0 (w'.heap[gb154]? = some (.cells #[.int .i64 x155000_2, .int .i64 x155001_2, .int .i64 x155002_2] 57 (0, 0))) ∧ Aside0 (Below w.heap.size w w'))
        case atStart => exact ⟨(0), (x155000_1), (x155001_1), (x155002_1), (by first | rfl | (simp; done) | (simp [*]; done)), H', ⟨Nat.le_refl _⟩, ⟨by (with_reducible repeat (first | refine blk_drewN ?_ _ | refine blk_drew ?_ | refine blk_alloc ?_ _)); exact BK153.out⟩, ⟨by (with_reducible repeat (first | refine blk_drewN ?_ _ | refine blk_drew ?_ | refine blk_alloc ?_ _)); exact BK154.out⟩, ⟨by repeat (first | (with_reducible first | exact HB.out | apply below_alloc | apply pw_below_drewN | apply below_drew1 | refine below_set ?_ GE153.out | refine below_set ?_ GE154.out) | exact HB.out)⟩⟩
        case round =>
          clear H'
          try clear p2
          try clear c3
          try clear c4
          try clear c6
          try clear c6b0
          try clear hcz5_0
          try clear hcz5_1
          try clear hcz5_2
          try clear hfz5_0
          try clear hfz5_1
          try clear hfz5_2
          try clear p2
          obtain ⟨x5_2, x155000_2, x155001_2, x155002_2, rfl, HA, HK2, BK153, BK154, HB⟩ := hrel
          cases gk with
          | zero => exact absurd HA.out (by simp [tachographref12_Count.l1])
          | succ k2 =>
            have H := HA.out
            clear HA
            simp only [tachographref12_Count.l1] at H
            by_cases c7 : 0 ≤ x4_1
            · rw [if_pos c7] at H
              have c7b0 : decide (0 ≤ x4_1) = true := decide_eq_true c7
              clear c7
              by_cases c8 : x4_1 < (l0.length : Int)
              · rw [if_pos c8] at H
                have c8b0 : decide (x4_1 < (l0.length : Int)) = true := decide_eq_true c8
                clear c8
                by_cases c9 : x5_2 < (((rd_T44 l0 x4_1).f1).length : Int)
                · rw [if_pos c9] at H
                  have c9b0 : decide (x5_2 < (((rd_T44 l0 x4_1).f1).length : Int)) = true := decide_eq_true c9
                  clear c9
                  by_cases c10 : 0 ≤ x5_2
                  · rw [if_pos c10] at H
                    have c10b0 : decide (0 ≤ x5_2) = true := decide_eq_true c10
                    clear c10
                    have H' := Aside0.mk H
                    clear H
                    have p155 : 0 ≤ (x4_1 : Int) := of_decide_eq_true (by first | (with_reducible assumption) | assumption)
                    have q155 : x4_1 < (l0.length : Int) := of_decide_eq_true (by first | (with_reducible assumption) | assumption)
                    obtain ⟨ad155, A155_1, c155_1, e155, hx155_0, hx155_1, hl155_1, hi155_1⟩ := at_T44 HR0.out x4_1 p155 q155
                    cases e155
                    replace hx155_0 := (HB.out.cell (World.block_lt_of_cell? w _ hx155_0)).trans hx155_0
                    replace hx155_1 := (HB.out.cell (World.block_lt_of_cell? w _ hx155_1)).trans hx155_1
                    have HR155_1 := Aside0.mk hi155_1
                    have HC155_1 := Aside0.mk hl155_1
                    clear hi155_1 hl155_1
                    replace p155 := eq_true p155
                    replace q155 := eq_true q155
                    have hnb11 := NB154_153.out
                    have hnc11 := NB153_154.out
                    have hcz12_0 : wr.cell? ⟨gb154, 0, none⟩ = some (.int .i64 x155000_2) := (blk_cell BK154.out 0).trans rfl
                    have hcz12_1 : wr.cell? ⟨gb154, 1, none⟩ = some (.int .i64 x155001_2) := (blk_cell BK154.out 1).trans rfl
                    have hcz12_2 : wr.cell? ⟨gb154, 2, none⟩ = some (.int .i64 x155002_2) := (blk_cell BK154.out 2).trans rfl
                    have hfz12_0 := blk_frozen BK154.out 0
                    have hfz12_1 := blk_frozen BK154.out 1
                    have hfz12_2 := blk_frozen BK154.out 2
                    have p156 : 0 ≤ (x4_1 : Int) := of_decide_eq_true (by first | (with_reducible assumption) | assumption)
                    have q156 : x4_1 < (l0.length : Int) := of_decide_eq_true (by first | (with_reducible assumption) | assumption)
                    obtain ⟨ad156, A156_1, c156_1, e156, hx156_0, hx156_1, hl156_1, hi156_1⟩ := at_T44 HR0.out x4_1 p156 q156
                    obtain rfl : ad155 = ad156 := (by injection e156)
                    have hn156_0 : ad155.block ≠ gb154 := Nat.ne_of_lt (Nat.lt_of_lt_of_le (by have := World.block_lt_of_cell? _ _ hx156_0; first | rwa [add_block] at this | exact this) GW154.out)
                    replace hx156_0 := (HB.out.cell (World.block_lt_of_cell? w _ hx156_0)).trans hx156_0
                    replace hx156_1 := (HB.out.cell (World.block_lt_of_cell? w _ hx156_1)).trans hx156_1
                    have HR156_1 := Aside0.mk hi156_1
                    have HC156_1 := Aside0.mk hl156_1
                    clear hi156_1 hl156_1
                    replace hx156_0 := (cell_far (p := ⟨gb154, 0, none⟩) (by first | (rw [add_block]; exact hn156_0) | (show (Addr.add _ _).block ≠ _; rw [add_block]; exact hn156_0) | exact hn156_0) (.int .i64 (wrap64 (x155000_2 + 1)))).trans hx156_0
                    replace hx156_1 := (cell_far (p := ⟨gb154, 0, none⟩) (by first | (rw [add_block]; exact hn156_0) | (show (Addr.add _ _).block ≠ _; rw [add_block]; exact hn156_0) | exact hn156_0) (.int .i64 (wrap64 (x155000_2 + 1)))).trans hx156_1
                    clear hn156_0
                    replace p156 := eq_true p156
                    replace q156 := eq_true q156
                    have p157 : 0 ≤ (x5_2 : Int) := of_decide_eq_true (by first | (with_reducible assumption) | assumption)
                    have q157 : x5_2 < (((rd_T44 l0 x4_1).f1).length : Int) := of_decide_eq_true (by first | (with_reducible assumption) | assumption)
                    obtain ⟨ad157, A157_1, c157_1, e157, hx157_0, hx157_1, hl157_1, hi157_1⟩ := at_T61 HR156_1.out x5_2 p157 q157
                    cases e157
                    have hn157_0 : ad157.block ≠ gb154 := Nat.ne_of_lt (Nat.lt_of_lt_of_le (by have := World.block_lt_of_cell? _ _ hx157_0; first | rwa [add_block] at this | exact this) GW154.out)
                    replace hx157_0 := (HB.out.cell (World.block_lt_of_cell? w _ hx157_0)).trans hx157_0
                    replace hx157_1 := (HB.out.cell (World.block_lt_of_cell? w _ hx157_1)).trans hx157_1
                    have HR157_1 := Aside0.mk hi157_1
                    have HC157_1 := Aside0.mk hl157_1
                    clear hi157_1 hl157_1
                    replace hx157_0 := (cell_far (p := ⟨gb154, 0, none⟩) (by first | (rw [add_block]; exact hn157_0) | (show (Addr.add _ _).block ≠ _; rw [add_block]; exact hn157_0) | exact hn157_0) (.int .i64 (wrap64 (x155000_2 + 1)))).trans hx157_0
                    replace hx157_1 := (cell_far (p := ⟨gb154, 0, none⟩) (by first | (rw [add_block]; exact hn157_0) | (show (Addr.add _ _).block ≠ _; rw [add_block]; exact hn157_0) | exact hn157_0) (.int .i64 (wrap64 (x155000_2 + 1)))).trans hx157_1
                    clear hn157_0
                    replace p157 := eq_true p157
                    replace q157 := eq_true q157
                    go_wp2
                    go_loopg [7] k2 (fun kq v7 w' => ∃ (x7_3 : Int) (x155002_3 : Int), v7 = .int .i64 x7_3 ∧ Aside0 (tachographref12_Count.l2 kq l0 x4_1 x5_2 ((rd_T61 ((rd_T44 l0 x4_1).f1) x5_2).f1) x7_3 (wrap64 (x155000_2 + 1)) (wrap64 (x155001_2 + (((rd_T61 ((rd_T44 l0 x4_1).f1) x5_2).f1).length : Int))) x155002_3 = some (r1, r2, r3)) ∧ Aside0 (kq ≤ k2) ∧ Aside0 (w'.heap[gb153]? = some (.cells #[.int .i64 0, .int .i64 0, .int .i64 0] 57 (0, 0))) ∧ Aside0 (w'.heap[gb154]? = some (.cells #[.int .i64 (wrap64 (x155000_2 + 1)), .int .i64 (wrap64 (x155001_2 + (((rd_T61 ((rd_T44 l0 x4_1).f1) x5_2).f1).length : Int))), .int .i64 x155002_3] 57 (0, 0))) ∧ Aside0 (Below w.heap.size w w'))
                    case atStart => exact ⟨(0), (x155002_2), (by first | rfl | (simp; done) | (simp [*]; done)), H', ⟨Nat.le_refl _⟩, ⟨by (with_reducible repeat (first | refine blk_drewN ?_ _ | refine blk_drew ?_ | refine blk_alloc ?_ _)); refine blk_far ?_ NB153_154.out _; (with_reducible repeat (first | refine blk_drewN ?_ _ | refine blk_drew ?_ | refine blk_alloc ?_ _)); refine blk_far ?_ NB153_154.out _; (with_reducible repeat (first | refine blk_drewN ?_ _ | refine blk_drew ?_ | refine blk_alloc ?_ _)); exact BK153.out⟩, ⟨by (with_reducible repeat (first | refine blk_drewN ?_ _ | refine blk_drew ?_ | refine blk_alloc ?_ _)); refine blk_put (cs := #[.int .i64 (wrap64 (x155000_2 + 1)), .int .i64 x155001_2, .int .i64 x155002_2]) ?_ 1 _ rfl; (with_reducible repeat (first | refine blk_drewN ?_ _ | refine blk_drew ?_ | refine blk_alloc ?_ _)); refine blk_put (cs := #[.int .i64 x155000_2, .int .i64 x155001_2, .int .i64 x155002_2]) ?_ 0 _ rfl; (with_reducible repeat (first | refine blk_drewN ?_ _ | refine blk_drew ?_ | refine blk_alloc ?_ _)); exact BK154.out⟩, ⟨by repeat (first | (with_reducible first | exact HB.out | apply below_alloc | apply pw_below_drewN | apply below_drew1 | refine below_set ?_ GE153.out | refine below_set ?_ GE154.out) | exact HB.out)⟩⟩
                    case round =>
                      clear H'
                      try clear c1
                      try clear p1
                      try clear q1
                      try clear hx1
                      try clear p2
                      try clear c3
                      try clear c4
                      try clear c6
                      try clear c6b0
                      try clear p6
                      try clear c7
                      try clear c7b0
                      try clear c8
                      try clear c8b0
                      try clear c9
                      try clear c9b0
                      try clear c10
                      try clear c10b0
                      try clear c11
                      try clear hcz12_0
                      try clear hcz12_1
                      try clear hcz12_2
                      try clear hcz5_0
                      try clear hcz5_1
                      try clear hcz5_2
                      try clear hfz12_0
                      try clear hfz12_1
                      try clear hfz12_2
                      try clear hfz5_0
                      try clear hfz5_1
                      try clear hfz5_2
                      try clear hx155_0
                      try clear hx155_1
                      try clear hx156_0
                      try clear hx156_1
                      try clear hx157_0
                      try clear hx157_1
                      try clear p155
                      try clear p156
                      try clear p157
                      try clear p2
                      try clear q155
                      try clear q156
                      try clear q157
                      obtain ⟨x7_3, x155002_3, rfl, HA, HK3, BK153, BK154, HB⟩ := hrel
                      cases gk with
                      | zero => exact absurd HA.out (by simp [tachographref12_Count.l2])
                      | succ k3 =>
                        have H := HA.out
                        clear HA
                        simp only [tachographref12_Count.l2] at H
                        by_cases c13 : x7_3 < (((rd_T61 ((rd_T44 l0 x4_1).f1) x5_2).f1).length : Int)
                        · rw [if_pos c13] at H
                          have c13b0 : decide (x7_3 < (((rd_T61 ((rd_T44 l0 x4_1).f1) x5_2).f1).length : Int)) = true := decide_eq_true c13
                          clear c13
                          by_cases c14 : 0 ≤ x7_3
                          · rw [if_pos c14] at H
                            have c14b0 : decide (0 ≤ x7_3) = true := decide_eq_true c14
                            clear c14
                            have H' := Aside0.mk H
                            clear H
                            try go_wp2
                            have n0_ := Aside0.mk (blk_drew BK153.out)
                            have n1_ := Aside0.mk (blk_drew BK154.out)
                            have n2_ := Aside0.mk (below_drew1 HB.out)
                            clear BK153
                            clear BK154
                            clear HB
                            have BK153 := n0_
                            have BK154 := n1_
                            have HB := n2_
                            clear n0_ n1_ n2_
                            have p158 : 0 ≤ (x7_3 : Int) := of_decide_eq_true (by first | (with_reducible assumption) | assumption)
                            have q158 : x7_3 < (((rd_T61 ((rd_T44 l0 x4_1).f1) x5_2).f1).length : Int) := of_decide_eq_true (by first | (with_reducible assumption) | assumption)
                            obtain ⟨ad158, e158, hx158_0, hx158_1, hx158_2⟩ := at_T70 HR157_1.out x7_3 p158 q158
                            have hw158_2 := hx158_2
                            have hw158_1 := hx158_1
                            have hw158_0 := hx158_0
                            cases e158
                            replace hx158_0 := (HB.out.cell (World.block_lt_of_cell? w _ hx158_0)).trans hx158_0
                            replace hx158_1 := (HB.out.cell (World.block_lt_of_cell? w _ hx158_1)).trans hx158_1
                            replace hx158_2 := (HB.out.cell (World.block_lt_of_cell? w _ hx158_2)).trans hx158_2
                            replace p158 := eq_true p158
                            replace q158 := eq_true q158
                            refine start_ (n := 11) (S := fun w' => w'.cell? ⟨gb154, 0, none⟩ = some (.int .i64 (wrap64 (x155000_2 + 1))) ∧ w'.cell? ⟨gb154, 1, none⟩ = some (.int .i64 (wrap64 (x155001_2 + (((rd_T61 ((rd_T44 l0 x4_1).f1) x5_2).f1).length : Int)))) ∧ w'.cell? ⟨gb154, 2, none⟩ = some (.int .i64 x155002_3) ∧ w'.cell? (ad158.add ((x7_3).toNat * 3)) = some (.int .i64 ((rd_T70 ((rd_T61 ((rd_T44 l0 x4_1).f1) x5_2).f1) x7_3).f0)) ∧ w'.cell? ⟨(ad158.add ((x7_3).toNat * 3)).block, (ad158.add ((x7_3).toNat * 3)).off + 1, none⟩ = some (.int .i64 ((rd_T70 ((rd_T61 ((rd_T44 l0 x4_1).f1) x5_2).f1) x7_3).f1)) ∧ w'.cell? ⟨(ad158.add ((x7_3).toNat * 3)).block, (ad158.add ((x7_3).toNat * 3)).off + 2, none⟩ = some (.string ((rd_T70 ((rd_T61 ((rd_T44 l0 x4_1).f1) x5_2).f1) x7_3).f2))) (ds := [10]) #[false, false, false, false, false, false, false, false, false, false, false] (by kernel_rfl) rfl rfl ⟨(blk_cell BK154.out 0).trans rfl, (blk_cell BK154.out 1).trans rfl, (blk_cell BK154.out 2).trans rfl, ((HB.out.cell (World.block_lt_of_cell? w _ hw158_0)).trans hw158_0), ((HB.out.cell (World.block_lt_of_cell? w _ hw158_1)).trans hw158_1), ((HB.out.cell (World.block_lt_of_cell? w _ hw158_2)).trans hw158_2)⟩ (fun hHeld => ?_); refine with_tabW tachographref12_Count.tab14 tachographref12_Count.bits14 (fun HT_ HW_ => ?_)
                            generalize wr.drew = w15 at BK153 BK154 HB hx158_0 hx158_1 hx158_2 hHeld ⊢
                            refine pure_ (i := 0) (N := some 50) (v := ?_) (a' := ?_) #[true, false, false, false, false, false, false, false, false, false, false] rfl rfl (any_of HT_.out (by kernel_rfl)) (fun _ _ _ h => h) (Or.inl ⟨by rfl, ?_⟩) ?_ ?_
                            rotate_left
                            · intro w'
                              go_simp
                              with_reducible rfl
                            rotate_left
                            · simp only [Act.put, List.setIfInBounds_toArray, List.set_cons_zero, List.set_cons_succ, i64_w, i32_w]
                              rfl
                            refine pure_ (i := 2) (N := some 52) (v := ?_) (a' := ?_) #[true, false, true, false, false, false, false, false, false, false, false] rfl rfl (any_of HT_.out (by kernel_rfl)) (fun _ _ _ h => h) (Or.inl ⟨by rfl, ?_⟩) ?_ ?_
                            rotate_left
                            · intro w'
                              go_simp
                              with_reducible rfl
                            rotate_left
                            · simp only [Act.put, List.setIfInBounds_toArray, List.set_cons_zero, List.set_cons_succ, i64_w, i32_w]
                              rfl
                            refine pure_ (i := 3) (N := some 53) (v := ?_) (a' := ?_) #[true, false, true, true, false, false, false, false, false, false, false] rfl rfl (any_of HT_.out (by kernel_rfl)) (fun _ _ _ h => h) (Or.inl ⟨by rfl, ?_⟩) ?_ ?_
                            rotate_left
                            · intro w'
                              go_simp
                              with_reducible rfl
                            rotate_left
                            · simp only [Act.put, List.setIfInBounds_toArray, List.set_cons_zero, List.set_cons_succ, i64_w, i32_w]
                              rfl
                            refine pure_ (i := 4) (N := some 54) (v := ?_) (a' := ?_) #[true, false, true, true, true, false, false, false, false, false, false] rfl rfl (any_of HT_.out (by kernel_rfl)) (fun _ _ _ h => h) (Or.inl ⟨by rfl, ?_⟩) ?_ ?_
                            rotate_left
                            · intro w'
                              go_simp
                              with_reducible rfl
                            rotate_left
                            · simp only [Act.put, List.setIfInBounds_toArray, List.set_cons_zero, List.set_cons_succ, i64_w, i32_w]
                              rfl
                            refine pure_ (i := 5) (N := some 55) (v := ?_) (a' := ?_) #[true, false, true, true, true, true, false, false, false, false, false] rfl rfl (any_of HT_.out (by kernel_rfl)) (fun _ _ _ h => h) (Or.inl ⟨by rfl, ?_⟩) ?_ ?_
                            rotate_left
                            · intro w'
                              go_simp
                              with_reducible rfl
                            rotate_left
                            · simp only [Act.put, List.setIfInBounds_toArray, List.set_cons_zero, List.set_cons_succ, i64_w, i32_w]
                              rfl
                            refine take_ (i := 1) (N := some 51) (v := ?_) (a' := ?_) #[true, true, true, true, true, true, false, false, false, false, false] rfl rfl (take_ofW HT_.out HW_.out (by kernel_rfl)) (fun _ _ _ h => h) (Or.inl ⟨by rfl, ?_⟩) hHeld ?_ ?_
                            rotate_left
                            · rintro w' ⟨s0, s1, s2, s3, s4, s5⟩
                              go_simp
                              with_reducible rfl
                            rotate_left
                            · simp only [Act.put, List.setIfInBounds_toArray, List.set_cons_zero, List.set_cons_succ, i64_w, i32_w]
                              rfl
                            refine take_ (i := 6) (N := some 56) (v := ?_) (a' := ?_) #[true, true, true, true, true, true, true, false, false, false, false] rfl rfl (take_ofW HT_.out HW_.out (by kernel_rfl)) (fun _ _ _ h => h) (Or.inl ⟨by rfl, ?_⟩) hHeld ?_ ?_
                            rotate_left
                            · rintro w' ⟨s0, s1, s2, s3, s4, s5⟩
                              go_simp
                              with_reducible rfl
                            rotate_left
                            · simp only [Act.put, List.setIfInBounds_toArray, List.set_cons_zero, List.set_cons_succ, i64_w, i32_w]
                              rfl
                            refine pure_ (i := 7) (N := some 57) (v := ?_) (a' := ?_) #[true, true, true, true, true, true, true, true, false, false, false] rfl rfl (any_of HT_.out (by kernel_rfl)) (fun _ _ _ h => h) (Or.inl ⟨by rfl, ?_⟩) ?_ ?_
                            rotate_left
                            · intro w'
                              go_simp
                              with_reducible rfl
                            rotate_left
                            · simp only [Act.put, List.setIfInBounds_toArray, List.set_cons_zero, List.set_cons_succ, i64_w, i32_w]
                              rfl
                            refine pure_ (i := 8) (N := some 58) (v := ?_) (a' := ?_) #[true, true, true, true, true, true, true, true, true, false, false] rfl rfl (any_of HT_.out (by kernel_rfl)) (fun _ _ _ h => h) (Or.inl ⟨by rfl, ?_⟩) ?_ ?_
                            rotate_left
                            · intro w'
                              go_simp
                              with_reducible rfl
                            rotate_left
                            · simp only [Act.put, List.setIfInBounds_toArray, List.set_cons_zero, List.set_cons_succ, i64_w, i32_w]
                              rfl
                            refine pure_ (i := 9) (N := some 59) (v := ?_) (a' := ?_) #[true, true, true, true, true, true, true, true, true, true, false] rfl rfl (any_of HT_.out (by kernel_rfl)) (fun _ _ _ h => h) (Or.inl ⟨by rfl, ?_⟩) ?_ ?_
                            rotate_left
                            · intro w'
                              go_simp
                              with_reducible rfl
                            rotate_left
                            · simp only [Act.put, List.setIfInBounds_toArray, List.set_cons_zero, List.set_cons_succ, i64_w, i32_w]
                              rfl
                            refine last_ (i := 10) (N := none) #[true, true, true, true, true, true, true, true, true, true, true] rfl rfl (one_of HT_.out (by kernel_rfl)) (by decide) (fun K hK => ?_)
                            have hs16 : w15.cell? ⟨gb154, 2, none⟩ = some (.int .i64 x155002_3) := (blk_cell BK154.out 2).trans rfl
                            have hfs16 := blk_frozen BK154.out 2
                            have hns16_0 := NB153_154.out
                            have hms16_0 := NB154_153.out
                            refine skip_ (w1 := ?_) (by rfl) rfl ?_ ?_
                            rotate_left
                            · go_simp
                              rfl
                            refine hK.out _ _ ?_
                            clear hK K
                            refine done_ (done_of HT_.out (by kernel_rfl)) ?_
                            try go_wp2
                            go_roundg k3
                            case measure => have := HK1.out; have := HK2.out; have := HK3.out; omega
                            case rel => exact ⟨(wrap64 (x7_3 + 1)), (wrap64 (x155002_3 + (((rd_T70 ((rd_T61 ((rd_T44 l0 x4_1).f1) x5_2).f1) x7_3).f2).size : Int))), (by first | rfl | (simp; done) | (simp [*]; done)), H', ⟨by have := HK1.out; have := HK2.out; have := HK3.out; omega⟩, ⟨by (with_reducible repeat (first | refine blk_drewN ?_ _ | refine blk_drew ?_ | refine blk_alloc ?_ _)); refine blk_far ?_ NB153_154.out _; (with_reducible repeat (first | refine blk_drewN ?_ _ | refine blk_drew ?_ | refine blk_alloc ?_ _)); exact BK153.out⟩, ⟨by (with_reducible repeat (first | refine blk_drewN ?_ _ | refine blk_drew ?_ | refine blk_alloc ?_ _)); refine blk_put (cs := #[.int .i64 (wrap64 (x155000_2 + 1)), .int .i64 (wrap64 (x155001_2 + (((rd_T61 ((rd_T44 l0 x4_1).f1) x5_2).f1).length : Int))), .int .i64 x155002_3]) ?_ 2 _ rfl; (with_reducible repeat (first | refine blk_drewN ?_ _ | refine blk_drew ?_ | refine blk_alloc ?_ _)); exact BK154.out⟩, ⟨by repeat (first | (with_reducible first | exact HB.out | apply below_alloc | apply pw_below_drewN | apply below_drew1 | refine below_set ?_ GE153.out | refine below_set ?_ GE154.out) | exact HB.out)⟩⟩
                          · rw [if_neg c14] at H
                            exact absurd H (by simp)
                        · rw [if_neg c13] at H
                          have c13b0 : decide (x7_3 < (((rd_T61 ((rd_T44 l0 x4_1).f1) x5_2).f1).length : Int)) = false := decide_eq_false c13
                          clear c13
                          have H' := Aside0.mk H
                          clear H
                          go_wp2
                          go_roundg k3
                          case measure => have := HK1.out; have := HK2.out; have := HK3.out; omega
                          case rel => exact ⟨(wrap64 (x5_2 + 1)), ((wrap64 (x155000_2 + 1))), ((wrap64 (x155001_2 + (((rd_T61 ((rd_T44 l0 x4_1).f1) x5_2).f1).length : Int)))), (x155002_3), (by first | rfl | (simp; done) | (simp [*]; done)), H', ⟨by have := HK1.out; have := HK2.out; have := HK3.out; omega⟩, ⟨by (with_reducible repeat (first | refine blk_drewN ?_ _ | refine blk_drew ?_ | refine blk_alloc ?_ _)); exact BK153.out⟩, ⟨by (with_reducible repeat (first | refine blk_drewN ?_ _ | refine blk_drew ?_ | refine blk_alloc ?_ _)); exact BK154.out⟩, ⟨by repeat (first | (with_reducible first | exact HB.out | apply below_alloc | apply pw_below_drewN | apply below_drew1 | refine below_set ?_ GE153.out | refine below_set ?_ GE154.out) | exact HB.out)⟩⟩
                  · rw [if_neg c10] at H
                    exact absurd H (by simp)
                · rw [if_neg c9] at H
                  have c9b0 : decide (x5_2 < (((rd_T44 l0 x4_1).f1).length : Int)) = false := decide_eq_false c9
                  clear c9
                  have H' := Aside0.mk H
                  clear H
                  have p155 : 0 ≤ (x4_1 : Int) := of_decide_eq_true (by first | (with_reducible assumption) | assumption)
                  have q155 : x4_1 < (l0.length : Int) := of_decide_eq_true (by first | (with_reducible assumption) | assumption)
                  obtain ⟨ad155, A155_1, c155_1, e155, hx155_0, hx155_1, hl155_1, hi155_1⟩ := at_T44 HR0.out x4_1 p155 q155
                  cases e155
                  replace hx155_0 := (HB.out.cell (World.block_lt_of_cell? w _ hx155_0)).trans hx155_0
                  replace hx155_1 := (HB.out.cell (World.block_lt_of_cell? w _ hx155_1)).trans hx155_1
                  have HR155_1 := Aside0.mk hi155_1
                  have HC155_1 := Aside0.mk hl155_1
                  clear hi155_1 hl155_1
                  replace p155 := eq_true p155
                  replace q155 := eq_true q155
                  go_wp2
                  go_roundg k2
                  case measure => have := HK1.out; have := HK2.out; omega
                  case rel => exact ⟨(wrap64 (x4_1 + 1)), (x155000_2), (x155001_2), (x155002_2), (by first | rfl | (simp; done) | (simp [*]; done)), H', ⟨by have := HK1.out; have := HK2.out; omega⟩, ⟨by (with_reducible repeat (first | refine blk_drewN ?_ _ | refine blk_drew ?_ | refine blk_alloc ?_ _)); exact BK153.out⟩, ⟨by (with_reducible repeat (first | refine blk_drewN ?_ _ | refine blk_drew ?_ | refine blk_alloc ?_ _)); exact BK154.out⟩, ⟨by repeat (first | (with_reducible first | exact HB.out | apply below_alloc | apply pw_below_drewN | apply below_drew1 | refine below_set ?_ GE153.out | refine below_set ?_ GE154.out) | exact HB.out)⟩⟩
              · rw [if_neg c8] at H
                exact absurd H (by simp)
            · rw [if_neg c7] at H
              exact absurd H (by simp)
      · rw [if_neg c6] at H
        have c6b0 : decide (x4_1 < (l0.length : Int)) = false := decide_eq_false c6
        clear c6
        simp only [Option.some.injEq, Prod.mk.injEq] at H
        obtain ⟨rfl, rfl, rfl⟩ := H
        have hnb17 := NB154_153.out
        have hnc17 := NB153_154.out
        have hcz18_0 : wr.cell? ⟨gb154, 0, none⟩ = some (.int .i64 x155000_1) := (blk_cell BK154.out 0).trans rfl
        have hcz18_1 : wr.cell? ⟨gb154, 1, none⟩ = some (.int .i64 x155001_1) := (blk_cell BK154.out 1).trans rfl
        have hcz18_2 : wr.cell? ⟨gb154, 2, none⟩ = some (.int .i64 x155002_1) := (blk_cell BK154.out 2).trans rfl
        have hfz18_0 := blk_frozen BK154.out 0
        have hfz18_1 := blk_frozen BK154.out 1
        have hfz18_2 := blk_frozen BK154.out 2
        have hcz19_0 : wr.cell? ⟨gb153, 0, none⟩ = some (.int .i64 0) := (blk_cell BK153.out 0).trans rfl
        have hcz19_1 : wr.cell? ⟨gb153, 1, none⟩ = some (.int .i64 0) := (blk_cell BK153.out 1).trans rfl
        have hcz19_2 : wr.cell? ⟨gb153, 2, none⟩ = some (.int .i64 0) := (blk_cell BK153.out 2).trans rfl
        have hfz19_0 := blk_frozen BK153.out 0
        have hfz19_1 := blk_frozen BK153.out 1
        have hfz19_2 := blk_frozen BK153.out 2
        go_wp2
        refine bodyPost_ret (results_cell_row rfl _ _ gb153 57 #[.int .i64 x155000_1, .int .i64 x155001_1, .int .i64 x155002_1] (0, 0) _ rfl (by (with_reducible repeat (first | refine blk_drewN ?_ _ | refine blk_drew ?_ | refine blk_alloc ?_ _)); refine blk_put (cs := #[.int .i64 x155000_1, .int .i64 x155001_1, .int .i64 0]) ?_ 2 _ rfl; (with_reducible repeat (first | refine blk_drewN ?_ _ | refine blk_drew ?_ | refine blk_alloc ?_ _)); refine blk_put (cs := #[.int .i64 x155000_1, .int .i64 0, .int .i64 0]) ?_ 1 _ rfl; (with_reducible repeat (first | refine blk_drewN ?_ _ | refine blk_drew ?_ | refine blk_alloc ?_ _)); refine blk_put (cs := #[.int .i64 0, .int .i64 0, .int .i64 0]) ?_ 0 _ rfl; (with_reducible repeat (first | refine blk_drewN ?_ _ | refine blk_drew ?_ | refine blk_alloc ?_ _)); exact BK153.out) Try.underlying57 rfl (by kernel_rfl)) rfl ?_
        exact ⟨by first | rfl | (simp [errW_none, errW_some] <;> rfl) | (simp [*, errW_none, errW_some] <;> rfl), by repeat (first | (with_reducible first | exact HB.out | apply below_alloc | apply pw_below_drewN | apply below_drew1 | refine below_set ?_ GE153.out | refine below_set ?_ GE154.out) | exact HB.out)⟩

end Go.Proofs.Ytjfklfmfeghjnab.PT
