-- Contracts of Go functions, each with its plain Lean function: written by wip/tools/myprint.py of this work (the kit's print, with contracts proved by hand spliced in).
import Derived.Test.YtjfklfmfeghjnacPLx0
namespace Go.Proofs.Ytjfklfmfeghjnac.PL
open Go.RowKit Go.Proofs.YtjfklfmfeghjnacW.PrintWords Go.Proofs.YtjfklfmfeghjnacW.PrintLast Go.Proofs.YtjfklfmfeghjnacW.PrintMore
attribute [local go_sem] max2_int min2_int max_two min_two max_three min_three max_four min_four   -- for this text's walks alone
set_option linter.unusedVariables false
set_option linter.unusedSimpArgs false

-- NOT PRINTED: function 64 (utf8_RuneCountInString)

-- NOT PRINTED: function 65 (bytealg_CountString)

-- NOT PRINTED: function 63 (bytealg_IndexByteString)

-- NOT PRINTED: function 49 (stringslite_IndexByte)

-- NOT PRINTED: function 74 (bytealg_IndexString)

-- NOT PRINTED: function 75 (bytealg_Cutover)

-- NOT PRINTED: function 77 (bytealg_hashStr_string)

-- NOT PRINTED: function 76 (bytealg_IndexRabinKarp_string)

-- NOT PRINTED: function 71 (stringslite_Index)

-- NOT PRINTED: function 66 (strings_Index)

/-! ### strings_Count: function 50 -/
/-- (A text of one byte, alone.) -/
def strings_Count.f (a0 a1 : ByteArray) : Option Int := match a1.data.toList with
  | [c] => some ((Lib.countByte a0.data.toList c : Nat) : Int)
  | _ => none
theorem strings_Count.calls (a0 a1 : ByteArray) (r : Int) (w : World) (h : strings_Count.f a0 a1 = some r) :
    Calls Try.prog 50 #[.string a0, .string a1] w fun e w' => e = .returned (.int .i64 r) ∧ Drawn0 w w' := by
  unfold strings_Count.f at h
  split at h
  · rename_i c hc
    obtain rfl := Option.some.inj h
    have e1 : a1 = ⟨#[c]⟩ := by
      obtain ⟨⟨l⟩⟩ := a1
      simp only at hc
      rw [hc]
    subst e1
    refine (Go.Proofs.Try.strings_Count_one a0 c w).mono ?_
    rintro e w' ⟨rfl, rfl⟩
    exact ⟨rfl, 0, rfl⟩
  · cases h

-- NOT PRINTED: function 67 (bytealg_LastIndexByteString)

/-! ### strings_LastIndexByte: function 51 -/
def strings_LastIndexByte.f (a0 : ByteArray) (a1 : Int) : Option Int := if a0.size < 4611686018427387904 then some (Lib.lastIndexByte a0 a1) else none
theorem strings_LastIndexByte.calls (a0 : ByteArray) (a1 : Int) (r : Int) (w : World) (h : strings_LastIndexByte.f a0 a1 = some r) :
    Calls Try.prog 51 #[.string a0, .int .u8 a1] w fun e w' => e = .returned (.int .i64 r) ∧ Below w.heap.size w w' := by
  unfold strings_LastIndexByte.f at h
  by_cases hc : a0.size < 4611686018427387904
  · rw [if_pos hc] at h
    obtain rfl := Option.some.inj h
    refine (Go.Proofs.Try.strings_LastIndexByte a0 a1 hc w).mono ?_
    rintro e w' ⟨rfl, rfl⟩
    exact ⟨rfl, Below.refl _ _⟩
  · rw [if_neg hc] at h
    cases h

/-! ### lex_on: function 37 -/
def lex_on.f (a0_0 : Int) (a0_1 : Int) (a1 : ByteArray) : Option (Int × Int) := (strings_Count.f a1 (⟨#[10]⟩ : ByteArray)).bind fun t103 => (if t103 > 0 then ((strings_LastIndexByte.f a1 10).bind fun t104 => (if 0 ≤ (wrap64 (t104 + 1)) then (if (wrap64 (t104 + 1)) ≤ (a1.size : Int) then (some (wrap64 (a0_0 + t103), wrap64 (1 + ((a1.extract ((wrap64 (t104 + 1)) : Int).toNat a1.size).size : Int)))) else (none)) else (none))) else (some (a0_0, wrap64 (a0_1 + (a1.size : Int)))))
set_option maxHeartbeats 8000000 in
set_option maxRecDepth 100000 in
theorem lex_on.calls (a0_0 : Int) (a0_1 : Int) (a1 : ByteArray) (r1 : Int) (r2 : Int) (w : World) (h : lex_on.f a0_0 a0_1 a1 = some (r1,r2)) :
  Calls Try.prog 37 #[.agg #[.int .i64 a0_0,.int .i64 a0_1],.string a1] w fun e w' => e = .returned (.agg #[.int .i64 r1,.int .i64 r2]) ∧ Below w.heap.size w w':=by
 have hu36:=Try.underlying36
 have HB:=Aside0.mk (Below.refl w.heap.size w)
 have H : ((strings_Count.f a1 (⟨#[10]⟩ : ByteArray)).bind fun t103 => (if t103 > 0 then ((strings_LastIndexByte.f a1 10).bind fun t104 => (if 0 ≤ (wrap64 (t104 + 1)) then (if (wrap64 (t104 + 1)) ≤ (a1.size : Int) then (some (wrap64 (a0_0 + t103),wrap64 (1 + ((a1.extract ((wrap64 (t104 + 1)) : Int).toNat a1.size).size : Int)))) else (none)) else (none))) else (some (a0_0,wrap64 (a0_1 + (a1.size : Int)))))) = some (r1,r2):=h
 clear h
 replace H:=Option.bind_eq_some_iff.mp H
 obtain ⟨t103,A30,H⟩:=H
 replace H : (if t103 > 0 then ((strings_LastIndexByte.f a1 10).bind fun t104 => (if 0 ≤ (wrap64 (t104 + 1)) then (if (wrap64 (t104 + 1)) ≤ (a1.size : Int) then (some (wrap64 (a0_0 + t103),wrap64 (1 + ((a1.extract ((wrap64 (t104 + 1)) : Int).toNat a1.size).size : Int)))) else (none)) else (none))) else (some (a0_0,wrap64 (a0_1 + (a1.size : Int))))) = some (r1,r2):=H
 have A3:=Aside0.mk A30
 clear A30
 by_cases c4 : t103 > 0
 ·rw [if_pos c4] at H
  have c4b0 : decide (0 < t103) = true:=decide_eq_true c4
  clear c4
  replace H:=Option.bind_eq_some_iff.mp H
  obtain ⟨t104,A50,H⟩:=H
  replace H : (if 0 ≤ (wrap64 (t104 + 1)) then (if (wrap64 (t104 + 1)) ≤ (a1.size : Int) then (some (wrap64 (a0_0 + t103),wrap64 (1 + ((a1.extract ((wrap64 (t104 + 1)) : Int).toNat a1.size).size : Int)))) else (none)) else (none)) = some (r1,r2):=H
  have A5:=Aside0.mk A50
  clear A50
  obtain ⟨ji6,hji6⟩ : ∃ j_ : Int,(wrap64 (t104 + 1)) = j_:=⟨_,rfl⟩
  replace H : (if 0 ≤ (ji6) then (if (ji6) ≤ (a1.size : Int) then (some (wrap64 (a0_0 + t103),wrap64 (1 + ((a1.extract ((ji6) : Int).toNat a1.size).size : Int)))) else (none)) else (none)) = some (r1,r2):=by first | (rw [hji6] at H;exact H) | (simp only [hji6] at H ⊢;exact H)
  (try rw [hji6] at A3)
  (try rw [hji6] at A5)
  have hji6w : (IntKind.i64.wrap (t104 + 1)) = ji6:=(i64_w _).trans hji6
  by_cases c7 : 0 ≤ (ji6)
  ·rw [if_pos c7] at H
   have c7b0:=eq_true c7
   have c7b1 : decide (0 ≤ (ji6)) = true:=decide_eq_true c7
   clear c7
   by_cases c8 : (ji6) ≤ (a1.size : Int)
   ·rw [if_pos c8] at H
    have c8b0:=eq_true c8
    have c8b1 : decide ((ji6) ≤ (a1.size : Int)) = true:=decide_eq_true c8
    clear c8
    try simp only [ByteArray.size_extract,Nat.min_self] at H
    simp only [Option.some.injEq,Prod.mk.injEq] at H
    obtain ⟨rfl,rfl⟩:=H
    go_enter Try.func37,Try.ntmps37
    go_wp2_with (first | ((with_reducible refine gate_dst (N:=2) rfl ?_);refine box_event ?hg (N:=2) ?hd (cs:=#[.int .i64 a0_0,.int .i64 a0_1]) (t:=36) ?hr ?_;(case hd => rfl);(case hg => rfl);(case hr => first | (go_simp;done) | (go_simp;rfl));intro gb101 hg w9 hbox hb;have n0_:=Aside0.mk (below_step (by repeat (first | (with_reducible first | exact HB.out | apply below_alloc | apply pw_below_drewN | apply below_drew1) | exact HB.out)) hb);have n1_:=Aside0.mk (hbox);have n2_:=Aside0.mk ((by rw [hg];exact (below_size (by repeat (first | (with_reducible first | exact HB.out | apply below_alloc | apply pw_below_drewN | apply below_drew1) | exact HB.out))) : w.heap.size ≤ gb101));have n3_:=Aside0.mk ((by rw [hg];exact (below_size (by repeat (first | (with_reducible first | exact HB.out | apply below_alloc | apply pw_below_drewN | apply below_drew1) | exact HB.out))) : w.heap.size ≤ gb101));clear HB;have HB:=n0_;have BK101:=n1_;have GW101:=n2_;have GE101:=n3_;clear n0_ n1_ n2_ n3_;clear hb hbox hg) | ((with_reducible refine gate_dst (N:=4) rfl ?_);refine box_event ?hg (N:=4) ?hd (cs:=#[.int .i64 0,.int .i64 0]) (t:=36) ?hr ?_;(case hd => rfl);(case hg => rfl);(case hr => first | (go_simp;done) | (go_simp;rfl));intro gb102 hg w10 hbox hb;have n0_:=Aside0.mk (blk_below (g:=gb101) (o:=.cells #[.int .i64 a0_0,.int .i64 a0_1] 36 (0,0)) (by (with_reducible repeat (first | refine blk_drewN ?_ _ | refine blk_drew ?_ | refine blk_alloc ?_ _));exact BK101.out) hb);have n1_:=Aside0.mk (below_step (by repeat (first | (with_reducible first | exact HB.out | apply below_alloc | apply pw_below_drewN | apply below_drew1 | refine below_set ?_ GE101.out) | exact HB.out)) hb);have n2_:=Aside0.mk (hbox);have n3_:=Aside0.mk ((by rw [hg];exact (below_size (by repeat (first | (with_reducible first | exact HB.out | apply below_alloc | apply pw_below_drewN | apply below_drew1 | refine below_set ?_ GE101.out) | exact HB.out))) : w.heap.size ≤ gb102));have n4_:=Aside0.mk ((by rw [hg];exact (below_size (by repeat (first | (with_reducible first | exact HB.out | apply below_alloc | apply pw_below_drewN | apply below_drew1 | refine below_set ?_ GE101.out) | exact HB.out))) : w.heap.size ≤ gb102));have n5_:=Aside0.mk ((by rw [hg];exact Nat.ne_of_lt (blk_lt (g:=gb101) (o:=.cells #[.int .i64 a0_0,.int .i64 a0_1] 36 (0,0)) (by (with_reducible repeat (first | refine blk_drewN ?_ _ | refine blk_drew ?_ | refine blk_alloc ?_ _));exact BK101.out)) : gb101 ≠ gb102));have n6_:=Aside0.mk ((by rw [hg];exact Nat.ne_of_gt (blk_lt (g:=gb101) (o:=.cells #[.int .i64 a0_0,.int .i64 a0_1] 36 (0,0)) (by (with_reducible repeat (first | refine blk_drewN ?_ _ | refine blk_drew ?_ | refine blk_alloc ?_ _));exact BK101.out)) : gb102 ≠ gb101));clear BK101;clear HB;have BK101:=n0_;have HB:=n1_;have BK102:=n2_;have GW102:=n3_;have GE102:=n4_;have NB101_102:=n5_;have NB102_101:=n6_;clear n0_ n1_ n2_ n3_ n4_ n5_ n6_;clear hb hbox hg) | ((with_reducible refine gate_callee (f:=50) rfl ?_);refine goesL_ (some 7) rfl rfl Try.func50 (by kernel_rfl) rfl #[.string a1,.string (⟨#[10]⟩ : ByteArray)] rfl (by (try simp only [List.map_toArray,List.map_cons,List.map_nil]);first | done | rfl | (simp only [List.length_drop,List.length_take];rfl)) ?_;(with_reducible refine (strings_Count.calls a1 (⟨#[10]⟩ : ByteArray) t103 _ A3.out).mono ?_);rintro e w' ⟨rfl,⟨nd,rfl⟩⟩;refine ⟨_,rfl,?_⟩;(try (rw [drewN_self w10];generalize hq_ : World.drewN w10 _ = w10;have n0_ : Aside0 (w10.heap[gb101]? = some (.cells #[.int .i64 a0_0,.int .i64 a0_1] 36 (0,0))):=⟨by rw [← hq_];exact (by (with_reducible repeat (first | refine blk_drewN ?_ _ | refine blk_drew ?_ | refine blk_alloc ?_ _));exact BK101.out)⟩;have n1_ : Aside0 (w10.heap[gb102]? = some (.cells #[.int .i64 0,.int .i64 0] 36 (0,0))):=⟨by rw [← hq_];exact (by (with_reducible repeat (first | refine blk_drewN ?_ _ | refine blk_drew ?_ | refine blk_alloc ?_ _));exact BK102.out)⟩;have n2_ : Aside0 (Below w.heap.size w w10):=⟨by rw [← hq_];exact (by repeat (first | (with_reducible first | exact HB.out | apply below_alloc | apply pw_below_drewN | apply below_drew1 | refine below_set ?_ GE101.out | refine below_set ?_ GE102.out) | exact HB.out))⟩;clear BK101 BK102 HB hq_;have BK101:=n0_;have BK102:=n1_;have HB:=n2_;clear n0_ n1_ n2_));(try (have hczU101_0 : w10.cell? ⟨gb101,0,none⟩ = some (.int .i64 a0_0):=(blk_cell BK101.out 0).trans rfl));(try (have hczU101_1 : w10.cell? ⟨gb101,1,none⟩ = some (.int .i64 a0_1):=(blk_cell BK101.out 1).trans rfl));(try (have hczU102_0 : w10.cell? ⟨gb102,0,none⟩ = some (.int .i64 0):=(blk_cell BK102.out 0).trans rfl));(try (have hczU102_1 : w10.cell? ⟨gb102,1,none⟩ = some (.int .i64 0):=(blk_cell BK102.out 1).trans rfl));have hnb11:=NB101_102.out;have hnc11:=NB102_101.out;have hcz12_0 : w10.cell? ⟨gb101,0,none⟩ = some (.int .i64 a0_0):=(blk_cell BK101.out 0).trans rfl;have hcz12_1 : w10.cell? ⟨gb101,1,none⟩ = some (.int .i64 a0_1):=(blk_cell BK101.out 1).trans rfl;have hfz12_0:=blk_frozen BK101.out 0;have hfz12_1:=blk_frozen BK101.out 1) | ((with_reducible refine gate_callee (f:=51) rfl ?_);refine goesL_ (some 17) rfl rfl Try.func51 (by kernel_rfl) rfl #[.string a1,.int .u8 10] rfl (by (try simp only [List.map_toArray,List.map_cons,List.map_nil]);first | done | rfl | (simp only [List.length_drop,List.length_take];rfl)) ?_;(with_reducible refine (strings_LastIndexByte.calls a1 10 t104 _ A5.out).mono ?_);rintro e w13 ⟨rfl,hb⟩;refine ⟨_,rfl,?_⟩;have n0_:=Aside0.mk (blk_below (g:=gb101) (o:=.cells #[.int .i64 (wrap64 (a0_0 + t103)),.int .i64 1] 36 (0,0)) (by (with_reducible repeat (first | refine blk_drewN ?_ _ | refine blk_drew ?_ | refine blk_alloc ?_ _));refine blk_put (cs:=#[.int .i64 (wrap64 (a0_0 + t103)),.int .i64 a0_1]) ?_ 1 _ rfl;(with_reducible repeat (first | refine blk_drewN ?_ _ | refine blk_drew ?_ | refine blk_alloc ?_ _));refine blk_put (cs:=#[.int .i64 a0_0,.int .i64 a0_1]) ?_ 0 _ rfl;(with_reducible repeat (first | refine blk_drewN ?_ _ | refine blk_drew ?_ | refine blk_alloc ?_ _));exact BK101.out) hb);have n1_:=Aside0.mk (blk_below (g:=gb102) (o:=.cells #[.int .i64 0,.int .i64 0] 36 (0,0)) (by (with_reducible repeat (first | refine blk_drewN ?_ _ | refine blk_drew ?_ | refine blk_alloc ?_ _));refine blk_far ?_ NB102_101.out _;(with_reducible repeat (first | refine blk_drewN ?_ _ | refine blk_drew ?_ | refine blk_alloc ?_ _));refine blk_far ?_ NB102_101.out _;(with_reducible repeat (first | refine blk_drewN ?_ _ | refine blk_drew ?_ | refine blk_alloc ?_ _));exact BK102.out) hb);have n2_:=Aside0.mk (below_step (by repeat (first | (with_reducible first | exact HB.out | apply below_alloc | apply pw_below_drewN | apply below_drew1 | refine below_set ?_ GE101.out | refine below_set ?_ GE102.out) | exact HB.out)) hb);clear BK101;clear BK102;clear HB;have BK101:=n0_;have BK102:=n1_;have HB:=n2_;clear n0_ n1_ n2_;(try clear hb);(try clear hb2);(try clear hk);(try clear hi);have hcz14_0 : w13.cell? ⟨gb101,0,none⟩ = some (.int .i64 (wrap64 (a0_0 + t103))):=(blk_cell BK101.out 0).trans rfl;have hcz14_1 : w13.cell? ⟨gb101,1,none⟩ = some (.int .i64 1):=(blk_cell BK101.out 1).trans rfl;have hfz14_0:=blk_frozen BK101.out 0;have hfz14_1:=blk_frozen BK101.out 1;have hcz15_0 : w13.cell? ⟨gb102,0,none⟩ = some (.int .i64 0):=(blk_cell BK102.out 0).trans rfl;have hcz15_1 : w13.cell? ⟨gb102,1,none⟩ = some (.int .i64 0):=(blk_cell BK102.out 1).trans rfl;have hfz15_0:=blk_frozen BK102.out 0;have hfz15_1:=blk_frozen BK102.out 1))
    refine bodyPost_ret (results_cell_row rfl _ _ gb102 36 #[.int .i64 (wrap64 (a0_0 + t103)),.int .i64 (wrap64 (1 + ((a1.size - (ji6 : Int).toNat : Nat) : Int)))] (0,0) _ rfl (by (with_reducible repeat (first | refine blk_drewN ?_ _ | refine blk_drew ?_ | refine blk_alloc ?_ _));refine blk_put (cs:=#[.int .i64 (wrap64 (a0_0 + t103)),.int .i64 0]) ?_ 1 _ rfl;(with_reducible repeat (first | refine blk_drewN ?_ _ | refine blk_drew ?_ | refine blk_alloc ?_ _));refine blk_put (cs:=#[.int .i64 0,.int .i64 0]) ?_ 0 _ rfl;(with_reducible repeat (first | refine blk_drewN ?_ _ | refine blk_drew ?_ | refine blk_alloc ?_ _));refine blk_far ?_ NB102_101.out _;(with_reducible repeat (first | refine blk_drewN ?_ _ | refine blk_drew ?_ | refine blk_alloc ?_ _));exact BK102.out) Try.underlying36 rfl (by kernel_rfl)) rfl ?_
    exact ⟨by first | rfl | (simp [errW_none,errW_some] <;> rfl) | (simp only [← hji6];first | rfl | (simp [errW_none,errW_some] <;> rfl)) | (simp [*,errW_none,errW_some] <;> rfl),by repeat (first | (with_reducible first | exact HB.out | apply below_alloc | apply pw_below_drewN | apply below_drew1 | refine below_set ?_ GE101.out | refine below_set ?_ GE102.out) | exact HB.out)⟩
   ·rw [if_neg c8] at H
    exact absurd H (by simp)
  ·rw [if_neg c7] at H
   exact absurd H (by simp)
 ·rw [if_neg c4] at H
  have c4b0 : decide (0 < t103) = false:=decide_eq_false c4
  clear c4
  try simp only [ByteArray.size_extract,Nat.min_self] at H
  simp only [Option.some.injEq,Prod.mk.injEq] at H
  obtain ⟨rfl,rfl⟩:=H
  go_enter Try.func37,Try.ntmps37
  go_wp2_with (first | ((with_reducible refine gate_dst (N:=2) rfl ?_);refine box_event ?hg (N:=2) ?hd (cs:=#[.int .i64 a0_0,.int .i64 a0_1]) (t:=36) ?hr ?_;(case hd => rfl);(case hg => rfl);(case hr => first | (go_simp;done) | (go_simp;rfl));intro gb101 hg w16 hbox hb;have n0_:=Aside0.mk (below_step (by repeat (first | (with_reducible first | exact HB.out | apply below_alloc | apply pw_below_drewN | apply below_drew1) | exact HB.out)) hb);have n1_:=Aside0.mk (hbox);have n2_:=Aside0.mk ((by rw [hg];exact (below_size (by repeat (first | (with_reducible first | exact HB.out | apply below_alloc | apply pw_below_drewN | apply below_drew1) | exact HB.out))) : w.heap.size ≤ gb101));have n3_:=Aside0.mk ((by rw [hg];exact (below_size (by repeat (first | (with_reducible first | exact HB.out | apply below_alloc | apply pw_below_drewN | apply below_drew1) | exact HB.out))) : w.heap.size ≤ gb101));clear HB;have HB:=n0_;have BK101:=n1_;have GW101:=n2_;have GE101:=n3_;clear n0_ n1_ n2_ n3_;clear hb hbox hg) | ((with_reducible refine gate_dst (N:=4) rfl ?_);refine box_event ?hg (N:=4) ?hd (cs:=#[.int .i64 0,.int .i64 0]) (t:=36) ?hr ?_;(case hd => rfl);(case hg => rfl);(case hr => first | (go_simp;done) | (go_simp;rfl));intro gb102 hg w17 hbox hb;have n0_:=Aside0.mk (blk_below (g:=gb101) (o:=.cells #[.int .i64 a0_0,.int .i64 a0_1] 36 (0,0)) (by (with_reducible repeat (first | refine blk_drewN ?_ _ | refine blk_drew ?_ | refine blk_alloc ?_ _));exact BK101.out) hb);have n1_:=Aside0.mk (below_step (by repeat (first | (with_reducible first | exact HB.out | apply below_alloc | apply pw_below_drewN | apply below_drew1 | refine below_set ?_ GE101.out) | exact HB.out)) hb);have n2_:=Aside0.mk (hbox);have n3_:=Aside0.mk ((by rw [hg];exact (below_size (by repeat (first | (with_reducible first | exact HB.out | apply below_alloc | apply pw_below_drewN | apply below_drew1 | refine below_set ?_ GE101.out) | exact HB.out))) : w.heap.size ≤ gb102));have n4_:=Aside0.mk ((by rw [hg];exact (below_size (by repeat (first | (with_reducible first | exact HB.out | apply below_alloc | apply pw_below_drewN | apply below_drew1 | refine below_set ?_ GE101.out) | exact HB.out))) : w.heap.size ≤ gb102));have n5_:=Aside0.mk ((by rw [hg];exact Nat.ne_of_lt (blk_lt (g:=gb101) (o:=.cells #[.int .i64 a0_0,.int .i64 a0_1] 36 (0,0)) (by (with_reducible repeat (first | refine blk_drewN ?_ _ | refine blk_drew ?_ | refine blk_alloc ?_ _));exact BK101.out)) : gb101 ≠ gb102));have n6_:=Aside0.mk ((by rw [hg];exact Nat.ne_of_gt (blk_lt (g:=gb101) (o:=.cells #[.int .i64 a0_0,.int .i64 a0_1] 36 (0,0)) (by (with_reducible repeat (first | refine blk_drewN ?_ _ | refine blk_drew ?_ | refine blk_alloc ?_ _));exact BK101.out)) : gb102 ≠ gb101));clear BK101;clear HB;have BK101:=n0_;have HB:=n1_;have BK102:=n2_;have GW102:=n3_;have GE102:=n4_;have NB101_102:=n5_;have NB102_101:=n6_;clear n0_ n1_ n2_ n3_ n4_ n5_ n6_;clear hb hbox hg) | ((with_reducible refine gate_callee (f:=50) rfl ?_);refine goesL_ (some 7) rfl rfl Try.func50 (by kernel_rfl) rfl #[.string a1,.string (⟨#[10]⟩ : ByteArray)] rfl (by (try simp only [List.map_toArray,List.map_cons,List.map_nil]);first | done | rfl | (simp only [List.length_drop,List.length_take];rfl)) ?_;(with_reducible refine (strings_Count.calls a1 (⟨#[10]⟩ : ByteArray) t103 _ A3.out).mono ?_);rintro e w' ⟨rfl,⟨nd,rfl⟩⟩;refine ⟨_,rfl,?_⟩;(try (rw [drewN_self w17];generalize hq_ : World.drewN w17 _ = w17;have n0_ : Aside0 (w17.heap[gb101]? = some (.cells #[.int .i64 a0_0,.int .i64 a0_1] 36 (0,0))):=⟨by rw [← hq_];exact (by (with_reducible repeat (first | refine blk_drewN ?_ _ | refine blk_drew ?_ | refine blk_alloc ?_ _));exact BK101.out)⟩;have n1_ : Aside0 (w17.heap[gb102]? = some (.cells #[.int .i64 0,.int .i64 0] 36 (0,0))):=⟨by rw [← hq_];exact (by (with_reducible repeat (first | refine blk_drewN ?_ _ | refine blk_drew ?_ | refine blk_alloc ?_ _));exact BK102.out)⟩;have n2_ : Aside0 (Below w.heap.size w w17):=⟨by rw [← hq_];exact (by repeat (first | (with_reducible first | exact HB.out | apply below_alloc | apply pw_below_drewN | apply below_drew1 | refine below_set ?_ GE101.out | refine below_set ?_ GE102.out) | exact HB.out))⟩;clear BK101 BK102 HB hq_;have BK101:=n0_;have BK102:=n1_;have HB:=n2_;clear n0_ n1_ n2_));(try (have hczU101_0 : w17.cell? ⟨gb101,0,none⟩ = some (.int .i64 a0_0):=(blk_cell BK101.out 0).trans rfl));(try (have hczU101_1 : w17.cell? ⟨gb101,1,none⟩ = some (.int .i64 a0_1):=(blk_cell BK101.out 1).trans rfl));(try (have hczU102_0 : w17.cell? ⟨gb102,0,none⟩ = some (.int .i64 0):=(blk_cell BK102.out 0).trans rfl));(try (have hczU102_1 : w17.cell? ⟨gb102,1,none⟩ = some (.int .i64 0):=(blk_cell BK102.out 1).trans rfl));have hnb18:=NB101_102.out;have hnc18:=NB102_101.out;have hcz19_0 : w17.cell? ⟨gb101,0,none⟩ = some (.int .i64 a0_0):=(blk_cell BK101.out 0).trans rfl;have hcz19_1 : w17.cell? ⟨gb101,1,none⟩ = some (.int .i64 a0_1):=(blk_cell BK101.out 1).trans rfl;have hfz19_0:=blk_frozen BK101.out 0;have hfz19_1:=blk_frozen BK101.out 1;have hcz20_0 : w17.cell? ⟨gb102,0,none⟩ = some (.int .i64 0):=(blk_cell BK102.out 0).trans rfl;have hcz20_1 : w17.cell? ⟨gb102,1,none⟩ = some (.int .i64 0):=(blk_cell BK102.out 1).trans rfl;have hfz20_0:=blk_frozen BK102.out 0;have hfz20_1:=blk_frozen BK102.out 1))
  refine bodyPost_ret (results_cell_row rfl _ _ gb102 36 #[.int .i64 a0_0,.int .i64 (wrap64 (a0_1 + (a1.size : Int)))] (0,0) _ rfl (by (with_reducible repeat (first | refine blk_drewN ?_ _ | refine blk_drew ?_ | refine blk_alloc ?_ _));refine blk_put (cs:=#[.int .i64 a0_0,.int .i64 0]) ?_ 1 _ rfl;(with_reducible repeat (first | refine blk_drewN ?_ _ | refine blk_drew ?_ | refine blk_alloc ?_ _));refine blk_put (cs:=#[.int .i64 0,.int .i64 0]) ?_ 0 _ rfl;(with_reducible repeat (first | refine blk_drewN ?_ _ | refine blk_drew ?_ | refine blk_alloc ?_ _));refine blk_far ?_ NB102_101.out _;(with_reducible repeat (first | refine blk_drewN ?_ _ | refine blk_drew ?_ | refine blk_alloc ?_ _));exact BK102.out) Try.underlying36 rfl (by kernel_rfl)) rfl ?_
  exact ⟨by first | rfl | (simp [errW_none,errW_some] <;> rfl) | (simp [*,errW_none,errW_some] <;> rfl),by repeat (first | (with_reducible first | exact HB.out | apply below_alloc | apply pw_below_drewN | apply below_drew1 | refine below_set ?_ GE101.out | refine below_set ?_ GE102.out) | exact HB.out)⟩

/-! ### lex_End: function 19 -/
def lex_End.f (a0 : ByteArray) : Option (Int × Int) := (lex_on.f 1 1 a0).bind fun bt106 => (some (bt106.1, bt106.2))
set_option maxHeartbeats 8000000 in
set_option maxRecDepth 100000 in
theorem lex_End.calls (a0 : ByteArray) (r1 : Int) (r2 : Int) (w : World) (h : lex_End.f a0 = some (r1,r2)) :
  Calls Try.prog 19 #[.string a0] w fun e w' => e = .returned (.agg #[.int .i64 r1,.int .i64 r2]) ∧ Below w.heap.size w w':=by
 have hu36:=Try.underlying36
 have HB:=Aside0.mk (Below.refl w.heap.size w)
 have H : ((lex_on.f 1 1 a0).bind fun bt106 => (some (bt106.1,bt106.2))) = some (r1,r2):=h
 clear h
 replace H:=Option.bind_eq_some_iff.mp H
 obtain ⟨⟨t106,t107⟩,A20,H⟩:=H
 replace H : (some (t106,t107)) = some (r1,r2):=H
 have A2:=Aside0.mk A20
 clear A20
 simp only [Option.some.injEq,Prod.mk.injEq] at H
 obtain ⟨rfl,rfl⟩:=H
 go_enter Try.func19,Try.ntmps19
 go_wp2_with (first | ((with_reducible refine gate_dst (N:=2) rfl ?_);refine box_event ?hg (N:=2) ?hd (cs:=#[.int .i64 0,.int .i64 0]) (t:=36) ?hr ?_;(case hd => rfl);(case hg => rfl);(case hr => first | (go_simp;done) | (go_simp;rfl));intro gb105 hg w3 hbox hb;have n0_:=Aside0.mk (below_step (by repeat (first | (with_reducible first | exact HB.out | apply below_alloc | apply pw_below_drewN | apply below_drew1) | exact HB.out)) hb);have n1_:=Aside0.mk (hbox);have n2_:=Aside0.mk ((by rw [hg];exact (below_size (by repeat (first | (with_reducible first | exact HB.out | apply below_alloc | apply pw_below_drewN | apply below_drew1) | exact HB.out))) : w.heap.size ≤ gb105));have n3_:=Aside0.mk ((by rw [hg];exact (below_size (by repeat (first | (with_reducible first | exact HB.out | apply below_alloc | apply pw_below_drewN | apply below_drew1) | exact HB.out))) : w.heap.size ≤ gb105));clear HB;have HB:=n0_;have BK105:=n1_;have GW105:=n2_;have GE105:=n3_;clear n0_ n1_ n2_ n3_;clear hb hbox hg) | ((with_reducible refine gate_callee (f:=37) rfl ?_);refine goesL_ (some 5) rfl rfl Try.func37 (by kernel_rfl) rfl #[.agg #[.int .i64 1,.int .i64 1],.string a0] rfl (by (try simp only [List.map_toArray,List.map_cons,List.map_nil]);first | done | rfl | (simp only [List.length_drop,List.length_take];rfl)) ?_;(with_reducible refine (lex_on.calls 1 1 a0 t106 t107 _ A2.out).mono ?_);rintro e w4 ⟨rfl,hb⟩;refine ⟨_,rfl,?_⟩;have n0_:=Aside0.mk (blk_below (g:=gb105) (o:=.cells #[.int .i64 0,.int .i64 0] 36 (0,0)) (by (with_reducible repeat (first | refine blk_drewN ?_ _ | refine blk_drew ?_ | refine blk_alloc ?_ _));exact BK105.out) hb);have n1_:=Aside0.mk (below_step (by repeat (first | (with_reducible first | exact HB.out | apply below_alloc | apply pw_below_drewN | apply below_drew1 | refine below_set ?_ GE105.out) | exact HB.out)) hb);clear BK105;clear HB;have BK105:=n0_;have HB:=n1_;clear n0_ n1_;(try clear hb);(try clear hb2);(try clear hk);(try clear hi);have hcz5_0 : w4.cell? ⟨gb105,0,none⟩ = some (.int .i64 0):=(blk_cell BK105.out 0).trans rfl;have hcz5_1 : w4.cell? ⟨gb105,1,none⟩ = some (.int .i64 0):=(blk_cell BK105.out 1).trans rfl;have hfz5_0:=blk_frozen BK105.out 0;have hfz5_1:=blk_frozen BK105.out 1))
 refine bodyPost_ret (results_cell_row rfl _ _ gb105 36 #[.int .i64 t106,.int .i64 t107] (0,0) _ rfl (by (with_reducible repeat (first | refine blk_drewN ?_ _ | refine blk_drew ?_ | refine blk_alloc ?_ _));refine blk_put (cs:=#[.int .i64 t106,.int .i64 0]) ?_ 1 _ rfl;(with_reducible repeat (first | refine blk_drewN ?_ _ | refine blk_drew ?_ | refine blk_alloc ?_ _));refine blk_put (cs:=#[.int .i64 0,.int .i64 0]) ?_ 0 _ rfl;(with_reducible repeat (first | refine blk_drewN ?_ _ | refine blk_drew ?_ | refine blk_alloc ?_ _));exact BK105.out) Try.underlying36 rfl (by kernel_rfl)) rfl ?_
 exact ⟨by first | rfl | (simp [errW_none,errW_some] <;> rfl) | (simp [*,errW_none,errW_some] <;> rfl),by repeat (first | (with_reducible first | exact HB.out | apply below_alloc | apply pw_below_drewN | apply below_drew1 | refine below_set ?_ GE105.out) | exact HB.out)⟩

-- NOT PRINTED: function 46 (lex_sign)

/-! ### lex_digit: function 60 -/
def lex_digit.f (a0 : Int) : Option (Bool) := if a0 ≥ 48 then (some (decide (a0 ≤ 57))) else (some false)
set_option maxHeartbeats 8000000 in
set_option maxRecDepth 100000 in
theorem lex_digit.calls (a0 : Int) (r : Bool) (w : World) (h : lex_digit.f a0 = some r) :
    Calls Try.prog 60 #[.int .u8 a0] w fun e w' => e = .returned (.bool r) ∧ Drawn0 w w' := by
  have H : (if a0 ≥ 48 then (some (decide (a0 ≤ 57))) else (some false)) = some r := h
  clear h
  by_cases c2 : a0 ≥ 48
  · rw [if_pos c2] at H
    have c2b0 : decide (48 ≤ a0) = true := decide_eq_true c2
    clear c2
    obtain rfl := Option.some.inj H
    go_enter Try.func60, Try.ntmps60
    go_wp2
    go_ret
    exact ⟨by first | rfl | (simp; done) | (simp [*]; done), by repeat (first | exact Drawn0.refl _ | apply Drawn0.step)⟩
  · rw [if_neg c2] at H
    have c2b0 : decide (48 ≤ a0) = false := decide_eq_false c2
    clear c2
    obtain rfl := Option.some.inj H
    go_enter Try.func60, Try.ntmps60
    go_wp2
    go_ret
    exact ⟨by first | rfl | (simp; done) | (simp [*]; done), by repeat (first | exact Drawn0.refl _ | apply Drawn0.step)⟩

/-! ### lex_letter: function 61 -/
def lex_letter.f (a0 : Int) : Option (Bool) := if a0 ≥ 65 then (if a0 ≤ 90 then (some true) else (if a0 ≥ 97 then (if a0 ≤ 122 then (some true) else (if a0 = 95 then (some true) else ((lex_digit.f a0).bind fun t108 => (some t108)))) else (if a0 = 95 then (some true) else ((lex_digit.f a0).bind fun t109 => (some t109))))) else (if a0 ≥ 97 then (if a0 ≤ 122 then (some true) else (if a0 = 95 then (some true) else ((lex_digit.f a0).bind fun t110 => (some t110)))) else (if a0 = 95 then (some true) else ((lex_digit.f a0).bind fun t111 => (some t111))))
set_option maxHeartbeats 8000000 in
set_option maxRecDepth 100000 in
theorem lex_letter.calls (a0 : Int) (r : Bool) (w : World) (h : lex_letter.f a0 = some r) :
  Calls Try.prog 61 #[.int .u8 a0] w fun e w' => e = .returned (.bool r) ∧ Drawn0 w w':=by
 have H : (if a0 ≥ 65 then (if a0 ≤ 90 then (some true) else (if a0 ≥ 97 then (if a0 ≤ 122 then (some true) else (if a0 = 95 then (some true) else ((lex_digit.f a0).bind fun t108 => (some t108)))) else (if a0 = 95 then (some true) else ((lex_digit.f a0).bind fun t109 => (some t109))))) else (if a0 ≥ 97 then (if a0 ≤ 122 then (some true) else (if a0 = 95 then (some true) else ((lex_digit.f a0).bind fun t110 => (some t110)))) else (if a0 = 95 then (some true) else ((lex_digit.f a0).bind fun t111 => (some t111))))) = some r:=h
 clear h
 by_cases c2 : a0 ≥ 65
 ·rw [if_pos c2] at H
  have c2b0 : decide (65 ≤ a0) = true:=decide_eq_true c2
  clear c2
  by_cases c3 : a0 ≤ 90
  ·rw [if_pos c3] at H
   have c3b0 : decide (a0 ≤ 90) = true:=decide_eq_true c3
   clear c3
   obtain rfl:=Option.some.inj H
   go_enter Try.func61,Try.ntmps61
   go_wp2
   go_ret
   exact ⟨by first | rfl | (simp;done) | (simp [*];done),by repeat (first | exact Drawn0.refl _ | apply Drawn0.step)⟩
  ·rw [if_neg c3] at H
   have c3b0 : decide (a0 ≤ 90) = false:=decide_eq_false c3
   clear c3
   by_cases c4 : a0 ≥ 97
   ·rw [if_pos c4] at H
    have c4b0 : decide (97 ≤ a0) = true:=decide_eq_true c4
    clear c4
    by_cases c5 : a0 ≤ 122
    ·rw [if_pos c5] at H
     have c5b0 : decide (a0 ≤ 122) = true:=decide_eq_true c5
     clear c5
     obtain rfl:=Option.some.inj H
     go_enter Try.func61,Try.ntmps61
     go_wp2
     go_ret
     exact ⟨by first | rfl | (simp;done) | (simp [*];done),by repeat (first | exact Drawn0.refl _ | apply Drawn0.step)⟩
    ·rw [if_neg c5] at H
     have c5b0 : decide (a0 ≤ 122) = false:=decide_eq_false c5
     clear c5
     by_cases c6 : a0 = 95
     ·rw [if_pos c6] at H
      have c6b0 : (a0 == 95) = true:=beq_iff_eq.mpr c6
      have c6b1 : (a0 != 95) = false:=bne_eq_false_iff_eq.mpr c6
      clear c6
      obtain rfl:=Option.some.inj H
      go_enter Try.func61,Try.ntmps61
      go_wp2
      go_ret
      exact ⟨by first | rfl | (simp;done) | (simp [*];done),by repeat (first | exact Drawn0.refl _ | apply Drawn0.step)⟩
     ·rw [if_neg c6] at H
      have c6b0 : (a0 == 95) = false:=beq_eq_false_iff_ne.mpr c6
      have c6b1 : (a0 != 95) = true:=bne_iff_ne.mpr c6
      replace H:=Option.bind_eq_some_iff.mp H
      obtain ⟨t108,A70,H⟩:=H
      replace H : (some t108) = some r:=H
      have A7:=Aside0.mk A70
      clear A70
      obtain rfl:=Option.some.inj H
      go_enter Try.func61,Try.ntmps61
      go_wp2_with (first | (go_at_call 60;(with_reducible refine (lex_digit.calls a0 t108 _ A7.out).mono ?_);rintro e w' ⟨rfl,⟨nd,rfl⟩⟩))
      go_ret
      exact ⟨by first | rfl | (simp;done) | (simp [*];done),by repeat (first | exact Drawn0.refl _ | apply Drawn0.step)⟩
   ·rw [if_neg c4] at H
    have c4b0 : decide (97 ≤ a0) = false:=decide_eq_false c4
    clear c4
    by_cases c8 : a0 = 95
    ·rw [if_pos c8] at H
     have c8b0 : (a0 == 95) = true:=beq_iff_eq.mpr c8
     have c8b1 : (a0 != 95) = false:=bne_eq_false_iff_eq.mpr c8
     clear c8
     obtain rfl:=Option.some.inj H
     go_enter Try.func61,Try.ntmps61
     go_wp2
     go_ret
     exact ⟨by first | rfl | (simp;done) | (simp [*];done),by repeat (first | exact Drawn0.refl _ | apply Drawn0.step)⟩
    ·rw [if_neg c8] at H
     have c8b0 : (a0 == 95) = false:=beq_eq_false_iff_ne.mpr c8
     have c8b1 : (a0 != 95) = true:=bne_iff_ne.mpr c8
     replace H:=Option.bind_eq_some_iff.mp H
     obtain ⟨t109,A90,H⟩:=H
     replace H : (some t109) = some r:=H
     have A9:=Aside0.mk A90
     clear A90
     obtain rfl:=Option.some.inj H
     go_enter Try.func61,Try.ntmps61
     go_wp2_with (first | (go_at_call 60;(with_reducible refine (lex_digit.calls a0 t109 _ A9.out).mono ?_);rintro e w' ⟨rfl,⟨nd,rfl⟩⟩))
     go_ret
     exact ⟨by first | rfl | (simp;done) | (simp [*];done),by repeat (first | exact Drawn0.refl _ | apply Drawn0.step)⟩
 ·rw [if_neg c2] at H
  have c2b0 : decide (65 ≤ a0) = false:=decide_eq_false c2
  clear c2
  by_cases c10 : a0 ≥ 97
  ·rw [if_pos c10] at H
   have c10b0 : decide (97 ≤ a0) = true:=decide_eq_true c10
   clear c10
   by_cases c11 : a0 ≤ 122
   ·rw [if_pos c11] at H
    have c11b0 : decide (a0 ≤ 122) = true:=decide_eq_true c11
    clear c11
    obtain rfl:=Option.some.inj H
    go_enter Try.func61,Try.ntmps61
    go_wp2
    go_ret
    exact ⟨by first | rfl | (simp;done) | (simp [*];done),by repeat (first | exact Drawn0.refl _ | apply Drawn0.step)⟩
   ·rw [if_neg c11] at H
    have c11b0 : decide (a0 ≤ 122) = false:=decide_eq_false c11
    clear c11
    by_cases c12 : a0 = 95
    ·rw [if_pos c12] at H
     have c12b0 : (a0 == 95) = true:=beq_iff_eq.mpr c12
     have c12b1 : (a0 != 95) = false:=bne_eq_false_iff_eq.mpr c12
     clear c12
     obtain rfl:=Option.some.inj H
     go_enter Try.func61,Try.ntmps61
     go_wp2
     go_ret
     exact ⟨by first | rfl | (simp;done) | (simp [*];done),by repeat (first | exact Drawn0.refl _ | apply Drawn0.step)⟩
    ·rw [if_neg c12] at H
     have c12b0 : (a0 == 95) = false:=beq_eq_false_iff_ne.mpr c12
     have c12b1 : (a0 != 95) = true:=bne_iff_ne.mpr c12
     replace H:=Option.bind_eq_some_iff.mp H
     obtain ⟨t110,A130,H⟩:=H
     replace H : (some t110) = some r:=H
     have A13:=Aside0.mk A130
     clear A130
     obtain rfl:=Option.some.inj H
     go_enter Try.func61,Try.ntmps61
     go_wp2_with (first | (go_at_call 60;(with_reducible refine (lex_digit.calls a0 t110 _ A13.out).mono ?_);rintro e w' ⟨rfl,⟨nd,rfl⟩⟩))
     go_ret
     exact ⟨by first | rfl | (simp;done) | (simp [*];done),by repeat (first | exact Drawn0.refl _ | apply Drawn0.step)⟩
  ·rw [if_neg c10] at H
   have c10b0 : decide (97 ≤ a0) = false:=decide_eq_false c10
   clear c10
   by_cases c14 : a0 = 95
   ·rw [if_pos c14] at H
    have c14b0 : (a0 == 95) = true:=beq_iff_eq.mpr c14
    have c14b1 : (a0 != 95) = false:=bne_eq_false_iff_eq.mpr c14
    clear c14
    obtain rfl:=Option.some.inj H
    go_enter Try.func61,Try.ntmps61
    go_wp2
    go_ret
    exact ⟨by first | rfl | (simp;done) | (simp [*];done),by repeat (first | exact Drawn0.refl _ | apply Drawn0.step)⟩
   ·rw [if_neg c14] at H
    have c14b0 : (a0 == 95) = false:=beq_eq_false_iff_ne.mpr c14
    have c14b1 : (a0 != 95) = true:=bne_iff_ne.mpr c14
    replace H:=Option.bind_eq_some_iff.mp H
    obtain ⟨t111,A150,H⟩:=H
    replace H : (some t111) = some r:=H
    have A15:=Aside0.mk A150
    clear A150
    obtain rfl:=Option.some.inj H
    go_enter Try.func61,Try.ntmps61
    go_wp2_with (first | (go_at_call 60;(with_reducible refine (lex_digit.calls a0 t111 _ A15.out).mono ?_);rintro e w' ⟨rfl,⟨nd,rfl⟩⟩))
    go_ret
    exact ⟨by first | rfl | (simp;done) | (simp [*];done),by repeat (first | exact Drawn0.refl _ | apply Drawn0.step)⟩

end Go.Proofs.Ytjfklfmfeghjnac.PL
