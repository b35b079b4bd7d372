-- Contracts of Go functions, each with its plain Lean function: written by wip/tools/myprint.py of this work (the kit's print, with contracts proved by hand spliced in).
import Derived.Test.YtjfklfmfeghjnacPQx0
import Derived.Test.YtjfklfmfeghjnacPQx1
import Derived.Test.YtjfklfmfeghjnacPQx2
namespace Go.Proofs.Ytjfklfmfeghjnac.PQ
open Go.RowKit Go.Proofs.YtjfklfmfeghjnacW.PrintWords Go.Proofs.YtjfklfmfeghjnacW.PrintLast Go.Proofs.YtjfklfmfeghjnacW.PrintMore
attribute [local go_sem] max2_int min2_int max_two min_two max_three min_three max_four min_four   -- for this text's walks alone
set_option linter.unusedVariables false
set_option linter.unusedSimpArgs false

/-! ### tachographref20_byteOf: function 32 -/
def tachographref20_byteOf.j0 : Nat → Int → Bool → Option (ByteArray)
  | 0, _, _ => none
  | k + 1, x0, x10 => if x10 = true then ((tachographref20_hex.f ((Int.tdiv x0 16) % 256)).bind fun t140 => (if 2 + t140.size ≤ 9223372036854775807 then ((tachographref20_hex.f (Int.tmod x0 16)).bind fun t141 => (if ((⟨#[92, 120]⟩ : ByteArray) ++ t140).size + t141.size ≤ 9223372036854775807 then (some (((⟨#[92, 120]⟩ : ByteArray) ++ t140) ++ t141)) else (none))) else (none))) else (if x0 = 34 then ((some (([x0] : List Int) : List Int)).bind fun y142 => (if 1 + (strOfNums y142).size ≤ 9223372036854775807 then (some ((⟨#[92]⟩ : ByteArray) ++ (strOfNums y142))) else (none))) else (if x0 = 92 then ((some (([x0] : List Int) : List Int)).bind fun y145 => (if 1 + (strOfNums y145).size ≤ 9223372036854775807 then (some ((⟨#[92]⟩ : ByteArray) ++ (strOfNums y145))) else (none))) else (some (strOfNums (([x0] : List Int))))))
def tachographref20_byteOf.f (k : Nat) (a0 : Int) : Option (ByteArray) := if a0 = 10 then (some (⟨#[92, 110]⟩ : ByteArray)) else (if a0 < 32 then (tachographref20_byteOf.j0 k a0 true) else (tachographref20_byteOf.j0 k a0 (decide (a0 > 126))))
theorem tachographref20_byteOf.mono_l : ∀ k, (∀ y0 y1, LeO (tachographref20_byteOf.j0 k y0 y1) (tachographref20_byteOf.j0 (k + 1) y0 y1))
  | 0 => fun _ _ r h => by simp [tachographref20_byteOf.j0] at h
  | k + 1 => by
    have ih0 := tachographref20_byteOf.mono_l k
    · intro y0 y1
      unfold tachographref20_byteOf.j0
      repeat' first
      | (with_reducible exact ih0 _ _)
      | (with_reducible exact LeO.refl _)
      | (with_reducible exact LeO.none _)
      | (with_reducible refine LeO.ite ?_ ?_)
      | (with_reducible refine LeO.bind ?_ (fun _ => ?_))
      | exact ih0 _ _
      | exact LeO.none _
      | refine LeO.ite ?_ ?_
      | refine LeO.bind ?_ (fun _ => ?_)
theorem tachographref20_byteOf.mono : ∀ a0 k, LeO (tachographref20_byteOf.f k a0) (tachographref20_byteOf.f (k + 1) a0) := by
  intro a0 k
  have ih0 := tachographref20_byteOf.mono_l k
  unfold tachographref20_byteOf.f
  repeat' first
      | (with_reducible exact ih0 _ _)
      | (with_reducible exact LeO.refl _)
      | (with_reducible exact LeO.none _)
      | (with_reducible refine LeO.ite ?_ ?_)
      | (with_reducible refine LeO.bind ?_ (fun _ => ?_))
      | exact ih0 _ _
      | exact LeO.none _
      | refine LeO.ite ?_ ?_
      | refine LeO.bind ?_ (fun _ => ?_)
set_option maxHeartbeats 8000000 in
set_option maxRecDepth 100000 in
theorem tachographref20_byteOf.calls (k : Nat) (a0 : Int) (r : ByteArray) (w : World) (h : tachographref20_byteOf.f k a0 = some r) :
    Calls Try.prog 32 #[.int .u8 a0] w fun e w' => e = .returned (.string r) ∧ Below w.heap.size w w' := by
  have HB := Aside0.mk (Below.refl w.heap.size w)
  have H : (if a0 = 10 then (some (⟨#[92, 110]⟩ : ByteArray)) else (if a0 < 32 then (tachographref20_byteOf.j0 k a0 true) else (tachographref20_byteOf.j0 k a0 (decide (a0 > 126))))) = some r := h
  clear h
  by_cases c2 : a0 = 10
  · rw [if_pos c2] at H
    have c2b0 : (a0 == 10) = true := beq_iff_eq.mpr c2
    have c2b1 : (a0 != 10) = false := bne_eq_false_iff_eq.mpr c2
    clear c2
    obtain rfl := Option.some.inj H
    go_enter Try.func32, Try.ntmps32
    go_wp2
    go_ret
    exact ⟨by first | rfl | (simp [errW_none, errW_some] <;> rfl) | (simp [*, errW_none, errW_some] <;> rfl), by repeat (first | (with_reducible first | exact HB.out | apply below_alloc | apply pw_below_drewN | apply below_drew1) | exact HB.out)⟩
  · rw [if_neg c2] at H
    have c2b0 : (a0 == 10) = false := beq_eq_false_iff_ne.mpr c2
    have c2b1 : (a0 != 10) = true := bne_iff_ne.mpr c2
    have HC3 := Aside0.mk H
    clear H
    go_enter Try.func32, Try.ntmps32
    go_upto_region 3 with (fail)
    go_cut [10] (fun v10 wc => ∃ (kq : Nat) (x10_2 : Bool), v10 = .bool x10_2 ∧ Aside0 (tachographref20_byteOf.j0 kq a0 x10_2 = some r) ∧ Aside0 (kq ≤ k) ∧ Aside0 (Below w.heap.size w wc))
    case first =>
      have H := HC3.out
      clear HC3
      by_cases c4 : a0 < 32
      · rw [if_pos c4] at H
        have c4b0 : decide (a0 < 32) = true := decide_eq_true c4
        clear c4
        (first | rw [c4b0] | (simp only [i64_w, i32_w]; rw [c4b0]) | skip)
        have H' := Aside0.mk H
        clear H
        go_wp2
        go_meet
        case rel => exact ⟨_, (true), (by first | rfl | (simp; done) | (simp [*]; done)), H', ⟨by first | omega | exact Nat.le_refl _⟩, ⟨by repeat (first | (with_reducible first | exact HB.out | apply below_alloc | apply pw_below_drewN | apply below_drew1) | exact HB.out)⟩⟩
      · rw [if_neg c4] at H
        have c4b0 : decide (a0 < 32) = false := decide_eq_false c4
        clear c4
        (first | rw [c4b0] | (simp only [i64_w, i32_w]; rw [c4b0]) | skip)
        have H' := Aside0.mk H
        clear H
        go_wp2
        go_meet
        case rel => exact ⟨_, (decide (a0 > 126)), (by first | rfl | (simp; done) | (simp [*]; done)), H', ⟨by first | omega | exact Nat.le_refl _⟩, ⟨by repeat (first | (with_reducible first | exact HB.out | apply below_alloc | apply pw_below_drewN | apply below_drew1) | exact HB.out)⟩⟩
    case rest =>
      clear HC3
      try clear c2
      try clear c2b0
      try clear c2b1
      try clear p2
      try clear c3
      try clear c4
      try clear c4b0
      obtain ⟨kq, x10_2, rfl, HA, HJ2, HB⟩ := hcut
      cases kq with
      | zero => exact absurd HA.out (by simp [tachographref20_byteOf.j0])
      | succ kj2 =>
        have H := HA.out
        clear HA
        simp only [tachographref20_byteOf.j0] at H
        by_cases c5 : x10_2 = true
        · subst c5
          have H1 : ((tachographref20_hex.f ((Int.tdiv a0 16) % 256)).bind fun t140 => (if 2 + t140.size ≤ 9223372036854775807 then ((tachographref20_hex.f (Int.tmod a0 16)).bind fun t141 => (if ((⟨#[92, 120]⟩ : ByteArray) ++ t140).size + t141.size ≤ 9223372036854775807 then (some (((⟨#[92, 120]⟩ : ByteArray) ++ t140) ++ t141)) else (none))) else (none))) = some r := by rw [if_pos rfl] at H; exact H
          clear H
          have H := H1
          clear H1
          replace H := Option.bind_eq_some_iff.mp H
          obtain ⟨t140, A60, H⟩ := H
          replace H : (if 2 + t140.size ≤ 9223372036854775807 then ((tachographref20_hex.f (Int.tmod a0 16)).bind fun t141 => (if ((⟨#[92, 120]⟩ : ByteArray) ++ t140).size + t141.size ≤ 9223372036854775807 then (some (((⟨#[92, 120]⟩ : ByteArray) ++ t140) ++ t141)) else (none))) else (none)) = some r := H
          have A6 := Aside0.mk A60
          clear A60
          by_cases c7 : 2 + t140.size ≤ 9223372036854775807
          · rw [if_pos c7] at H
            have c7b0 := eq_true c7
            have c7b1 : decide (2 + t140.size ≤ 9223372036854775807) = true := decide_eq_true c7
            try have c7b2 : (9223372036854775807 < 2 + t140.size) = False := eq_false (Nat.not_lt.2 c7)
            replace H := Option.bind_eq_some_iff.mp H
            obtain ⟨t141, A80, H⟩ := H
            replace H : (if ((⟨#[92, 120]⟩ : ByteArray) ++ t140).size + t141.size ≤ 9223372036854775807 then (some (((⟨#[92, 120]⟩ : ByteArray) ++ t140) ++ t141)) else (none)) = some r := H
            have A8 := Aside0.mk A80
            clear A80
            by_cases c9 : ((⟨#[92, 120]⟩ : ByteArray) ++ t140).size + t141.size ≤ 9223372036854775807
            · rw [if_pos c9] at H
              have c9b0 := eq_true c9
              have c9b1 : decide (((⟨#[92, 120]⟩ : ByteArray) ++ t140).size + t141.size ≤ 9223372036854775807) = true := decide_eq_true c9
              try have c9b2 : (9223372036854775807 < ((⟨#[92, 120]⟩ : ByteArray) ++ t140).size + t141.size) = False := eq_false (Nat.not_lt.2 c9)
              try have c9b3 : (9223372036854775807 < 2 + t140.size + t141.size) = False := eq_false (by have h_ := c9; simp only [ByteArray.size_append] at h_; (try rw [show (⟨#[92, 120]⟩ : ByteArray).size = 2 from rfl] at h_); omega)
              obtain rfl := Option.some.inj H
              go_wp2_with (first | ((with_reducible refine gate_callee (f := 42) rfl ?_); refine goesL_ (some 13) rfl rfl Try.func42 (by kernel_rfl) rfl #[.int .u8 ((Int.tdiv a0 16) % 256)] rfl (by (try simp only [List.map_toArray, List.map_cons, List.map_nil]); first | done | rfl | (simp only [List.length_drop, List.length_take]; rfl) | (refine congrArg (fun z_ => #[z_]) (congrArg (Value.int IntKind.u64) (Eq.symm (Go.Proofs.YtjfklfmfeghjnacAid.wrap_len _ (by omega)))))) ?_; (with_reducible refine (tachographref20_hex.calls ((Int.tdiv a0 16) % 256) t140 _ A6.out).mono ?_); rintro e w' ⟨rfl, ⟨nd, rfl⟩⟩; refine ⟨_, rfl, ?_⟩) | ((with_reducible refine gate_callee (f := 42) rfl ?_); refine goesL_ (some 17) rfl rfl Try.func42 (by kernel_rfl) rfl #[.int .u8 (Int.tmod a0 16)] rfl (by (try simp only [List.map_toArray, List.map_cons, List.map_nil]); first | done | rfl | (simp only [List.length_drop, List.length_take]; rfl) | (refine congrArg (fun z_ => #[z_]) (congrArg (Value.int IntKind.u64) (Eq.symm (Go.Proofs.YtjfklfmfeghjnacAid.wrap_len _ (by omega)))))) ?_; (with_reducible refine (tachographref20_hex.calls (Int.tmod a0 16) t141 _ A8.out).mono ?_); rintro e w' ⟨rfl, ⟨nd, rfl⟩⟩; refine ⟨_, rfl, ?_⟩))
              go_ret
              exact ⟨by first | rfl | (simp [errW_none, errW_some] <;> rfl) | (simp [*, errW_none, errW_some] <;> rfl), by repeat (first | (with_reducible first | exact HB.out | apply below_alloc | apply pw_below_drewN | apply below_drew1) | exact HB.out)⟩
            · rw [if_neg c9] at H
              exact absurd H (by simp)
          · rw [if_neg c7] at H
            exact absurd H (by simp)
        · replace c5 := Bool.eq_false_iff.mpr c5
          subst c5
          have H1 : (if a0 = 34 then ((some (([a0] : List Int) : List Int)).bind fun y142 => (if 1 + (strOfNums y142).size ≤ 9223372036854775807 then (some ((⟨#[92]⟩ : ByteArray) ++ (strOfNums y142))) else (none))) else (if a0 = 92 then ((some (([a0] : List Int) : List Int)).bind fun y145 => (if 1 + (strOfNums y145).size ≤ 9223372036854775807 then (some ((⟨#[92]⟩ : ByteArray) ++ (strOfNums y145))) else (none))) else (some (strOfNums (([a0] : List Int)))))) = some r := by rw [if_neg (show ¬ (false = true) by decide)] at H; exact H
          clear H
          have H := H1
          clear H1
          by_cases c10 : a0 = 34
          · rw [if_pos c10] at H
            have c10b0 : (a0 == 34) = true := beq_iff_eq.mpr c10
            have c10b1 : (a0 != 34) = false := bne_eq_false_iff_eq.mpr c10
            clear c10
            obtain ⟨y142, hy142⟩ : ∃ y_ : List Int, y_ = (([a0] : List Int)) := ⟨_, rfl⟩
            replace H : (if 1 + (strOfNums y142).size ≤ 9223372036854775807 then (some ((⟨#[92]⟩ : ByteArray) ++ (strOfNums y142))) else (none)) = some r := by first | (rw [hy142]; with_reducible exact H) | (have H2_ := (Option.bind_some _ _).symm.trans H; rw [hy142]; with_reducible exact H2_) | (have H2_ := (Option.bind_some _ _).symm.trans H; with_reducible exact H2_) | with_reducible exact H | (rw [hy142]; exact H) | exact H
            have Ny142 := Aside0.mk hy142
            clear hy142
            by_cases c11 : 1 + (strOfNums y142).size ≤ 9223372036854775807
            · rw [if_pos c11] at H
              have c11b0 := eq_true c11
              have c11b1 : decide (1 + (strOfNums y142).size ≤ 9223372036854775807) = true := decide_eq_true c11
              try have c11b2 : (9223372036854775807 < 1 + (strOfNums y142).size) = False := eq_false (Nat.not_lt.2 c11)
              obtain rfl := Option.some.inj H
              go_wp2_with (first | ((with_reducible refine gate_dst (N := 26) rfl ?_); refine Kd.R_lit (Kd.int .u8) _ 5 ?hg (N := 26) ?hd (xs := ([a0] : List Int)) (inner := [.int .u8 a0]) (ok := fun _ => True) (okp := fun _ => True) ?hr ?hp (fun _ hk => hk) trivial (Below.refl _ _) (Nat.le_refl _) (by simp) ?_; (case hd => rfl); (case hg => rfl); (case hr => first | (go_simp; done) | (go_simp; rfl)); (case hp => exact (Reps.one (show Kd.M (Kd.int .u8) _ _ _ a0 [.int .u8 a0] from rfl) (Reps.none _ _))); intro v143 w12 ho13 hb hg_ hnew_; clear hg_ hnew_; (first | rw [← Ny142.out] at ho13 | (simp only [Int.reduceToNat] at ho13; rw [← Ny142.out] at ho13)); have n0_ := Aside0.mk (Kd.R_lower ho13 (below_size (by repeat (first | (with_reducible first | exact HB.out | apply below_alloc | apply pw_below_drewN | apply below_drew1) | exact HB.out)))); have n1_ := Aside0.mk (below_step (by repeat (first | (with_reducible first | exact HB.out | apply below_alloc | apply pw_below_drewN | apply below_drew1) | exact HB.out)) hb); clear HB; have HO144 := n0_; have HB := n1_; clear n0_ n1_; clear hb ho13; have hcv14 := own_string (P := Try.prog) Try.underlying49 Try.underlying5 Try.underlying9 (Kd.own_of_R HO144.out)))
              go_ret
              exact ⟨by first | rfl | (simp [errW_none, errW_some] <;> rfl) | (simp [*, errW_none, errW_some] <;> rfl), by repeat (first | (with_reducible first | exact HB.out | apply below_alloc | apply pw_below_drewN | apply below_drew1) | exact HB.out)⟩
            · rw [if_neg c11] at H
              exact absurd H (by simp)
          · rw [if_neg c10] at H
            have c10b0 : (a0 == 34) = false := beq_eq_false_iff_ne.mpr c10
            have c10b1 : (a0 != 34) = true := bne_iff_ne.mpr c10
            by_cases c15 : a0 = 92
            · rw [if_pos c15] at H
              have c15b0 : (a0 == 92) = true := beq_iff_eq.mpr c15
              have c15b1 : (a0 != 92) = false := bne_eq_false_iff_eq.mpr c15
              clear c15
              obtain ⟨y145, hy145⟩ : ∃ y_ : List Int, y_ = (([a0] : List Int)) := ⟨_, rfl⟩
              replace H : (if 1 + (strOfNums y145).size ≤ 9223372036854775807 then (some ((⟨#[92]⟩ : ByteArray) ++ (strOfNums y145))) else (none)) = some r := by first | (rw [hy145]; with_reducible exact H) | (have H2_ := (Option.bind_some _ _).symm.trans H; rw [hy145]; with_reducible exact H2_) | (have H2_ := (Option.bind_some _ _).symm.trans H; with_reducible exact H2_) | with_reducible exact H | (rw [hy145]; exact H) | exact H
              have Ny145 := Aside0.mk hy145
              clear hy145
              by_cases c16 : 1 + (strOfNums y145).size ≤ 9223372036854775807
              · rw [if_pos c16] at H
                have c16b0 := eq_true c16
                have c16b1 : decide (1 + (strOfNums y145).size ≤ 9223372036854775807) = true := decide_eq_true c16
                try have c16b2 : (9223372036854775807 < 1 + (strOfNums y145).size) = False := eq_false (Nat.not_lt.2 c16)
                obtain rfl := Option.some.inj H
                go_wp2_with (first | ((with_reducible refine gate_dst (N := 26) rfl ?_); refine Kd.R_lit (Kd.int .u8) _ 5 ?hg (N := 26) ?hd (xs := ([a0] : List Int)) (inner := [.int .u8 a0]) (ok := fun _ => True) (okp := fun _ => True) ?hr ?hp (fun _ hk => hk) trivial (Below.refl _ _) (Nat.le_refl _) (by simp) ?_; (case hd => rfl); (case hg => rfl); (case hr => first | (go_simp; done) | (go_simp; rfl)); (case hp => exact (Reps.one (show Kd.M (Kd.int .u8) _ _ _ a0 [.int .u8 a0] from rfl) (Reps.none _ _))); intro v146 w17 ho18 hb hg_ hnew_; clear hg_ hnew_; (first | rw [← Ny145.out] at ho18 | (simp only [Int.reduceToNat] at ho18; rw [← Ny145.out] at ho18)); have n0_ := Aside0.mk (Kd.R_lower ho18 (below_size (by repeat (first | (with_reducible first | exact HB.out | apply below_alloc | apply pw_below_drewN | apply below_drew1) | exact HB.out)))); have n1_ := Aside0.mk (below_step (by repeat (first | (with_reducible first | exact HB.out | apply below_alloc | apply pw_below_drewN | apply below_drew1) | exact HB.out)) hb); clear HB; have HO147 := n0_; have HB := n1_; clear n0_ n1_; clear hb ho18; have hcv19 := own_string (P := Try.prog) Try.underlying49 Try.underlying5 Try.underlying9 (Kd.own_of_R HO147.out)))
                go_ret
                exact ⟨by first | rfl | (simp [errW_none, errW_some] <;> rfl) | (simp [*, errW_none, errW_some] <;> rfl), by repeat (first | (with_reducible first | exact HB.out | apply below_alloc | apply pw_below_drewN | apply below_drew1) | exact HB.out)⟩
              · rw [if_neg c16] at H
                exact absurd H (by simp)
            · rw [if_neg c15] at H
              have c15b0 : (a0 == 92) = false := beq_eq_false_iff_ne.mpr c15
              have c15b1 : (a0 != 92) = true := bne_iff_ne.mpr c15
              obtain ⟨y148, hy148⟩ : ∃ y_ : List Int, y_ = (([a0] : List Int)) := ⟨_, rfl⟩
              replace H : (some (strOfNums y148)) = some r := by first | (rw [hy148]; with_reducible exact H) | (have H2_ := (Option.bind_some _ _).symm.trans H; rw [hy148]; with_reducible exact H2_) | (have H2_ := (Option.bind_some _ _).symm.trans H; with_reducible exact H2_) | with_reducible exact H | (rw [hy148]; exact H) | exact H
              have Ny148 := Aside0.mk hy148
              clear hy148
              obtain rfl := Option.some.inj H
              go_wp2_with (first | ((with_reducible refine gate_dst (N := 30) rfl ?_); refine Kd.R_lit (Kd.int .u8) _ 5 ?hg (N := 30) ?hd (xs := ([a0] : List Int)) (inner := [.int .u8 a0]) (ok := fun _ => True) (okp := fun _ => True) ?hr ?hp (fun _ hk => hk) trivial (Below.refl _ _) (Nat.le_refl _) (by simp) ?_; (case hd => rfl); (case hg => rfl); (case hr => first | (go_simp; done) | (go_simp; rfl)); (case hp => exact (Reps.one (show Kd.M (Kd.int .u8) _ _ _ a0 [.int .u8 a0] from rfl) (Reps.none _ _))); intro v149 w20 ho21 hb hg_ hnew_; clear hg_ hnew_; (first | rw [← Ny148.out] at ho21 | (simp only [Int.reduceToNat] at ho21; rw [← Ny148.out] at ho21)); have n0_ := Aside0.mk (Kd.R_lower ho21 (below_size (by repeat (first | (with_reducible first | exact HB.out | apply below_alloc | apply pw_below_drewN | apply below_drew1) | exact HB.out)))); have n1_ := Aside0.mk (below_step (by repeat (first | (with_reducible first | exact HB.out | apply below_alloc | apply pw_below_drewN | apply below_drew1) | exact HB.out)) hb); clear HB; have HO150 := n0_; have HB := n1_; clear n0_ n1_; clear hb ho21; have hcv22 := own_string (P := Try.prog) Try.underlying49 Try.underlying5 Try.underlying9 (Kd.own_of_R HO150.out)))
              go_ret
              exact ⟨by first | rfl | (simp [errW_none, errW_some] <;> rfl) | (simp [*, errW_none, errW_some] <;> rfl), by repeat (first | (with_reducible first | exact HB.out | apply below_alloc | apply pw_below_drewN | apply below_drew1) | exact HB.out)⟩

/-! ### tachographref20_Put: function 13 -/
def tachographref20_Put.l0 : Nat → ByteArray → ByteArray → Int → Option (ByteArray)
  | 0, _, _, _ => none
  | k + 1, x0, x3, x4 => if x4 < (x0.size : Int) then (if 0 ≤ x4 then ((tachographref20_byteOf.f k (bt x0 x4)).bind fun t151 => (if x3.size + t151.size ≤ 9223372036854775807 then (tachographref20_Put.l0 k x0 (x3 ++ t151) (wrap64 (x4 + 1))) else (none))) else (none)) else (if x3.size + 1 ≤ 9223372036854775807 then (some (x3 ++ (⟨#[34]⟩ : ByteArray))) else (none))
def tachographref20_Put.f (k : Nat) (a0 : ByteArray) : Option (ByteArray) := tachographref20_Put.l0 k a0 (⟨#[34]⟩ : ByteArray) 0
theorem tachographref20_Put.mono_l : ∀ k, (∀ y0 y1 y2, LeO (tachographref20_Put.l0 k y0 y1 y2) (tachographref20_Put.l0 (k + 1) y0 y1 y2))
  | 0 => fun _ _ _ r h => by simp [tachographref20_Put.l0] at h
  | k + 1 => by
    have ih0 := tachographref20_Put.mono_l k
    · intro y0 y1 y2
      unfold tachographref20_Put.l0
      repeat' first
      | (with_reducible exact ih0 _ _ _)
      | (with_reducible exact tachographref20_byteOf.mono _ _)
      | (with_reducible exact LeO.refl _)
      | (with_reducible exact LeO.none _)
      | (with_reducible refine LeO.ite ?_ ?_)
      | (with_reducible refine LeO.bind ?_ (fun _ => ?_))
      | exact ih0 _ _ _
      | exact tachographref20_byteOf.mono _ _
      | exact LeO.none _
      | refine LeO.ite ?_ ?_
      | refine LeO.bind ?_ (fun _ => ?_)
theorem tachographref20_Put.mono : ∀ a0 k, LeO (tachographref20_Put.f k a0) (tachographref20_Put.f (k + 1) a0) := by
  intro a0 k
  have ih0 := tachographref20_Put.mono_l k
  unfold tachographref20_Put.f
  repeat' first
      | (with_reducible exact ih0 _ _ _)
      | (with_reducible exact tachographref20_byteOf.mono _ _)
      | (with_reducible exact LeO.refl _)
      | (with_reducible exact LeO.none _)
      | (with_reducible refine LeO.ite ?_ ?_)
      | (with_reducible refine LeO.bind ?_ (fun _ => ?_))
      | exact ih0 _ _ _
      | exact tachographref20_byteOf.mono _ _
      | exact LeO.none _
      | refine LeO.ite ?_ ?_
      | refine LeO.bind ?_ (fun _ => ?_)
set_option maxHeartbeats 8000000 in
set_option maxRecDepth 100000 in
theorem tachographref20_Put.calls (k : Nat) (a0 : ByteArray) (r : ByteArray) (w : World) (h : tachographref20_Put.f k a0 = some r) :
    Calls Try.prog 13 #[.string a0] w fun e w' => e = .returned (.string r) ∧ Below w.heap.size w w' := by
  have HB := Aside0.mk (Below.refl w.heap.size w)
  have H : (tachographref20_Put.l0 k a0 (⟨#[34]⟩ : ByteArray) 0) = some r := h
  clear h
  have H' := Aside0.mk H
  clear H
  go_enter Try.func13, Try.ntmps13
  go_wp2
  go_loopg [3, 4] k (fun kq v3 v4 w' => ∃ (x3_1 : ByteArray) (x4_1 : Int), v3 = .string x3_1 ∧ v4 = .int .i64 x4_1 ∧ Aside0 (tachographref20_Put.l0 kq a0 x3_1 x4_1 = some r) ∧ Aside0 (kq ≤ k) ∧ Aside0 (Below w.heap.size w w'))
  case atStart => exact ⟨((⟨#[34]⟩ : ByteArray)), (0), (by first | rfl | (simp; done) | (simp [*]; done)), (by first | rfl | (simp; done) | (simp [*]; done)), H', ⟨Nat.le_refl _⟩, ⟨by repeat (first | (with_reducible first | exact HB.out | apply below_alloc | apply pw_below_drewN | apply below_drew1) | exact HB.out)⟩⟩
  case round =>
    clear H'
    try clear c1
    obtain ⟨x3_1, x4_1, rfl, rfl, HA, HK1, HB⟩ := hrel
    cases gk with
    | zero => exact absurd HA.out (by simp [tachographref20_Put.l0])
    | succ k1 =>
      have H := HA.out
      clear HA
      simp only [tachographref20_Put.l0] at H
      by_cases c2 : x4_1 < (a0.size : Int)
      · rw [if_pos c2] at H
        have c2b0 : decide (x4_1 < (a0.size : Int)) = true := decide_eq_true c2
        clear c2
        by_cases c3 : 0 ≤ x4_1
        · rw [if_pos c3] at H
          have c3b0 : decide (0 ≤ x4_1) = true := decide_eq_true c3
          clear c3
          replace H := Option.bind_eq_some_iff.mp H
          obtain ⟨t151, A50, H⟩ := H
          replace H : (if x3_1.size + t151.size ≤ 9223372036854775807 then (tachographref20_Put.l0 k1 a0 (x3_1 ++ t151) (wrap64 (x4_1 + 1))) else (none)) = some r := H
          have A5 := Aside0.mk A50
          clear A50
          by_cases c6 : x3_1.size + t151.size ≤ 9223372036854775807
          · rw [if_pos c6] at H
            have c6b0 := eq_true c6
            have c6b1 : decide (x3_1.size + t151.size ≤ 9223372036854775807) = true := decide_eq_true c6
            try have c6b2 : (9223372036854775807 < x3_1.size + t151.size) = False := eq_false (Nat.not_lt.2 c6)
            have H' := Aside0.mk H
            clear H
            have p4 : 0 ≤ (x4_1 : Int) := of_decide_eq_true (by first | (with_reducible assumption) | assumption)
            have q4 : x4_1 < (a0.size : Int) := of_decide_eq_true (by first | (with_reducible assumption) | assumption)
            have hx4 := bt_at a0 x4_1
            replace p4 := eq_true p4
            replace q4 := eq_true q4
            go_wp2_with (first | ((with_reducible refine gate_callee (f := 32) rfl ?_); refine goesL_ (some 15) rfl rfl Try.func32 (by kernel_rfl) rfl #[.int .u8 (bt a0 x4_1)] rfl (by (try simp only [List.map_toArray, List.map_cons, List.map_nil]); first | done | rfl | (simp only [List.length_drop, List.length_take]; rfl) | (refine congrArg (fun z_ => #[z_]) (congrArg (Value.int IntKind.u64) (Eq.symm (Go.Proofs.YtjfklfmfeghjnacAid.wrap_len _ (by omega)))))) ?_; (with_reducible refine (tachographref20_byteOf.calls k1 (bt a0 x4_1) t151 _ A5.out).mono ?_); rintro e w7 ⟨rfl, hb⟩; refine ⟨_, rfl, ?_⟩; have n0_ := Aside0.mk (below_step (by repeat (first | (with_reducible first | exact HB.out | apply below_alloc | apply pw_below_drewN | apply below_drew1) | exact HB.out)) hb); clear HB; have HB := n0_; clear n0_; (try clear hb); (try clear hb2); (try clear hk); (try clear hi)))
            go_roundg k1
            case measure => have := HK1.out; omega
            case rel => exact ⟨(x3_1 ++ t151), (wrap64 (x4_1 + 1)), (by first | rfl | (simp; done) | (simp [*]; done)), (by first | rfl | (simp; done) | (simp [*]; done)), H', ⟨by have := HK1.out; omega⟩, ⟨by repeat (first | (with_reducible first | exact HB.out | apply below_alloc | apply pw_below_drewN | apply below_drew1) | exact HB.out)⟩⟩
          · rw [if_neg c6] at H
            exact absurd H (by simp)
        · rw [if_neg c3] at H
          exact absurd H (by simp)
      · rw [if_neg c2] at H
        have c2b0 : decide (x4_1 < (a0.size : Int)) = false := decide_eq_false c2
        clear c2
        by_cases c8 : x3_1.size + 1 ≤ 9223372036854775807
        · rw [if_pos c8] at H
          have c8b0 := eq_true c8
          have c8b1 : decide (x3_1.size + 1 ≤ 9223372036854775807) = true := decide_eq_true c8
          try have c8b2 : (9223372036854775807 < x3_1.size + 1) = False := eq_false (Nat.not_lt.2 c8)
          obtain rfl := Option.some.inj H
          go_wp2
          go_ret
          exact ⟨by first | rfl | (simp [errW_none, errW_some] <;> rfl) | (simp [*, errW_none, errW_some] <;> rfl), by repeat (first | (with_reducible first | exact HB.out | apply below_alloc | apply pw_below_drewN | apply below_drew1) | exact HB.out)⟩
        · rw [if_neg c8] at H
          exact absurd H (by simp)

/-! ### tachographlaw20_QuotePuts: function 3 -/
mutual
def tachographlaw20_QuotePuts.j0 : Nat → ByteArray → ByteArray → Bool → Option (Bool)
 | 0, _, _, _ => none
 | k + 1, x0, x1, x17 => if x17 = true then ((tachographlaw20_fixed.f k).bind fun t152 => (some t152)) else ((quote_Put.f k x0).bind fun t153 => (if t153.size + x1.size ≤ 9223372036854775807 then ((quote_Get.f k (t153 ++ x1)).bind fun bt154 => ((tachographref20_Put.f k x0).bind fun t157 => (if t153.toList = t157.toList then (if (x0.size : Int) ≤ 200 then (if bt154.1.toList = x0.toList then (if bt154.2.1 = (t153.size : Int) then (if bt154.2.2 = 0 then (if (x0.size : Int) > 200 then (tachographlaw20_QuotePuts.j1 k t153 (bt154.2.2 != 6)) else (tachographlaw20_QuotePuts.j1 k t153 false)) else (tachographlaw20_QuotePuts.j1 k t153 true)) else (tachographlaw20_QuotePuts.j1 k t153 true)) else (tachographlaw20_QuotePuts.j1 k t153 true)) else (if (x0.size : Int) > 200 then (tachographlaw20_QuotePuts.j1 k t153 (bt154.2.2 != 6)) else (tachographlaw20_QuotePuts.j1 k t153 false))) else (tachographlaw20_QuotePuts.j1 k t153 true)))) else (none)))
def tachographlaw20_QuotePuts.j1 : Nat → ByteArray → Bool → Option (Bool)
 | 0, _, _ => none
 | k + 1, x5, x61 => if x61 = true then (some false) else (tachographlaw20_QuotePuts.l0 k x5 (x5.size : Int) 0)
def tachographlaw20_QuotePuts.l0 : Nat → ByteArray → Int → Int → Option (Bool)
 | 0, _, _, _ => none
 | k + 1, x5, x63, x64 => if x64 < x63 then (if 0 ≤ x64 then (if x64 < (x5.size : Int) then (if (bt x5 x64) < 32 then (some false) else (if (bt x5 x64) > 126 then (some false) else (tachographlaw20_QuotePuts.l0 k x5 x63 (wrap64 (x64 + 1))))) else (none)) else (none)) else ((tachographlaw20_fixed.f k).bind fun t158 => (some t158))
end
def tachographlaw20_QuotePuts.f (k : Nat) (a0 : ByteArray) (a1 : ByteArray) : Option (Bool) := if (a0.size : Int) > 600 then (tachographlaw20_QuotePuts.j0 k a0 a1 true) else (tachographlaw20_QuotePuts.j0 k a0 a1 (decide ((a1.size : Int) > 100)))
theorem tachographlaw20_QuotePuts.mono_l : ∀ k, (∀ y0 y1 y2, LeO (tachographlaw20_QuotePuts.j0 k y0 y1 y2) (tachographlaw20_QuotePuts.j0 (k + 1) y0 y1 y2)) ∧ (∀ y0 y1, LeO (tachographlaw20_QuotePuts.j1 k y0 y1) (tachographlaw20_QuotePuts.j1 (k + 1) y0 y1)) ∧ (∀ y0 y1 y2, LeO (tachographlaw20_QuotePuts.l0 k y0 y1 y2) (tachographlaw20_QuotePuts.l0 (k + 1) y0 y1 y2))
 | 0 => ⟨fun _ _ _ r h => by simp [tachographlaw20_QuotePuts.j0] at h, fun _ _ r h => by simp [tachographlaw20_QuotePuts.j1] at h, fun _ _ _ r h => by simp [tachographlaw20_QuotePuts.l0] at h⟩
 | k + 1 => by
  obtain ⟨ih0, ih1, ih2⟩ := tachographlaw20_QuotePuts.mono_l k
  refine ⟨?_, ?_, ?_⟩
  ·intro y0 y1 y2
   unfold tachographlaw20_QuotePuts.j0
   repeat' first
   | (with_reducible exact ih0 _ _ _)
   | (with_reducible exact ih1 _ _)
   | (with_reducible exact ih2 _ _ _)
   | (with_reducible exact quote_Get.mono _ _)
   | (with_reducible exact quote_Put.mono _ _)
   | (with_reducible exact tachographlaw20_fixed.mono _)
   | (with_reducible exact tachographref20_Put.mono _ _)
   | (with_reducible exact LeO.refl _)
   | (with_reducible exact LeO.none _)
   | (with_reducible refine LeO.ite ?_ ?_)
   | (with_reducible refine LeO.bind ?_ (fun _ => ?_))
   | exact ih0 _ _ _
   | exact ih1 _ _
   | exact ih2 _ _ _
   | exact quote_Get.mono _ _
   | exact quote_Put.mono _ _
   | exact tachographlaw20_fixed.mono _
   | exact tachographref20_Put.mono _ _
   | exact LeO.none _
   | refine LeO.ite ?_ ?_
   | refine LeO.bind ?_ (fun _ => ?_)
  ·intro y0 y1
   unfold tachographlaw20_QuotePuts.j1
   repeat' first
   | (with_reducible exact ih0 _ _ _)
   | (with_reducible exact ih1 _ _)
   | (with_reducible exact ih2 _ _ _)
   | (with_reducible exact quote_Get.mono _ _)
   | (with_reducible exact quote_Put.mono _ _)
   | (with_reducible exact tachographlaw20_fixed.mono _)
   | (with_reducible exact tachographref20_Put.mono _ _)
   | (with_reducible exact LeO.refl _)
   | (with_reducible exact LeO.none _)
   | (with_reducible refine LeO.ite ?_ ?_)
   | (with_reducible refine LeO.bind ?_ (fun _ => ?_))
   | exact ih0 _ _ _
   | exact ih1 _ _
   | exact ih2 _ _ _
   | exact quote_Get.mono _ _
   | exact quote_Put.mono _ _
   | exact tachographlaw20_fixed.mono _
   | exact tachographref20_Put.mono _ _
   | exact LeO.none _
   | refine LeO.ite ?_ ?_
   | refine LeO.bind ?_ (fun _ => ?_)
  ·intro y0 y1 y2
   unfold tachographlaw20_QuotePuts.l0
   repeat' first
   | (with_reducible exact ih0 _ _ _)
   | (with_reducible exact ih1 _ _)
   | (with_reducible exact ih2 _ _ _)
   | (with_reducible exact quote_Get.mono _ _)
   | (with_reducible exact quote_Put.mono _ _)
   | (with_reducible exact tachographlaw20_fixed.mono _)
   | (with_reducible exact tachographref20_Put.mono _ _)
   | (with_reducible exact LeO.refl _)
   | (with_reducible exact LeO.none _)
   | (with_reducible refine LeO.ite ?_ ?_)
   | (with_reducible refine LeO.bind ?_ (fun _ => ?_))
   | exact ih0 _ _ _
   | exact ih1 _ _
   | exact ih2 _ _ _
   | exact quote_Get.mono _ _
   | exact quote_Put.mono _ _
   | exact tachographlaw20_fixed.mono _
   | exact tachographref20_Put.mono _ _
   | exact LeO.none _
   | refine LeO.ite ?_ ?_
   | refine LeO.bind ?_ (fun _ => ?_)
theorem tachographlaw20_QuotePuts.mono : ∀ a0 a1 k, LeO (tachographlaw20_QuotePuts.f k a0 a1) (tachographlaw20_QuotePuts.f (k + 1) a0 a1) := by
 intro a0 a1 k
 obtain ⟨ih0, ih1, ih2⟩ := tachographlaw20_QuotePuts.mono_l k
 unfold tachographlaw20_QuotePuts.f
 repeat' first
   | (with_reducible exact ih0 _ _ _)
   | (with_reducible exact ih1 _ _)
   | (with_reducible exact ih2 _ _ _)
   | (with_reducible exact quote_Get.mono _ _)
   | (with_reducible exact quote_Put.mono _ _)
   | (with_reducible exact tachographlaw20_fixed.mono _)
   | (with_reducible exact tachographref20_Put.mono _ _)
   | (with_reducible exact LeO.refl _)
   | (with_reducible exact LeO.none _)
   | (with_reducible refine LeO.ite ?_ ?_)
   | (with_reducible refine LeO.bind ?_ (fun _ => ?_))
   | exact ih0 _ _ _
   | exact ih1 _ _
   | exact ih2 _ _ _
   | exact quote_Get.mono _ _
   | exact quote_Put.mono _ _
   | exact tachographlaw20_fixed.mono _
   | exact tachographref20_Put.mono _ _
   | exact LeO.none _
   | refine LeO.ite ?_ ?_
   | refine LeO.bind ?_ (fun _ => ?_)
set_option maxHeartbeats 8000000 in
set_option maxRecDepth 100000 in
theorem tachographlaw20_QuotePuts.calls (k : Nat) (a0 : ByteArray) (a1 : ByteArray) (r : Bool) (w : World) (h : tachographlaw20_QuotePuts.f k a0 a1 = some r) :
  Calls Try.prog 3 #[.string a0,.string a1] w fun e w' => e = .returned (.bool r) ∧ Below w.heap.size w w':=by
 have HB:=Aside0.mk (Below.refl w.heap.size w)
 have H : (if (a0.size : Int) > 600 then (tachographlaw20_QuotePuts.j0 k a0 a1 true) else (tachographlaw20_QuotePuts.j0 k a0 a1 (decide ((a1.size : Int) > 100)))) = some r:=h
 clear h
 have HC3:=Aside0.mk H
 clear H
 go_enter Try.func3,Try.ntmps3
 go_upto_region 1 with (fail)
 go_cut [17] (fun v17 wc => ∃ (kq : Nat) (x17_2 : Bool),v17 = .bool x17_2 ∧ Aside0 (tachographlaw20_QuotePuts.j0 kq a0 a1 x17_2 = some r) ∧ Aside0 (kq ≤ k) ∧ Aside0 (Below w.heap.size w wc))
 case first =>
  have H:=HC3.out
  clear HC3
  by_cases c4 : (a0.size : Int) > 600
  ·rw [if_pos c4] at H
   have c4b0 : decide (600 < (a0.size : Int)) = true:=decide_eq_true c4
   have c4b1 : decide (600 < a0.size) = true:=decide_eq_true (by omega)
   clear c4
   (first | rw [c4b0] | (simp only [i64_w,i32_w];rw [c4b0]) | skip)
   have H':=Aside0.mk H
   clear H
   go_wp2
   go_meet
   case rel => exact ⟨_,(true),(by first | rfl | (simp;done) | (simp [*];done)),H',⟨by first | omega | exact Nat.le_refl _⟩,⟨by repeat (first | (with_reducible first | exact HB.out | apply below_alloc | apply pw_below_drewN | apply below_drew1) | exact HB.out)⟩⟩
  ·rw [if_neg c4] at H
   have c4b0 : decide (600 < (a0.size : Int)) = false:=decide_eq_false c4
   have c4b1 : decide (600 < a0.size) = false:=decide_eq_false (by omega)
   clear c4
   (first | rw [c4b0] | (simp only [i64_w,i32_w];rw [c4b0]) | skip)
   have H':=Aside0.mk H
   clear H
   go_wp2
   go_meet
   case rel => exact ⟨_,(decide ((a1.size : Int) > 100)),(by first | rfl | (simp;done) | (simp [*];done)),H',⟨by first | omega | exact Nat.le_refl _⟩,⟨by repeat (first | (with_reducible first | exact HB.out | apply below_alloc | apply pw_below_drewN | apply below_drew1) | exact HB.out)⟩⟩
 case rest =>
  clear HC3
  try clear p2
  try clear c3
  try clear c4
  try clear c4b0
  try clear c4b1
  obtain ⟨kq,x17_2,rfl,HA,HJ2,HB⟩:=hcut
  cases kq with
  | zero => exact absurd HA.out (by simp [tachographlaw20_QuotePuts.j0])
  | succ kj2 =>
   have H:=HA.out
   clear HA
   simp only [tachographlaw20_QuotePuts.j0] at H
   by_cases c5 : x17_2 = true
   ·subst c5
    have H1 : ((tachographlaw20_fixed.f kj2).bind fun t152 => (some t152)) = some r:=by rw [if_pos rfl] at H;exact H
    clear H
    have H:=H1
    clear H1
    replace H:=Option.bind_eq_some_iff.mp H
    obtain ⟨t152,A60,H⟩:=H
    replace H : (some t152) = some r:=H
    have A6:=Aside0.mk A60
    clear A60
    obtain rfl:=Option.some.inj H
    go_wp2_with (first | ((with_reducible refine gate_callee (f:=10) rfl ?_);refine goesL_ (some 18) rfl rfl Try.func10 (by kernel_rfl) rfl #[] rfl (by (try simp only [List.map_toArray,List.map_cons,List.map_nil]);first | done | rfl | (simp only [List.length_drop,List.length_take];rfl)) ?_;(with_reducible refine (tachographlaw20_fixed.calls kj2  t152 _ A6.out).mono ?_);rintro e w7 ⟨rfl,hb⟩;refine ⟨_,rfl,?_⟩;have n0_:=Aside0.mk (below_step (by repeat (first | (with_reducible first | exact HB.out | apply below_alloc | apply pw_below_drewN | apply below_drew1) | exact HB.out)) hb);clear HB;have HB:=n0_;clear n0_;(try clear hb);(try clear hb2);(try clear hk);(try clear hi)))
    go_ret
    exact ⟨by first | rfl | (simp [errW_none,errW_some] <;> rfl) | (simp [*,errW_none,errW_some] <;> rfl),by repeat (first | (with_reducible first | exact HB.out | apply below_alloc | apply pw_below_drewN | apply below_drew1) | exact HB.out)⟩
   ·replace c5:=Bool.eq_false_iff.mpr c5
    subst c5
    have H1 : ((quote_Put.f kj2 a0).bind fun t153 => (if t153.size + a1.size ≤ 9223372036854775807 then ((quote_Get.f kj2 (t153 ++ a1)).bind fun bt154 => ((tachographref20_Put.f kj2 a0).bind fun t157 => (if t153.toList = t157.toList then (if (a0.size : Int) ≤ 200 then (if bt154.1.toList = a0.toList then (if bt154.2.1 = (t153.size : Int) then (if bt154.2.2 = 0 then (if (a0.size : Int) > 200 then (tachographlaw20_QuotePuts.j1 kj2 t153 (bt154.2.2 != 6)) else (tachographlaw20_QuotePuts.j1 kj2 t153 false)) else (tachographlaw20_QuotePuts.j1 kj2 t153 true)) else (tachographlaw20_QuotePuts.j1 kj2 t153 true)) else (tachographlaw20_QuotePuts.j1 kj2 t153 true)) else (if (a0.size : Int) > 200 then (tachographlaw20_QuotePuts.j1 kj2 t153 (bt154.2.2 != 6)) else (tachographlaw20_QuotePuts.j1 kj2 t153 false))) else (tachographlaw20_QuotePuts.j1 kj2 t153 true)))) else (none))) = some r:=by rw [if_neg (show ¬ (false = true) by decide)] at H;exact H
    clear H
    have H:=H1
    clear H1
    replace H:=Option.bind_eq_some_iff.mp H
    obtain ⟨t153,A80,H⟩:=H
    replace H : (if t153.size + a1.size ≤ 9223372036854775807 then ((quote_Get.f kj2 (t153 ++ a1)).bind fun bt154 => ((tachographref20_Put.f kj2 a0).bind fun t157 => (if t153.toList = t157.toList then (if (a0.size : Int) ≤ 200 then (if bt154.1.toList = a0.toList then (if bt154.2.1 = (t153.size : Int) then (if bt154.2.2 = 0 then (if (a0.size : Int) > 200 then (tachographlaw20_QuotePuts.j1 kj2 t153 (bt154.2.2 != 6)) else (tachographlaw20_QuotePuts.j1 kj2 t153 false)) else (tachographlaw20_QuotePuts.j1 kj2 t153 true)) else (tachographlaw20_QuotePuts.j1 kj2 t153 true)) else (tachographlaw20_QuotePuts.j1 kj2 t153 true)) else (if (a0.size : Int) > 200 then (tachographlaw20_QuotePuts.j1 kj2 t153 (bt154.2.2 != 6)) else (tachographlaw20_QuotePuts.j1 kj2 t153 false))) else (tachographlaw20_QuotePuts.j1 kj2 t153 true)))) else (none)) = some r:=H
    have A8:=Aside0.mk A80
    clear A80
    by_cases c9 : t153.size + a1.size ≤ 9223372036854775807
    ·rw [if_pos c9] at H
     have c9b0:=eq_true c9
     have c9b1 : decide (t153.size + a1.size ≤ 9223372036854775807) = true:=decide_eq_true c9
     try have c9b2 : (9223372036854775807 < t153.size + a1.size) = False:=eq_false (Nat.not_lt.2 c9)
     replace H:=Option.bind_eq_some_iff.mp H
     obtain ⟨⟨t154,t155,t156⟩,A100,H⟩:=H
     replace H : ((tachographref20_Put.f kj2 a0).bind fun t157 => (if t153.toList = t157.toList then (if (a0.size : Int) ≤ 200 then (if t154.toList = a0.toList then (if t155 = (t153.size : Int) then (if t156 = 0 then (if (a0.size : Int) > 200 then (tachographlaw20_QuotePuts.j1 kj2 t153 (t156 != 6)) else (tachographlaw20_QuotePuts.j1 kj2 t153 false)) else (tachographlaw20_QuotePuts.j1 kj2 t153 true)) else (tachographlaw20_QuotePuts.j1 kj2 t153 true)) else (tachographlaw20_QuotePuts.j1 kj2 t153 true)) else (if (a0.size : Int) > 200 then (tachographlaw20_QuotePuts.j1 kj2 t153 (t156 != 6)) else (tachographlaw20_QuotePuts.j1 kj2 t153 false))) else (tachographlaw20_QuotePuts.j1 kj2 t153 true))) = some r:=H
     have A10:=Aside0.mk A100
     clear A100
     have HC11:=Aside0.mk H
     clear H
     go_upto_region 5 with (first | ((with_reducible refine gate_callee (f:=11) rfl ?_);refine goesL_ (some 20) rfl rfl Try.func11 (by kernel_rfl) rfl #[.string a0] rfl (by (try simp only [List.map_toArray,List.map_cons,List.map_nil]);first | done | rfl | (simp only [List.length_drop,List.length_take];rfl)) ?_;(with_reducible refine (quote_Put.calls kj2 a0 t153 _ A8.out).mono ?_);rintro e w12 ⟨rfl,hb⟩;refine ⟨_,rfl,?_⟩;have n0_:=Aside0.mk (below_step (by repeat (first | (with_reducible first | exact HB.out | apply below_alloc | apply pw_below_drewN | apply below_drew1) | exact HB.out)) hb);clear HB;have HB:=n0_;clear n0_;(try clear hb);(try clear hb2);(try clear hk);(try clear hi)) | ((with_reducible refine gate_callee (f:=12) rfl ?_);refine goesL_ (some 25) rfl rfl Try.func12 (by kernel_rfl) rfl #[.string (t153 ++ a1)] rfl (by (try simp only [List.map_toArray,List.map_cons,List.map_nil]);first | done | rfl | (simp only [List.length_drop,List.length_take];rfl)) ?_;(with_reducible refine (quote_Get.calls kj2 (t153 ++ a1) t154 t155 t156 _ A10.out).mono ?_);rintro e w13 ⟨rfl,hb⟩;refine ⟨_,rfl,?_⟩;have n0_:=Aside0.mk (below_step (by repeat (first | (with_reducible first | exact HB.out | apply below_alloc | apply pw_below_drewN | apply below_drew1) | exact HB.out)) hb);clear HB;have HB:=n0_;clear n0_;(try clear hb);(try clear hb2);(try clear hk);(try clear hi)))
     (try simp only [Act.put,List.setIfInBounds_toArray,List.set_cons_zero,List.set_cons_succ])
     go_cut [61] (fun v61 wc => ∃ (kq : Nat) (x61_10 : Bool),v61 = .bool x61_10 ∧ Aside0 (tachographlaw20_QuotePuts.j1 kq t153 x61_10 = some r) ∧ Aside0 (kq ≤ kj2) ∧ Aside0 (Below w.heap.size w wc))
     case first =>
      have H:=HC11.out
      clear HC11
      replace H:=Option.bind_eq_some_iff.mp H
      obtain ⟨t157,A140,H⟩:=H
      replace H : (if t153.toList = t157.toList then (if (a0.size : Int) ≤ 200 then (if t154.toList = a0.toList then (if t155 = (t153.size : Int) then (if t156 = 0 then (if (a0.size : Int) > 200 then (tachographlaw20_QuotePuts.j1 kj2 t153 (t156 != 6)) else (tachographlaw20_QuotePuts.j1 kj2 t153 false)) else (tachographlaw20_QuotePuts.j1 kj2 t153 true)) else (tachographlaw20_QuotePuts.j1 kj2 t153 true)) else (tachographlaw20_QuotePuts.j1 kj2 t153 true)) else (if (a0.size : Int) > 200 then (tachographlaw20_QuotePuts.j1 kj2 t153 (t156 != 6)) else (tachographlaw20_QuotePuts.j1 kj2 t153 false))) else (tachographlaw20_QuotePuts.j1 kj2 t153 true)) = some r:=H
      have A14:=Aside0.mk A140
      clear A140
      by_cases c15 : t153.toList = t157.toList
      ·rw [if_pos c15] at H
       have c15b0 : (t153.toList == t157.toList) = true:=beq_iff_eq.mpr c15
       have c15b1 : (t153.toList != t157.toList) = false:=bne_eq_false_iff_eq.mpr c15
       clear c15
       (first | rw [c15b0] | (simp only [i64_w,i32_w];rw [c15b0]) | skip)
       by_cases c16 : (a0.size : Int) ≤ 200
       ·rw [if_pos c16] at H
        have c16b0 : decide ((a0.size : Int) ≤ 200) = true:=decide_eq_true c16
        have c16b1 : decide (a0.size ≤ 200) = true:=decide_eq_true (by omega)
        clear c16
        by_cases c17 : t154.toList = a0.toList
        ·rw [if_pos c17] at H
         have c17b0 : (t154.toList == a0.toList) = true:=beq_iff_eq.mpr c17
         have c17b1 : (t154.toList != a0.toList) = false:=bne_eq_false_iff_eq.mpr c17
         clear c17
         by_cases c18 : t155 = (t153.size : Int)
         ·rw [if_pos c18] at H
          have c18b0 : (t155 == (t153.size : Int)) = true:=beq_iff_eq.mpr c18
          have c18b1 : (t155 != (t153.size : Int)) = false:=bne_eq_false_iff_eq.mpr c18
          clear c18
          by_cases c19 : t156 = 0
          ·rw [if_pos c19] at H
           have c19b0 : (t156 == 0) = true:=beq_iff_eq.mpr c19
           have c19b1 : (t156 != 0) = false:=bne_eq_false_iff_eq.mpr c19
           clear c19
           by_cases c20 : (a0.size : Int) > 200
           ·rw [if_pos c20] at H
            have c20b0 : decide (200 < (a0.size : Int)) = true:=decide_eq_true c20
            have c20b1 : decide (200 < a0.size) = true:=decide_eq_true (by omega)
            clear c20
            have H':=Aside0.mk H
            clear H
            go_wp2_with (first | ((with_reducible refine gate_callee (f:=13) rfl ?_);refine goesL_ (some 31) rfl rfl Try.func13 (by kernel_rfl) rfl #[.string a0] rfl (by (try simp only [List.map_toArray,List.map_cons,List.map_nil]);first | done | rfl | (simp only [List.length_drop,List.length_take];rfl)) ?_;(with_reducible refine (tachographref20_Put.calls kj2 a0 t157 _ A14.out).mono ?_);rintro e w21 ⟨rfl,hb⟩;refine ⟨_,rfl,?_⟩;have n0_:=Aside0.mk (below_step (by repeat (first | (with_reducible first | exact HB.out | apply below_alloc | apply pw_below_drewN | apply below_drew1) | exact HB.out)) hb);clear HB;have HB:=n0_;clear n0_;(try clear hb);(try clear hb2);(try clear hk);(try clear hi)))
            go_meet
            case rel => exact ⟨_,((t156 != 6)),(by first | rfl | (simp;done) | (simp [*];done)),H',⟨by have:=HJ2.out;first | omega | exact Nat.le_refl _⟩,⟨by repeat (first | (with_reducible first | exact HB.out | apply below_alloc | apply pw_below_drewN | apply below_drew1) | exact HB.out)⟩⟩
           ·rw [if_neg c20] at H
            have c20b0 : decide (200 < (a0.size : Int)) = false:=decide_eq_false c20
            have c20b1 : decide (200 < a0.size) = false:=decide_eq_false (by omega)
            clear c20
            have H':=Aside0.mk H
            clear H
            go_wp2_with (first | ((with_reducible refine gate_callee (f:=13) rfl ?_);refine goesL_ (some 31) rfl rfl Try.func13 (by kernel_rfl) rfl #[.string a0] rfl (by (try simp only [List.map_toArray,List.map_cons,List.map_nil]);first | done | rfl | (simp only [List.length_drop,List.length_take];rfl)) ?_;(with_reducible refine (tachographref20_Put.calls kj2 a0 t157 _ A14.out).mono ?_);rintro e w22 ⟨rfl,hb⟩;refine ⟨_,rfl,?_⟩;have n0_:=Aside0.mk (below_step (by repeat (first | (with_reducible first | exact HB.out | apply below_alloc | apply pw_below_drewN | apply below_drew1) | exact HB.out)) hb);clear HB;have HB:=n0_;clear n0_;(try clear hb);(try clear hb2);(try clear hk);(try clear hi)))
            go_meet
            case rel => exact ⟨_,(false),(by first | rfl | (simp;done) | (simp [*];done)),H',⟨by have:=HJ2.out;first | omega | exact Nat.le_refl _⟩,⟨by repeat (first | (with_reducible first | exact HB.out | apply below_alloc | apply pw_below_drewN | apply below_drew1) | exact HB.out)⟩⟩
          ·rw [if_neg c19] at H
           have c19b0 : (t156 == 0) = false:=beq_eq_false_iff_ne.mpr c19
           have c19b1 : (t156 != 0) = true:=bne_iff_ne.mpr c19
           have H':=Aside0.mk H
           clear H
           go_wp2_with (first | ((with_reducible refine gate_callee (f:=13) rfl ?_);refine goesL_ (some 31) rfl rfl Try.func13 (by kernel_rfl) rfl #[.string a0] rfl (by (try simp only [List.map_toArray,List.map_cons,List.map_nil]);first | done | rfl | (simp only [List.length_drop,List.length_take];rfl)) ?_;(with_reducible refine (tachographref20_Put.calls kj2 a0 t157 _ A14.out).mono ?_);rintro e w23 ⟨rfl,hb⟩;refine ⟨_,rfl,?_⟩;have n0_:=Aside0.mk (below_step (by repeat (first | (with_reducible first | exact HB.out | apply below_alloc | apply pw_below_drewN | apply below_drew1) | exact HB.out)) hb);clear HB;have HB:=n0_;clear n0_;(try clear hb);(try clear hb2);(try clear hk);(try clear hi)))
           go_meet
           case rel => exact ⟨_,(true),(by first | rfl | (simp;done) | (simp [*];done)),H',⟨by have:=HJ2.out;first | omega | exact Nat.le_refl _⟩,⟨by repeat (first | (with_reducible first | exact HB.out | apply below_alloc | apply pw_below_drewN | apply below_drew1) | exact HB.out)⟩⟩
         ·rw [if_neg c18] at H
          have c18b0 : (t155 == (t153.size : Int)) = false:=beq_eq_false_iff_ne.mpr c18
          have c18b1 : (t155 != (t153.size : Int)) = true:=bne_iff_ne.mpr c18
          have H':=Aside0.mk H
          clear H
          go_wp2_with (first | ((with_reducible refine gate_callee (f:=13) rfl ?_);refine goesL_ (some 31) rfl rfl Try.func13 (by kernel_rfl) rfl #[.string a0] rfl (by (try simp only [List.map_toArray,List.map_cons,List.map_nil]);first | done | rfl | (simp only [List.length_drop,List.length_take];rfl)) ?_;(with_reducible refine (tachographref20_Put.calls kj2 a0 t157 _ A14.out).mono ?_);rintro e w24 ⟨rfl,hb⟩;refine ⟨_,rfl,?_⟩;have n0_:=Aside0.mk (below_step (by repeat (first | (with_reducible first | exact HB.out | apply below_alloc | apply pw_below_drewN | apply below_drew1) | exact HB.out)) hb);clear HB;have HB:=n0_;clear n0_;(try clear hb);(try clear hb2);(try clear hk);(try clear hi)))
          go_meet
          case rel => exact ⟨_,(true),(by first | rfl | (simp;done) | (simp [*];done)),H',⟨by have:=HJ2.out;first | omega | exact Nat.le_refl _⟩,⟨by repeat (first | (with_reducible first | exact HB.out | apply below_alloc | apply pw_below_drewN | apply below_drew1) | exact HB.out)⟩⟩
        ·rw [if_neg c17] at H
         have c17b0 : (t154.toList == a0.toList) = false:=beq_eq_false_iff_ne.mpr c17
         have c17b1 : (t154.toList != a0.toList) = true:=bne_iff_ne.mpr c17
         have H':=Aside0.mk H
         clear H
         go_wp2_with (first | ((with_reducible refine gate_callee (f:=13) rfl ?_);refine goesL_ (some 31) rfl rfl Try.func13 (by kernel_rfl) rfl #[.string a0] rfl (by (try simp only [List.map_toArray,List.map_cons,List.map_nil]);first | done | rfl | (simp only [List.length_drop,List.length_take];rfl)) ?_;(with_reducible refine (tachographref20_Put.calls kj2 a0 t157 _ A14.out).mono ?_);rintro e w25 ⟨rfl,hb⟩;refine ⟨_,rfl,?_⟩;have n0_:=Aside0.mk (below_step (by repeat (first | (with_reducible first | exact HB.out | apply below_alloc | apply pw_below_drewN | apply below_drew1) | exact HB.out)) hb);clear HB;have HB:=n0_;clear n0_;(try clear hb);(try clear hb2);(try clear hk);(try clear hi)))
         go_meet
         case rel => exact ⟨_,(true),(by first | rfl | (simp;done) | (simp [*];done)),H',⟨by have:=HJ2.out;first | omega | exact Nat.le_refl _⟩,⟨by repeat (first | (with_reducible first | exact HB.out | apply below_alloc | apply pw_below_drewN | apply below_drew1) | exact HB.out)⟩⟩
       ·rw [if_neg c16] at H
        have c16b0 : decide ((a0.size : Int) ≤ 200) = false:=decide_eq_false c16
        have c16b1 : decide (a0.size ≤ 200) = false:=decide_eq_false (by omega)
        clear c16
        by_cases c26 : (a0.size : Int) > 200
        ·rw [if_pos c26] at H
         have c26b0 : decide (200 < (a0.size : Int)) = true:=decide_eq_true c26
         have c26b1 : decide (200 < a0.size) = true:=decide_eq_true (by omega)
         clear c26
         have H':=Aside0.mk H
         clear H
         go_wp2_with (first | ((with_reducible refine gate_callee (f:=13) rfl ?_);refine goesL_ (some 31) rfl rfl Try.func13 (by kernel_rfl) rfl #[.string a0] rfl (by (try simp only [List.map_toArray,List.map_cons,List.map_nil]);first | done | rfl | (simp only [List.length_drop,List.length_take];rfl)) ?_;(with_reducible refine (tachographref20_Put.calls kj2 a0 t157 _ A14.out).mono ?_);rintro e w27 ⟨rfl,hb⟩;refine ⟨_,rfl,?_⟩;have n0_:=Aside0.mk (below_step (by repeat (first | (with_reducible first | exact HB.out | apply below_alloc | apply pw_below_drewN | apply below_drew1) | exact HB.out)) hb);clear HB;have HB:=n0_;clear n0_;(try clear hb);(try clear hb2);(try clear hk);(try clear hi)))
         go_meet
         case rel => exact ⟨_,((t156 != 6)),(by first | rfl | (simp;done) | (simp [*];done)),H',⟨by have:=HJ2.out;first | omega | exact Nat.le_refl _⟩,⟨by repeat (first | (with_reducible first | exact HB.out | apply below_alloc | apply pw_below_drewN | apply below_drew1) | exact HB.out)⟩⟩
        ·rw [if_neg c26] at H
         have c26b0 : decide (200 < (a0.size : Int)) = false:=decide_eq_false c26
         have c26b1 : decide (200 < a0.size) = false:=decide_eq_false (by omega)
         clear c26
         have H':=Aside0.mk H
         clear H
         go_wp2_with (first | ((with_reducible refine gate_callee (f:=13) rfl ?_);refine goesL_ (some 31) rfl rfl Try.func13 (by kernel_rfl) rfl #[.string a0] rfl (by (try simp only [List.map_toArray,List.map_cons,List.map_nil]);first | done | rfl | (simp only [List.length_drop,List.length_take];rfl)) ?_;(with_reducible refine (tachographref20_Put.calls kj2 a0 t157 _ A14.out).mono ?_);rintro e w28 ⟨rfl,hb⟩;refine ⟨_,rfl,?_⟩;have n0_:=Aside0.mk (below_step (by repeat (first | (with_reducible first | exact HB.out | apply below_alloc | apply pw_below_drewN | apply below_drew1) | exact HB.out)) hb);clear HB;have HB:=n0_;clear n0_;(try clear hb);(try clear hb2);(try clear hk);(try clear hi)))
         go_meet
         case rel => exact ⟨_,(false),(by first | rfl | (simp;done) | (simp [*];done)),H',⟨by have:=HJ2.out;first | omega | exact Nat.le_refl _⟩,⟨by repeat (first | (with_reducible first | exact HB.out | apply below_alloc | apply pw_below_drewN | apply below_drew1) | exact HB.out)⟩⟩
      ·rw [if_neg c15] at H
       have c15b0 : (t153.toList == t157.toList) = false:=beq_eq_false_iff_ne.mpr c15
       have c15b1 : (t153.toList != t157.toList) = true:=bne_iff_ne.mpr c15
       (first | rw [c15b0] | (simp only [i64_w,i32_w];rw [c15b0]) | skip)
       have H':=Aside0.mk H
       clear H
       go_wp2_with (first | ((with_reducible refine gate_callee (f:=13) rfl ?_);refine goesL_ (some 31) rfl rfl Try.func13 (by kernel_rfl) rfl #[.string a0] rfl (by (try simp only [List.map_toArray,List.map_cons,List.map_nil]);first | done | rfl | (simp only [List.length_drop,List.length_take];rfl)) ?_;(with_reducible refine (tachographref20_Put.calls kj2 a0 t157 _ A14.out).mono ?_);rintro e w29 ⟨rfl,hb⟩;refine ⟨_,rfl,?_⟩;have n0_:=Aside0.mk (below_step (by repeat (first | (with_reducible first | exact HB.out | apply below_alloc | apply pw_below_drewN | apply below_drew1) | exact HB.out)) hb);clear HB;have HB:=n0_;clear n0_;(try clear hb);(try clear hb2);(try clear hk);(try clear hi)))
       go_meet
       case rel => exact ⟨_,(true),(by first | rfl | (simp;done) | (simp [*];done)),H',⟨by have:=HJ2.out;first | omega | exact Nat.le_refl _⟩,⟨by repeat (first | (with_reducible first | exact HB.out | apply below_alloc | apply pw_below_drewN | apply below_drew1) | exact HB.out)⟩⟩
     case rest =>
      clear HC11
      try clear c1
      try clear c2
      try clear p2
      try clear c3
      try clear c4
      try clear c4b0
      try clear c4b1
      try clear c5
      try clear c9
      try clear c9b0
      try clear c9b1
      try clear c9b2
      try clear c10
      try clear c11
      try clear c12
      try clear c13
      try clear c15
      try clear c15b0
      try clear c15b1
      try clear c16
      try clear c16b0
      try clear c16b1
      try clear c17
      try clear c17b0
      try clear c17b1
      try clear c18
      try clear c18b0
      try clear c18b1
      try clear c19
      try clear c19b0
      try clear c19b1
      try clear c20
      try clear c20b0
      try clear c20b1
      try clear c26
      try clear c26b0
      try clear c26b1
      try clear p2
      obtain ⟨kq,x61_10,rfl,HA,HJ10,HB⟩:=hcut
      cases kq with
      | zero => exact absurd HA.out (by simp [tachographlaw20_QuotePuts.j1])
      | succ kj10 =>
       have H:=HA.out
       clear HA
       simp only [tachographlaw20_QuotePuts.j1] at H
       by_cases c30 : x61_10 = true
       ·subst c30
        have H1 : (some false) = some r:=by rw [if_pos rfl] at H;exact H
        clear H
        have H:=H1
        clear H1
        obtain rfl:=Option.some.inj H
        go_wp2
        go_ret
        exact ⟨by first | rfl | (simp [errW_none,errW_some] <;> rfl) | (simp [*,errW_none,errW_some] <;> rfl),by repeat (first | (with_reducible first | exact HB.out | apply below_alloc | apply pw_below_drewN | apply below_drew1) | exact HB.out)⟩
       ·replace c30:=Bool.eq_false_iff.mpr c30
        subst c30
        have H1 : (tachographlaw20_QuotePuts.l0 kj10 t153 (t153.size : Int) 0) = some r:=by rw [if_neg (show ¬ (false = true) by decide)] at H;exact H
        clear H
        have H:=H1
        clear H1
        have H':=Aside0.mk H
        clear H
        go_wp2
        go_loopg [64] kj10 (fun kq v64 w' => ∃ (x64_3 : Int),v64 = .int .i64 x64_3 ∧ Aside0 (tachographlaw20_QuotePuts.l0 kq t153 (t153.size : Int) x64_3 = some r) ∧ Aside0 (kq ≤ kj10) ∧ Aside0 (Below w.heap.size w w'))
        case atStart => exact ⟨(0),(by first | rfl | (simp;done) | (simp [*];done)),H',⟨Nat.le_refl _⟩,⟨by repeat (first | (with_reducible first | exact HB.out | apply below_alloc | apply pw_below_drewN | apply below_drew1) | exact HB.out)⟩⟩
        case round =>
         clear H'
         try clear c1
         try clear c2
         try clear p2
         try clear c3
         try clear c4
         try clear c4b0
         try clear c4b1
         try clear c5
         try clear c9
         try clear c9b0
         try clear c9b1
         try clear c9b2
         try clear c10
         try clear c11
         try clear c12
         try clear c13
         try clear c15
         try clear c15b0
         try clear c15b1
         try clear c16
         try clear c16b0
         try clear c16b1
         try clear c17
         try clear c17b0
         try clear c17b1
         try clear c18
         try clear c18b0
         try clear c18b1
         try clear c19
         try clear c19b0
         try clear c19b1
         try clear c20
         try clear c20b0
         try clear c20b1
         try clear c26
         try clear c26b0
         try clear c26b1
         try clear c30
         try clear p2
         obtain ⟨x64_3,rfl,HA,HK3,HB⟩:=hrel
         cases gk with
         | zero => exact absurd HA.out (by simp [tachographlaw20_QuotePuts.l0])
         | succ k3 =>
          have H:=HA.out
          clear HA
          simp only [tachographlaw20_QuotePuts.l0] at H
          by_cases c31 : x64_3 < (t153.size : Int)
          ·rw [if_pos c31] at H
           have c31b0 : decide (x64_3 < (t153.size : Int)) = true:=decide_eq_true c31
           clear c31
           by_cases c32 : 0 ≤ x64_3
           ·rw [if_pos c32] at H
            have c32b0 : decide (0 ≤ x64_3) = true:=decide_eq_true c32
            clear c32
            by_cases c33 : x64_3 < (t153.size : Int)
            ·rw [if_pos c33] at H
             have c33b0 : decide (x64_3 < (t153.size : Int)) = true:=decide_eq_true c33
             clear c33
             by_cases c35 : (bt t153 x64_3) < 32
             ·rw [if_pos c35] at H
              have c35b0 : decide ((bt t153 x64_3) < 32) = true:=decide_eq_true c35
              clear c35
              obtain rfl:=Option.some.inj H
              have p34 : 0 ≤ (x64_3 : Int):=of_decide_eq_true (by first | (with_reducible assumption) | assumption)
              have q34 : x64_3 < (t153.size : Int):=of_decide_eq_true (by first | (with_reducible assumption) | assumption)
              have hx34:=bt_at t153 x64_3
              replace p34:=eq_true p34
              replace q34:=eq_true q34
              go_wp2
              go_ret
              exact ⟨by first | rfl | (simp [errW_none,errW_some] <;> rfl) | (simp [*,errW_none,errW_some] <;> rfl),by repeat (first | (with_reducible first | exact HB.out | apply below_alloc | apply pw_below_drewN | apply below_drew1) | exact HB.out)⟩
             ·rw [if_neg c35] at H
              have c35b0 : decide ((bt t153 x64_3) < 32) = false:=decide_eq_false c35
              clear c35
              by_cases c37 : (bt t153 x64_3) > 126
              ·rw [if_pos c37] at H
               have c37b0 : decide (126 < (bt t153 x64_3)) = true:=decide_eq_true c37
               clear c37
               obtain rfl:=Option.some.inj H
               have p34 : 0 ≤ (x64_3 : Int):=of_decide_eq_true (by first | (with_reducible assumption) | assumption)
               have q34 : x64_3 < (t153.size : Int):=of_decide_eq_true (by first | (with_reducible assumption) | assumption)
               have hx34:=bt_at t153 x64_3
               replace p34:=eq_true p34
               replace q34:=eq_true q34
               have p36 : 0 ≤ (x64_3 : Int):=of_decide_eq_true (by first | (with_reducible assumption) | assumption)
               have q36 : x64_3 < (t153.size : Int):=of_decide_eq_true (by first | (with_reducible assumption) | assumption)
               have hx36:=bt_at t153 x64_3
               replace p36:=eq_true p36
               replace q36:=eq_true q36
               go_wp2
               go_ret
               exact ⟨by first | rfl | (simp [errW_none,errW_some] <;> rfl) | (simp [*,errW_none,errW_some] <;> rfl),by repeat (first | (with_reducible first | exact HB.out | apply below_alloc | apply pw_below_drewN | apply below_drew1) | exact HB.out)⟩
              ·rw [if_neg c37] at H
               have c37b0 : decide (126 < (bt t153 x64_3)) = false:=decide_eq_false c37
               clear c37
               have H':=Aside0.mk H
               clear H
               have p34 : 0 ≤ (x64_3 : Int):=of_decide_eq_true (by first | (with_reducible assumption) | assumption)
               have q34 : x64_3 < (t153.size : Int):=of_decide_eq_true (by first | (with_reducible assumption) | assumption)
               have hx34:=bt_at t153 x64_3
               replace p34:=eq_true p34
               replace q34:=eq_true q34
               have p36 : 0 ≤ (x64_3 : Int):=of_decide_eq_true (by first | (with_reducible assumption) | assumption)
               have q36 : x64_3 < (t153.size : Int):=of_decide_eq_true (by first | (with_reducible assumption) | assumption)
               have hx36:=bt_at t153 x64_3
               replace p36:=eq_true p36
               replace q36:=eq_true q36
               go_wp2
               go_roundg k3
               case measure => have:=HJ2.out;have:=HJ10.out;have:=HK3.out;omega
               case rel => exact ⟨(wrap64 (x64_3 + 1)),(by first | rfl | (simp;done) | (simp [*];done)),H',⟨by have:=HJ2.out;have:=HJ10.out;have:=HK3.out;omega⟩,⟨by repeat (first | (with_reducible first | exact HB.out | apply below_alloc | apply pw_below_drewN | apply below_drew1) | exact HB.out)⟩⟩
            ·rw [if_neg c33] at H
             exact absurd H (by simp)
           ·rw [if_neg c32] at H
            exact absurd H (by simp)
          ·rw [if_neg c31] at H
           have c31b0 : decide (x64_3 < (t153.size : Int)) = false:=decide_eq_false c31
           clear c31
           replace H:=Option.bind_eq_some_iff.mp H
           obtain ⟨t158,A380,H⟩:=H
           replace H : (some t158) = some r:=H
           have A38:=Aside0.mk A380
           clear A380
           obtain rfl:=Option.some.inj H
           go_wp2_with (first | ((with_reducible refine gate_callee (f:=10) rfl ?_);refine goesL_ (some 78) rfl rfl Try.func10 (by kernel_rfl) rfl #[] rfl (by (try simp only [List.map_toArray,List.map_cons,List.map_nil]);first | done | rfl | (simp only [List.length_drop,List.length_take];rfl)) ?_;(with_reducible refine (tachographlaw20_fixed.calls k3  t158 _ A38.out).mono ?_);rintro e w39 ⟨rfl,hb⟩;refine ⟨_,rfl,?_⟩;have n0_:=Aside0.mk (below_step (by repeat (first | (with_reducible first | exact HB.out | apply below_alloc | apply pw_below_drewN | apply below_drew1) | exact HB.out)) hb);clear HB;have HB:=n0_;clear n0_;(try clear hb);(try clear hb2);(try clear hk);(try clear hi)))
           go_ret
           exact ⟨by first | rfl | (simp [errW_none,errW_some] <;> rfl) | (simp [*,errW_none,errW_some] <;> rfl),by repeat (first | (with_reducible first | exact HB.out | apply below_alloc | apply pw_below_drewN | apply below_drew1) | exact HB.out)⟩
    ·rw [if_neg c9] at H
     exact absurd H (by simp)

/-- THE ONE PURE STATEMENT of tachographlaw20_QuotePuts: yours. -/
def tachographlaw20_QuotePuts.Pure : Prop:=∀ (a0 : ByteArray) (a1 : ByteArray),a0.size ≤ 140737488351232 → a1.size ≤ 140737488351232 → ∃ k,tachographlaw20_QuotePuts.f k a0 a1 = some true
theorem tachographlaw20_QuotePuts.walk (P : tachographlaw20_QuotePuts.Pure) (a0 : ByteArray) (a1 : ByteArray) (w : World) (w0 : a0.size ≤ 140737488351232) (w1 : a1.size ≤ 140737488351232) :
  Calls Try.prog 3 #[.string a0,.string a1] w fun e w' => e = .returned (.bool true) ∧ Below w.heap.size w w':=by
 obtain ⟨k,h⟩:=P a0 a1 w0 w1
 refine (tachographlaw20_QuotePuts.calls k a0 a1 true w h).mono ?_
 rintro e w' ⟨rfl,hd⟩
 exact ⟨rfl,hd⟩

end Go.Proofs.Ytjfklfmfeghjnac.PQ
