-- Contracts of Go functions, each with its plain Lean function: written by wip/tools/myprint.py of this work (the kit's print, with contracts proved by hand spliced in).
import Derived.Test.YtjfklfmfeghjnabPGx0
import Derived.Test.YtjfklfmfeghjnabPGx2
import Derived.Test.YtjfklfmfeghjnabPGx3
namespace Go.Proofs.Ytjfklfmfeghjnab.PG
open Go.RowKit Go.Proofs.YtjfklfmfeghjnabW.PrintWords Go.Proofs.YtjfklfmfeghjnabW.PrintLast Go.Proofs.YtjfklfmfeghjnabW.PrintMore
attribute [local go_sem] max2_int min2_int max_two min_two max_three min_three max_four min_four   -- for this text's walks alone
set_option linter.unusedVariables false
set_option linter.unusedSimpArgs false

/-! ### cursor_take_string: function 111 -/
section
open Go.Proofs.YtjfklfmfeghjnabAid

def cursor_take_string.T4 : Bool × List (List Nat × List Nat) := (true, [([], []), ([], []), ([1], [1]), ([2], [2]), ([3], [3]), ([], []), ([5], [5]), ([6], [6]), ([7], [7]), ([4, 8], [4, 8]), ([9], [9]), ([0, 10], [0, 10]), ([11], [11]), ([12], [12]), ([12], [12]), ([12], [12]), ([13, 11, 0, 1, 2, 3, 4, 5, 6, 7, 8, 9, 10, 11, 12, 13], [13]), ([14, 16, 0, 1, 2, 3, 4, 5, 6, 7, 8, 9, 10, 11, 12, 13, 14, 16], [14]), ([15, 17, 0, 1, 2, 3, 4, 5, 6, 7, 8, 9, 10, 11, 12, 13, 14, 15, 16, 17], [15])])
def cursor_take_string.B4 : List Nat := [0, 0, 2, 6, 14, 0, 32, 96, 224, 510, 1022, 2047, 4095, 8191, 8191, 8191, 16383, 98303, 262143]
theorem cursor_take_string.tab4 : rtab .any (opsOf Try.f111 4) = cursor_take_string.T4 := by kernel_rfl
theorem cursor_take_string.bits4 : waitsOk cursor_take_string.T4.2 cursor_take_string.B4 = true := by kernel_rfl
set_option maxHeartbeats 8000000 in
set_option maxRecDepth 100000 in
theorem cursor_take_string.gen (G : FuncId) (fnG : Func) (hfG : Try.prog.funcs[G]? = some fnG) (hnG : (fnG.name == "runtime.NumGoroutine") = false) (hbG : fnG.body.isSome = true) (caps : Array Value) (get : List Int → Option (ByteArray × Int × Int)) (g : Nat) (s0_0 : ByteArray) (s0_1 : Int) (s0_2 : Int) (r1 : ByteArray) (r2 : ByteArray) (r3 : Int) (r4 : Int) (w0 w : World) (hI : IsS157 w0 w g s0_0 s0_1 s0_2) (hB : Below w0.heap.size w0 w)
    (hget : ∀ (y : List Int) (t : ByteArray) (n e : Int), get y = some (t, n, e) → ∀ (A : Option Addr) (c : Nat) (w1 : World), KeepBut w w1 g none → (Kd.int .u8).C w1 A y.length y → y.length ≤ c → Calls Try.prog G (#[.slice A y.length c] ++ caps) w1 fun e_ w' => e_ = .returned (.tuple #[.string t, .int .i64 n, .int .i64 e]) ∧ Below w1.heap.size w1 w')
    (h : cursor_take_out (⟨#[]⟩ : ByteArray) s0_0 s0_1 s0_2 get = some (r1, r2, r3, r4)) :
    Calls Try.prog 111 #[.pointer (some ⟨g, 0, none⟩), .func (.func G) #[] caps] w fun e w' => e = .returned (.string r1) ∧ IsS157 w0 w' g r2 r3 r4 ∧ Below w0.heap.size w0 w' ∧ KeepBut w w' g none := by
  have HI0 := Aside0.mk hI
  have HK := Aside0.mk (KeepBut.refl w g none)
  have HW0 := Aside0.mk hB.size
  have HB := Aside0.mk hB
  clear hB hI
  unfold cursor_take_out at h
  have H := h
  clear h
  by_cases c3 : s0_2 = 0
  · rw [if_pos c3] at H
    have c3b0 : (s0_2 == 0) = true := beq_iff_eq.mpr c3
    have c3b1 : (s0_2 != 0) = false := bne_eq_false_iff_eq.mpr c3
    clear c3
    by_cases c4 : 0 ≤ s0_1
    · rw [if_pos c4] at H
      have c4b0 := eq_true c4
      have c4b1 : decide (0 ≤ s0_1) = true := decide_eq_true c4
      clear c4
      by_cases c5 : s0_1 ≤ (s0_0.size : Int)
      · rw [if_pos c5] at H
        have c5b0 := eq_true c5
        have c5b1 : decide (s0_1 ≤ (s0_0.size : Int)) = true := decide_eq_true c5
        clear c5
        by_cases c6 : (s0_0.extract (s0_1 : Int).toNat s0_0.size).size ≤ 9223372036854775807
        · rw [if_pos c6] at H
          have c6b1 : decide ((s0_0.extract (s0_1 : Int).toNat s0_0.size).size ≤ 9223372036854775807) = true := decide_eq_true c6
          clear c6
          obtain ⟨y106, hy106⟩ : ∃ y_ : List Int, y_ = (bytesOf (s0_0.extract (s0_1 : Int).toNat s0_0.size)) := ⟨_, rfl⟩
          rw [← hy106] at H
          have Ny106 := Aside0.mk hy106
          clear hy106
          replace H := Option.bind_eq_some_iff.mp H
          obtain ⟨⟨t107, t108, t109⟩, A70, H⟩ := H
          have A7 := Aside0.mk A70
          clear A70
          dsimp only at H
          obtain ⟨HGz, hgz⟩ := HI0.out
          have hcz_0 := cellS157_0 HGz
          have hcz_1 := cellS157_1 HGz
          have hcz_2 := cellS157_2 HGz
          have hfz_0 := blk_frozen HGz 0
          have hfz_1 := blk_frozen HGz 1
          have hfz_2 := blk_frozen HGz 2
          clear HGz hgz
          go_enter Try.func111, Try.ntmps111
          go_wp2
          have n0_ := Aside0.mk (IsS157.drew HI0.out)
          have n1_ := Aside0.mk (keep_drew HK.out)
          have n2_ := Aside0.mk (below_drew1 HB.out)
          clear HI0 HK HB hcz_0 hcz_1 hcz_2 hfz_0 hfz_1 hfz_2
          have HI0 := n0_
          have HK := n1_
          have HB := n2_
          clear n0_ n1_ n2_
          refine start_ (n := 19) (S := fun w' => w'.cell? ⟨g, 0, none⟩ = some (.string s0_0) ∧ w'.cell? ⟨g, 1, none⟩ = some (.int .i64 s0_1)) (ds := []) #[false, false, false, false, false, false, false, false, false, false, false, false, false, false, false, false, false, false, false] (by kernel_rfl) rfl rfl ⟨(cellS157_0 HI0.out.1), (cellS157_1 HI0.out.1)⟩ (fun hHeld => ?_)
          refine with_tabW cursor_take_string.tab4 cursor_take_string.bits4 (fun HT_ HW_ => ?_)
          generalize w.drew = w4 at HI0 HK HB hHeld ⊢
          refine pure_ (i := 0) (N := some 16) (v := ?_) (a' := ?_) #[true, false, false, false, false, false, false, false, false, false, false, false, false, false, false, false, false, false, false] rfl rfl (any_of HT_.out (by kernel_rfl)) (fun _ _ _ h => h) (Or.inl ⟨by rfl, ?_⟩) ?_ ?_
          rotate_left
          · intro w'
            go_simp
            with_reducible rfl
          rotate_left
          · simp only [Act.put, List.setIfInBounds_toArray, List.set_cons_zero, List.set_cons_succ, i64_w, i32_w]
            rfl
          refine pure_ (i := 1) (N := some 17) (v := ?_) (a' := ?_) #[true, true, false, false, false, false, false, false, false, false, false, false, false, false, false, false, false, false, false] rfl rfl (any_of HT_.out (by kernel_rfl)) (fun _ _ _ h => h) (Or.inl ⟨by rfl, ?_⟩) ?_ ?_
          rotate_left
          · intro w'
            go_simp
            with_reducible rfl
          rotate_left
          · simp only [Act.put, List.setIfInBounds_toArray, List.set_cons_zero, List.set_cons_succ, i64_w, i32_w]
            rfl
          refine pure_ (i := 2) (N := some 18) (v := ?_) (a' := ?_) #[true, true, true, false, false, false, false, false, false, false, false, false, false, false, false, false, false, false, false] rfl rfl (any_of HT_.out (by kernel_rfl)) (fun _ _ _ h => h) (Or.inl ⟨by rfl, ?_⟩) ?_ ?_
          rotate_left
          · intro w'
            go_simp
            with_reducible rfl
          rotate_left
          · simp only [Act.put, List.setIfInBounds_toArray, List.set_cons_zero, List.set_cons_succ, i64_w, i32_w]
            rfl
          refine pure_ (i := 3) (N := some 19) (v := ?_) (a' := ?_) #[true, true, true, true, false, false, false, false, false, false, false, false, false, false, false, false, false, false, false] rfl rfl (any_of HT_.out (by kernel_rfl)) (fun _ _ _ h => h) (Or.inl ⟨by rfl, ?_⟩) ?_ ?_
          rotate_left
          · intro w'
            go_simp
            with_reducible rfl
          rotate_left
          · simp only [Act.put, List.setIfInBounds_toArray, List.set_cons_zero, List.set_cons_succ, i64_w, i32_w]
            rfl
          refine pure_ (i := 5) (N := some 21) (v := ?_) (a' := ?_) #[true, true, true, true, false, true, false, false, false, false, false, false, false, false, false, false, false, false, false] rfl rfl (any_of HT_.out (by kernel_rfl)) (fun _ _ _ h => h) (Or.inl ⟨by rfl, ?_⟩) ?_ ?_
          rotate_left
          · intro w'
            go_simp
            with_reducible rfl
          rotate_left
          · simp only [Act.put, List.setIfInBounds_toArray, List.set_cons_zero, List.set_cons_succ, i64_w, i32_w]
            rfl
          refine pure_ (i := 6) (N := some 22) (v := ?_) (a' := ?_) #[true, true, true, true, false, true, true, false, false, false, false, false, false, false, false, false, false, false, false] rfl rfl (any_of HT_.out (by kernel_rfl)) (fun _ _ _ h => h) (Or.inl ⟨by rfl, ?_⟩) ?_ ?_
          rotate_left
          · intro w'
            go_simp
            with_reducible rfl
          rotate_left
          · simp only [Act.put, List.setIfInBounds_toArray, List.set_cons_zero, List.set_cons_succ, i64_w, i32_w]
            rfl
          refine pure_ (i := 7) (N := some 23) (v := ?_) (a' := ?_) #[true, true, true, true, false, true, true, true, false, false, false, false, false, false, false, false, false, false, false] rfl rfl (any_of HT_.out (by kernel_rfl)) (fun _ _ _ h => h) (Or.inl ⟨by rfl, ?_⟩) ?_ ?_
          rotate_left
          · intro w'
            go_simp
            with_reducible rfl
          rotate_left
          · simp only [Act.put, List.setIfInBounds_toArray, List.set_cons_zero, List.set_cons_succ, i64_w, i32_w]
            rfl
          refine take_ (i := 4) (N := some 20) (v := ?_) (a' := ?_) #[true, true, true, true, true, true, true, true, false, false, false, false, false, false, false, false, false, false, false] rfl rfl (take_ofW HT_.out HW_.out (by kernel_rfl)) (fun _ _ _ h => h) (Or.inl ⟨by rfl, ?_⟩) hHeld ?_ ?_
          rotate_left
          · rintro w' ⟨s0, s1⟩
            go_simp
            with_reducible rfl
          rotate_left
          · simp only [Act.put, List.setIfInBounds_toArray, List.set_cons_zero, List.set_cons_succ, i64_w, i32_w]
            rfl
          refine take_ (i := 8) (N := some 24) (v := ?_) (a' := ?_) #[true, true, true, true, true, true, true, true, true, false, false, false, false, false, false, false, false, false, false] rfl rfl (take_ofW HT_.out HW_.out (by kernel_rfl)) (fun _ _ _ h => h) (Or.inl ⟨by rfl, ?_⟩) hHeld ?_ ?_
          rotate_left
          · rintro w' ⟨s0, s1⟩
            go_simp
            with_reducible rfl
          rotate_left
          · simp only [Act.put, List.setIfInBounds_toArray, List.set_cons_zero, List.set_cons_succ, i64_w, i32_w]
            rfl
          refine pure_ (i := 9) (N := some 25) (v := ?_) (a' := ?_) #[true, true, true, true, true, true, true, true, true, true, false, false, false, false, false, false, false, false, false] rfl rfl (any_of HT_.out (by kernel_rfl)) (fun _ _ _ h => h) (Or.inl ⟨by rfl, ?_⟩) ?_ ?_
          rotate_left
          · intro w'
            go_simp
            with_reducible rfl
          rotate_left
          · simp only [Act.put, List.setIfInBounds_toArray, List.set_cons_zero, List.set_cons_succ, i64_w, i32_w]
            rfl
          refine one_ (i := 10) (N := some 26) #[true, true, true, true, true, true, true, true, true, true, true, false, false, false, false, false, false, false, false] rfl rfl (one_of HT_.out (by kernel_rfl)) (by decide) (fun K hK => ?_)
          refine conv_bytes_step _ (by rfl) (N := 26) rfl 9 71 5 _ rfl (s0_0.extract (s0_1 : Int).toNat s0_0.size) Try.underlying9 Try.underlying71 Try.underlying5 rfl (of_decide_eq_true c6b1) (Below.refl _ _) (Nat.le_refl _) ?_
          intro A105 c105 n105_ w10 hn_ hs_ hc_ hb hg_
          clear hg_
          obtain rfl : n105_ = y106.length := (by rw [hn_, Ny106.out])
          rw [← Ny106.out] at hs_
          have n0_ := Aside0.mk (IsS157.below HI0.out hb)
          have n1_ := Aside0.mk (KeepBut.trans HK.out (KeepBut.of_below hb g none) (.inl rfl))
          have n2_ := Aside0.mk (below_step HB.out hb)
          clear HI0 HK HB
          have HI0 := n0_
          have HK := n1_
          have HB := n2_
          clear n0_ n1_ n2_
          have HR105 := Aside0.mk hs_
          have HC105 := Aside0.mk hc_
          clear hb hs_ hc_ hn_
          refine hK.out _ _ ⟨(cellS157_0 HI0.out.1), (cellS157_1 HI0.out.1)⟩ (fun hHeld => ?_)
          clear hK K
          refine norm_ (a' := ?_) ?_ ?_
          rotate_left
          · show Act.put _ (some 26) _ = _
            simp only [Act.put, List.setIfInBounds_toArray, List.set_cons_zero, List.set_cons_succ, i64_w, i32_w]
            rfl
          refine one_ (i := 11) (N := some 27) #[true, true, true, true, true, true, true, true, true, true, true, true, false, false, false, false, false, false, false] rfl rfl (one_of HT_.out (by kernel_rfl)) (by decide) (fun K hK => ?_)
          refine goesVs_ hfG hnG hbG #[.slice A105 y106.length c105] caps _ (by rfl) rfl rfl rfl (by simp only [List.map_toArray, List.map_cons, List.map_nil]; rfl) ?_
          refine (hget _ _ _ _ A7.out _ _ _ HK.out HR105.out HC105.out).mono ?_
          rintro e w11 ⟨rfl, hb⟩
          refine ⟨_, rfl, ?_⟩
          have n0_ := Aside0.mk (IsS157.below HI0.out hb)
          have n1_ := Aside0.mk (KeepBut.trans HK.out (KeepBut.of_below hb g none) (.inl rfl))
          have n2_ := Aside0.mk (below_step HB.out hb)
          clear HI0 HK HB
          have HI0 := n0_
          have HK := n1_
          have HB := n2_
          clear n0_ n1_ n2_
          clear hb
          refine hK.out _ _ ⟨(cellS157_0 HI0.out.1), (cellS157_1 HI0.out.1)⟩ (fun hHeld => ?_)
          clear hK K
          refine norm_ (a' := ?_) ?_ ?_
          rotate_left
          · show Act.put _ (some 27) _ = _
            simp only [Act.put, List.setIfInBounds_toArray, List.set_cons_zero, List.set_cons_succ, i64_w, i32_w]
            rfl
          refine pure_ (i := 12) (N := some 15) (v := ?_) (a' := ?_) #[true, true, true, true, true, true, true, true, true, true, true, true, true, false, false, false, false, false, false] rfl rfl (any_of HT_.out (by kernel_rfl)) (fun _ _ _ h => h) (Or.inl ⟨by rfl, ?_⟩) ?_ ?_
          rotate_left
          · intro w'
            go_simp
            with_reducible rfl
          rotate_left
          · simp only [Act.put, List.setIfInBounds_toArray, List.set_cons_zero, List.set_cons_succ, i64_w, i32_w]
            rfl
          refine pure_ (i := 13) (N := some 28) (v := ?_) (a' := ?_) #[true, true, true, true, true, true, true, true, true, true, true, true, true, true, false, false, false, false, false] rfl rfl (any_of HT_.out (by kernel_rfl)) (fun _ _ _ h => h) (Or.inl ⟨by rfl, ?_⟩) ?_ ?_
          rotate_left
          · intro w'
            go_simp
            with_reducible rfl
          rotate_left
          · simp only [Act.put, List.setIfInBounds_toArray, List.set_cons_zero, List.set_cons_succ, i64_w, i32_w]
            rfl
          refine pure_ (i := 14) (N := some 29) (v := ?_) (a' := ?_) #[true, true, true, true, true, true, true, true, true, true, true, true, true, true, true, false, false, false, false] rfl rfl (any_of HT_.out (by kernel_rfl)) (fun _ _ _ h => h) (Or.inl ⟨by rfl, ?_⟩) ?_ ?_
          rotate_left
          · intro w'
            go_simp
            with_reducible rfl
          rotate_left
          · simp only [Act.put, List.setIfInBounds_toArray, List.set_cons_zero, List.set_cons_succ, i64_w, i32_w]
            rfl
          refine pure_ (i := 15) (N := some 30) (v := ?_) (a' := ?_) #[true, true, true, true, true, true, true, true, true, true, true, true, true, true, true, true, false, false, false] rfl rfl (any_of HT_.out (by kernel_rfl)) (fun _ _ _ h => h) (Or.inl ⟨by rfl, ?_⟩) ?_ ?_
          rotate_left
          · intro w'
            go_simp
            with_reducible rfl
          rotate_left
          · simp only [Act.put, List.setIfInBounds_toArray, List.set_cons_zero, List.set_cons_succ, i64_w, i32_w]
            rfl
          refine pure_ (i := 16) (N := some 6) (v := ?_) (a' := ?_) #[true, true, true, true, true, true, true, true, true, true, true, true, true, true, true, true, true, false, false] rfl rfl (any_of HT_.out (by kernel_rfl)) (fun _ _ _ h => h) (Or.inl ⟨by rfl, ?_⟩) ?_ ?_
          rotate_left
          · intro w'
            go_simp
            with_reducible rfl
          rotate_left
          · simp only [Act.put, List.setIfInBounds_toArray, List.set_cons_zero, List.set_cons_succ, i64_w, i32_w]
            rfl
          refine pure_ (i := 17) (N := some 7) (v := ?_) (a' := ?_) #[true, true, true, true, true, true, true, true, true, true, true, true, true, true, true, true, true, true, false] rfl rfl (any_of HT_.out (by kernel_rfl)) (fun _ _ _ h => h) (Or.inl ⟨by rfl, ?_⟩) ?_ ?_
          rotate_left
          · intro w'
            go_simp
            with_reducible rfl
          rotate_left
          · simp only [Act.put, List.setIfInBounds_toArray, List.set_cons_zero, List.set_cons_succ, i64_w, i32_w]
            rfl
          refine pure_ (i := 18) (N := some 8) (v := ?_) (a' := ?_) #[true, true, true, true, true, true, true, true, true, true, true, true, true, true, true, true, true, true, true] rfl rfl (any_of HT_.out (by kernel_rfl)) (fun _ _ _ h => h) (Or.inl ⟨by rfl, ?_⟩) ?_ ?_
          rotate_left
          · intro w'
            go_simp
            with_reducible rfl
          rotate_left
          · simp only [Act.put, List.setIfInBounds_toArray, List.set_cons_zero, List.set_cons_succ, i64_w, i32_w]
            rfl
          refine done_ (done_of HT_.out (by kernel_rfl)) ?_

          obtain ⟨HGz, hgz⟩ := HI0.out
          have hcz_0 := cellS157_0 HGz
          have hcz_1 := cellS157_1 HGz
          have hcz_2 := cellS157_2 HGz
          have hfz_0 := blk_frozen HGz 0
          have hfz_1 := blk_frozen HGz 1
          have hfz_2 := blk_frozen HGz 2
          clear HGz hgz
          by_cases c8 : t109 = 0
          · rw [if_pos c8] at H
            have c8b0 : (t109 == 0) = true := beq_iff_eq.mpr c8
            have c8b1 : (t109 != 0) = false := bne_eq_false_iff_eq.mpr c8
            simp only [Option.some.injEq, Prod.mk.injEq] at H
            obtain ⟨rfl, rfl, rfl, rfl⟩ := H
            clear c8
            go_wp2
            go_ret
            exact ⟨by first | rfl | (simp [*] <;> rfl), (by repeat (first | (with_reducible first | exact HI0.out | apply IsS157.alloc | apply IsS157.drewN | apply IsS157.drew | apply IsS157.set_0 | apply IsS157.set_1 | apply IsS157.set_2) | exact HI0.out)), (by repeat (first | (with_reducible first | exact HB.out | apply below_alloc | apply pw_below_drewN | apply below_drew1 | refine below_set ?_ (IsS157.ge HI0.out)) | exact HB.out)), (by repeat (first | (with_reducible first | exact HK.out | apply KeepBut.set_ | apply keep_drewN | apply keep_drew | apply keep_alloc) | exact HK.out))⟩
          · rw [if_neg c8] at H
            have c8b0 : (t109 == 0) = false := beq_eq_false_iff_ne.mpr c8
            have c8b1 : (t109 != 0) = true := bne_iff_ne.mpr c8
            simp only [Option.some.injEq, Prod.mk.injEq] at H
            obtain ⟨rfl, rfl, rfl, rfl⟩ := H
            go_wp2
            go_ret
            exact ⟨by first | rfl | (simp [*] <;> rfl), (by repeat (first | (with_reducible first | exact HI0.out | apply IsS157.alloc | apply IsS157.drewN | apply IsS157.drew | apply IsS157.set_0 | apply IsS157.set_1 | apply IsS157.set_2) | exact HI0.out)), (by repeat (first | (with_reducible first | exact HB.out | apply below_alloc | apply pw_below_drewN | apply below_drew1 | refine below_set ?_ (IsS157.ge HI0.out)) | exact HB.out)), (by repeat (first | (with_reducible first | exact HK.out | apply KeepBut.set_ | apply keep_drewN | apply keep_drew | apply keep_alloc) | exact HK.out))⟩
        · rw [if_neg c6] at H
          exact absurd H (by simp)
      · rw [if_neg c5] at H
        exact absurd H (by simp)
    · rw [if_neg c4] at H
      exact absurd H (by simp)
  · rw [if_neg c3] at H
    have c3b0 : (s0_2 == 0) = false := beq_eq_false_iff_ne.mpr c3
    have c3b1 : (s0_2 != 0) = true := bne_iff_ne.mpr c3
    simp only [Option.some.injEq, Prod.mk.injEq] at H
    obtain ⟨rfl, rfl, rfl, rfl⟩ := H
    obtain ⟨HGz, hgz⟩ := HI0.out
    have hcz_0 := cellS157_0 HGz
    have hcz_1 := cellS157_1 HGz
    have hcz_2 := cellS157_2 HGz
    have hfz_0 := blk_frozen HGz 0
    have hfz_1 := blk_frozen HGz 1
    have hfz_2 := blk_frozen HGz 2
    clear HGz hgz
    go_enter Try.func111, Try.ntmps111
    go_wp2
    go_ret
    exact ⟨by first | rfl | (simp [*] <;> rfl), (by repeat (first | (with_reducible first | exact HI0.out | apply IsS157.alloc | apply IsS157.drewN | apply IsS157.drew | apply IsS157.set_0 | apply IsS157.set_1 | apply IsS157.set_2) | exact HI0.out)), (by repeat (first | (with_reducible first | exact HB.out | apply below_alloc | apply pw_below_drewN | apply below_drew1 | refine below_set ?_ (IsS157.ge HI0.out)) | exact HB.out)), (by repeat (first | (with_reducible first | exact HK.out | apply KeepBut.set_ | apply keep_drewN | apply keep_drew | apply keep_alloc) | exact HK.out))⟩
end

/-! ### blob_Get: function 113 -/
def blob_Get.f (k : Nat) (l0 : List Int) (a1 : Int) : Option (ByteArray × Int × Int) := (wire_Get.f k l0).bind fun bt135 => (if bt135.2.2 = 0 then (if bt135.1 > (IntKind.u64.wrap (mx a1 0)) then (some ((⟨#[]⟩ : ByteArray), 0, 6)) else (if bt135.1 > (IntKind.u64.wrap (wrap64 ((l0.length : Int) - bt135.2.1))) then (some ((⟨#[]⟩ : ByteArray), 0, 2)) else (if 0 ≤ bt135.2.1 then (if bt135.2.1 ≤ (wrap64 (bt135.2.1 + (wrap64 (bt135.1)))) then (if (wrap64 (bt135.2.1 + (wrap64 (bt135.1)))) ≤ (l0.length : Int) then (some (strOfNums ((l0.take ((wrap64 (bt135.2.1 + (wrap64 (bt135.1)))) : Int).toNat).drop (bt135.2.1 : Int).toNat), wrap64 (bt135.2.1 + (wrap64 (bt135.1))), 0)) else (none)) else (none)) else (none)))) else (some ((⟨#[]⟩ : ByteArray), 0, bt135.2.2)))
theorem blob_Get.mono : ∀ a0 a1 k, LeO (blob_Get.f k a0 a1) (blob_Get.f (k + 1) a0 a1) := by
  intro a0 a1 k
  unfold blob_Get.f
  repeat' first
      | (with_reducible exact wire_Get.mono _ _)
      | (with_reducible exact LeO.refl _)
      | (with_reducible exact LeO.none _)
      | (with_reducible refine LeO.ite ?_ ?_)
      | (with_reducible refine LeO.bind ?_ (fun _ => ?_))
      | exact wire_Get.mono _ _
      | exact LeO.none _
      | refine LeO.ite ?_ ?_
      | refine LeO.bind ?_ (fun _ => ?_)
set_option maxHeartbeats 8000000 in
set_option maxRecDepth 100000 in
theorem blob_Get.calls (k : Nat) (A0 : Option Addr) (c0 : Nat) (l0 : List Int) (a1 : Int) (r1 : ByteArray) (r2 : Int) (r3 : Int) (w : World) (hr0 : Kd.C (Kd.int .u8) w A0 l0.length l0) (hc0 : l0.length ≤ c0) (h : blob_Get.f k l0 a1 = some (r1, r2, r3)) :
    Calls Try.prog 113 #[.slice A0 l0.length c0, .int .i64 a1] w fun e w' => e = .returned (.tuple #[.string r1, .int .i64 r2, .int .i64 r3]) ∧ Below w.heap.size w w' := by
  have HR0 := Aside0.mk hr0
  have HC0 := Aside0.mk hc0
  clear hr0 hc0
  have HB := Aside0.mk (Below.refl w.heap.size w)
  have H : ((wire_Get.f k l0).bind fun bt135 => (if bt135.2.2 = 0 then (if bt135.1 > (IntKind.u64.wrap (mx a1 0)) then (some ((⟨#[]⟩ : ByteArray), 0, 6)) else (if bt135.1 > (IntKind.u64.wrap (wrap64 ((l0.length : Int) - bt135.2.1))) then (some ((⟨#[]⟩ : ByteArray), 0, 2)) else (if 0 ≤ bt135.2.1 then (if bt135.2.1 ≤ (wrap64 (bt135.2.1 + (wrap64 (bt135.1)))) then (if (wrap64 (bt135.2.1 + (wrap64 (bt135.1)))) ≤ (l0.length : Int) then (some (strOfNums ((l0.take ((wrap64 (bt135.2.1 + (wrap64 (bt135.1)))) : Int).toNat).drop (bt135.2.1 : Int).toNat), wrap64 (bt135.2.1 + (wrap64 (bt135.1))), 0)) else (none)) else (none)) else (none)))) else (some ((⟨#[]⟩ : ByteArray), 0, bt135.2.2)))) = some (r1, r2, r3) := h
  clear h
  replace H := Option.bind_eq_some_iff.mp H
  obtain ⟨⟨t135, t136, t137⟩, A30, H⟩ := H
  replace H : (if t137 = 0 then (if t135 > (IntKind.u64.wrap (mx a1 0)) then (some ((⟨#[]⟩ : ByteArray), 0, 6)) else (if t135 > (IntKind.u64.wrap (wrap64 ((l0.length : Int) - t136))) then (some ((⟨#[]⟩ : ByteArray), 0, 2)) else (if 0 ≤ t136 then (if t136 ≤ (wrap64 (t136 + (wrap64 (t135)))) then (if (wrap64 (t136 + (wrap64 (t135)))) ≤ (l0.length : Int) then (some (strOfNums ((l0.take ((wrap64 (t136 + (wrap64 (t135)))) : Int).toNat).drop (t136 : Int).toNat), wrap64 (t136 + (wrap64 (t135))), 0)) else (none)) else (none)) else (none)))) else (some ((⟨#[]⟩ : ByteArray), 0, t137))) = some (r1, r2, r3) := H
  have A3 := Aside0.mk A30
  clear A30
  by_cases c4 : t137 = 0
  · rw [if_pos c4] at H
    have c4b0 : (t137 == 0) = true := beq_iff_eq.mpr c4
    have c4b1 : (t137 != 0) = false := bne_eq_false_iff_eq.mpr c4
    clear c4
    obtain ⟨ji5, hji5⟩ : ∃ j_ : Int, (mx a1 0) = j_ := ⟨_, rfl⟩
    replace H : (if t135 > (IntKind.u64.wrap (ji5)) then (some ((⟨#[]⟩ : ByteArray), 0, 6)) else (if t135 > (IntKind.u64.wrap (wrap64 ((l0.length : Int) - t136))) then (some ((⟨#[]⟩ : ByteArray), 0, 2)) else (if 0 ≤ t136 then (if t136 ≤ (wrap64 (t136 + (wrap64 (t135)))) then (if (wrap64 (t136 + (wrap64 (t135)))) ≤ (l0.length : Int) then (some (strOfNums ((l0.take ((wrap64 (t136 + (wrap64 (t135)))) : Int).toNat).drop (t136 : Int).toNat), wrap64 (t136 + (wrap64 (t135))), 0)) else (none)) else (none)) else (none)))) = some (r1, r2, r3) := by first | (rw [hji5] at H; exact H) | (simp only [hji5] at H ⊢; exact H)
    (try rw [hji5] at A3)
    (try (have hji5l : 0 ≤ ji5 := by (rw [← hji5]; unfold mx; (repeat' split) <;> omega)))
    (try (have hji5m : 0 ≤ ji5 := by omega))
    have hji5_ : (if a1 < 0 then 0 else a1) = ji5 := hji5
    by_cases c6 : t135 > (IntKind.u64.wrap (ji5))
    · rw [if_pos c6] at H
      have c6b0 : decide ((IntKind.u64.wrap (ji5)) < t135) = true := decide_eq_true c6
      clear c6
      simp only [Option.some.injEq, Prod.mk.injEq] at H
      obtain ⟨rfl, rfl, rfl⟩ := H
      go_enter Try.func113, Try.ntmps113
      go_wp2_with (first | ((with_reducible refine gate_callee (f := 83) rfl ?_); refine goesL_ (some 13) rfl rfl Try.func83 (by kernel_rfl) rfl #[.slice A0 l0.length c0] rfl (by (try simp only [List.map_toArray, List.map_cons, List.map_nil]); first | done | rfl | (simp only [List.length_drop, List.length_take]; rfl) | (refine congrArg (fun z_ => #[z_]) (congrArg (Value.int IntKind.u64) (Eq.symm (Go.Proofs.YtjfklfmfeghjnabAid.wrap_len _ (by omega)))))) ?_; (with_reducible refine (wire_Get.calls k _ _ l0 t135 t136 t137 _ ?side1 ?side2 A3.out).mono ?_); (case side1 => repeat (first | exact HR0.out | (with_reducible refine Kd.C_alloc ?_ _) | (with_reducible refine Kd.C_drewN ?_ _) | (with_reducible refine Kd.C_drew ?_))); (case side2 => exact HC0.out); rintro e w' ⟨rfl, ⟨nd, rfl⟩⟩; refine ⟨_, rfl, ?_⟩))
      go_ret3
      exact ⟨by first | rfl | (simp [errW_none, errW_some] <;> rfl) | (simp only [← hji5]; first | rfl | (simp [errW_none, errW_some] <;> rfl)) | (simp [*, errW_none, errW_some] <;> rfl), by repeat (first | (with_reducible first | exact HB.out | apply below_alloc | apply pw_below_drewN | apply below_drew1) | exact HB.out)⟩
    · rw [if_neg c6] at H
      have c6b0 : decide ((IntKind.u64.wrap (ji5)) < t135) = false := decide_eq_false c6
      clear c6
      by_cases c7 : t135 > (IntKind.u64.wrap (wrap64 ((l0.length : Int) - t136)))
      · rw [if_pos c7] at H
        have c7b0 : decide ((IntKind.u64.wrap (wrap64 ((l0.length : Int) - t136))) < t135) = true := decide_eq_true c7
        clear c7
        simp only [Option.some.injEq, Prod.mk.injEq] at H
        obtain ⟨rfl, rfl, rfl⟩ := H
        go_enter Try.func113, Try.ntmps113
        go_wp2_with (first | ((with_reducible refine gate_callee (f := 83) rfl ?_); refine goesL_ (some 13) rfl rfl Try.func83 (by kernel_rfl) rfl #[.slice A0 l0.length c0] rfl (by (try simp only [List.map_toArray, List.map_cons, List.map_nil]); first | done | rfl | (simp only [List.length_drop, List.length_take]; rfl) | (refine congrArg (fun z_ => #[z_]) (congrArg (Value.int IntKind.u64) (Eq.symm (Go.Proofs.YtjfklfmfeghjnabAid.wrap_len _ (by omega)))))) ?_; (with_reducible refine (wire_Get.calls k _ _ l0 t135 t136 t137 _ ?side1 ?side2 A3.out).mono ?_); (case side1 => repeat (first | exact HR0.out | (with_reducible refine Kd.C_alloc ?_ _) | (with_reducible refine Kd.C_drewN ?_ _) | (with_reducible refine Kd.C_drew ?_))); (case side2 => exact HC0.out); rintro e w' ⟨rfl, ⟨nd, rfl⟩⟩; refine ⟨_, rfl, ?_⟩))
        go_ret3
        exact ⟨by first | rfl | (simp [errW_none, errW_some] <;> rfl) | (simp only [← hji5]; first | rfl | (simp [errW_none, errW_some] <;> rfl)) | (simp [*, errW_none, errW_some] <;> rfl), by repeat (first | (with_reducible first | exact HB.out | apply below_alloc | apply pw_below_drewN | apply below_drew1) | exact HB.out)⟩
      · rw [if_neg c7] at H
        have c7b0 : decide ((IntKind.u64.wrap (wrap64 ((l0.length : Int) - t136))) < t135) = false := decide_eq_false c7
        clear c7
        by_cases c8 : 0 ≤ t136
        · rw [if_pos c8] at H
          have c8b0 := eq_true c8
          have c8b1 : decide (0 ≤ t136) = true := decide_eq_true c8
          clear c8
          by_cases c9 : t136 ≤ (wrap64 (t136 + (wrap64 (t135))))
          · rw [if_pos c9] at H
            have c9b0 := eq_true c9
            have c9b1 : decide (t136 ≤ (wrap64 (t136 + (wrap64 (t135))))) = true := decide_eq_true c9
            by_cases c10 : (wrap64 (t136 + (wrap64 (t135)))) ≤ (l0.length : Int)
            · rw [if_pos c10] at H
              have c10b0 := eq_true c10
              have c10b1 : decide ((wrap64 (t136 + (wrap64 (t135)))) ≤ (l0.length : Int)) = true := decide_eq_true c10
              simp only [Option.some.injEq, Prod.mk.injEq] at H
              obtain ⟨rfl, rfl, rfl⟩ := H
              go_enter Try.func113, Try.ntmps113
              go_wp2_with (first | ((with_reducible refine gate_callee (f := 83) rfl ?_); refine goesL_ (some 13) rfl rfl Try.func83 (by kernel_rfl) rfl #[.slice A0 l0.length c0] rfl (by (try simp only [List.map_toArray, List.map_cons, List.map_nil]); first | done | rfl | (simp only [List.length_drop, List.length_take]; rfl) | (refine congrArg (fun z_ => #[z_]) (congrArg (Value.int IntKind.u64) (Eq.symm (Go.Proofs.YtjfklfmfeghjnabAid.wrap_len _ (by omega)))))) ?_; (with_reducible refine (wire_Get.calls k _ _ l0 t135 t136 t137 _ ?side1 ?side2 A3.out).mono ?_); (case side1 => repeat (first | exact HR0.out | (with_reducible refine Kd.C_alloc ?_ _) | (with_reducible refine Kd.C_drewN ?_ _) | (with_reducible refine Kd.C_drew ?_))); (case side2 => exact HC0.out); rintro e w' ⟨rfl, ⟨nd, rfl⟩⟩; refine ⟨_, rfl, ?_⟩; obtain ⟨i011, hi011, _, hsz11, _⟩ := info_parts info5; obtain ⟨A11, hcut11, hA11, hC11⟩ := print_mid_of (P := Try.prog) (Value.int .u8) 0 71 5 .i64 .i64 Try.underlying71 hi011 hsz11 A0 c0 l0 t136 (wrap64 (t136 + (wrap64 (t135)))) (of_decide_eq_true (by first | (with_reducible assumption) | assumption)) (by first | omega | exact of_decide_eq_true (by first | (with_reducible assumption) | assumption)) (of_decide_eq_true (by first | (with_reducible assumption) | assumption)) HC0.out; have HR138 := Aside0.mk (Kd.C_of_reads (h1 := fun _ => rfl) (hA11 _ (Kd.reads_of_C HR0.out))); have HC138 := Aside0.mk hC11; clear hA11 hC11 hi011 hsz11; have hcv12 := Kd.C_string (P := Try.prog) (A := A11) (c := (c0 - t136.toNat)) Try.underlying71 Try.underlying5 Try.underlying9 HR138.out; have hcv14 := Kd.C_string (P := Try.prog) (A := A11) (c := (c0 - t136.toNat)) Try.underlying71 Try.underlying5 Try.underlying9 HR138.out; (try rw [show ((l0.take ((wrap64 (t136 + (wrap64 (t135)))) : Int).toNat).drop (t136 : Int).toNat).length = ((wrap64 (t136 + (wrap64 (t135)))).toNat - t136.toNat) from (by rw [List.length_drop, List.length_take]; have h_ : ((wrap64 (t136 + (wrap64 (t135)))) : Int) ≤ (l0.length : Int) := of_decide_eq_true (by first | (with_reducible assumption) | assumption); omega)] at hcv14); have hcv15 := fun m_ : Nat => Kd.C_string (P := Try.prog) (A := A11) (c := (c0 - t136.toNat)) Try.underlying71 Try.underlying5 Try.underlying9 (Kd.C_drewN HR138.out m_); have hcv16 := fun m_ : Nat => Kd.C_string (P := Try.prog) (A := A11) (c := (c0 - t136.toNat)) Try.underlying71 Try.underlying5 Try.underlying9 (Kd.C_drewN HR138.out m_); (try rw [show ((l0.take ((wrap64 (t136 + (wrap64 (t135)))) : Int).toNat).drop (t136 : Int).toNat).length = ((wrap64 (t136 + (wrap64 (t135)))).toNat - t136.toNat) from (by rw [List.length_drop, List.length_take]; have h_ : ((wrap64 (t136 + (wrap64 (t135)))) : Int) ≤ (l0.length : Int) := of_decide_eq_true (by first | (with_reducible assumption) | assumption); omega)] at hcv16)))
              go_ret3
              exact ⟨by first | rfl | (simp [errW_none, errW_some] <;> rfl) | (simp only [← hji5]; first | rfl | (simp [errW_none, errW_some] <;> rfl)) | (simp [*, errW_none, errW_some] <;> rfl), by repeat (first | (with_reducible first | exact HB.out | apply below_alloc | apply pw_below_drewN | apply below_drew1) | exact HB.out)⟩
            · rw [if_neg c10] at H
              exact absurd H (by simp)
          · rw [if_neg c9] at H
            exact absurd H (by simp)
        · rw [if_neg c8] at H
          exact absurd H (by simp)
  · rw [if_neg c4] at H
    have c4b0 : (t137 == 0) = false := beq_eq_false_iff_ne.mpr c4
    have c4b1 : (t137 != 0) = true := bne_iff_ne.mpr c4
    simp only [Option.some.injEq, Prod.mk.injEq] at H
    obtain ⟨rfl, rfl, rfl⟩ := H
    go_enter Try.func113, Try.ntmps113
    go_wp2_with (first | ((with_reducible refine gate_callee (f := 83) rfl ?_); refine goesL_ (some 13) rfl rfl Try.func83 (by kernel_rfl) rfl #[.slice A0 l0.length c0] rfl (by (try simp only [List.map_toArray, List.map_cons, List.map_nil]); first | done | rfl | (simp only [List.length_drop, List.length_take]; rfl) | (refine congrArg (fun z_ => #[z_]) (congrArg (Value.int IntKind.u64) (Eq.symm (Go.Proofs.YtjfklfmfeghjnabAid.wrap_len _ (by omega)))))) ?_; (with_reducible refine (wire_Get.calls k _ _ l0 t135 t136 t137 _ ?side1 ?side2 A3.out).mono ?_); (case side1 => repeat (first | exact HR0.out | (with_reducible refine Kd.C_alloc ?_ _) | (with_reducible refine Kd.C_drewN ?_ _) | (with_reducible refine Kd.C_drew ?_))); (case side2 => exact HC0.out); rintro e w' ⟨rfl, ⟨nd, rfl⟩⟩; refine ⟨_, rfl, ?_⟩))
    go_ret3
    exact ⟨by first | rfl | (simp [errW_none, errW_some] <;> rfl) | (simp [*, errW_none, errW_some] <;> rfl), by repeat (first | (with_reducible first | exact HB.out | apply below_alloc | apply pw_below_drewN | apply below_drew1) | exact HB.out)⟩

/-! ### cursor_Cursor_Text: function 94 -/
section
open Go.Proofs.YtjfklfmfeghjnabAid

def cursor_Cursor_Text_1.f (k : Nat) (l0 : List Int) (a1 : Int) : Option (ByteArray × Int × Int) := (blob_Get.f k l0 a1).bind fun bt110 => (some (bt110.1, bt110.2.1, bt110.2.2))
theorem cursor_Cursor_Text_1.mono : ∀ a0 a1 k, LeO (cursor_Cursor_Text_1.f k a0 a1) (cursor_Cursor_Text_1.f (k + 1) a0 a1) := by
  intro a0 a1 k
  unfold cursor_Cursor_Text_1.f
  repeat' first
      | (with_reducible exact blob_Get.mono _ _ _)
      | (with_reducible exact LeO.refl _)
      | (with_reducible exact LeO.none _)
      | (with_reducible refine LeO.ite ?_ ?_)
      | (with_reducible refine LeO.bind ?_ (fun _ => ?_))
      | exact blob_Get.mono _ _ _
      | exact LeO.none _
      | refine LeO.ite ?_ ?_
      | refine LeO.bind ?_ (fun _ => ?_)
set_option maxHeartbeats 8000000 in
set_option maxRecDepth 100000 in
theorem cursor_Cursor_Text_1.calls (k : Nat) (A0 : Option Addr) (c0 : Nat) (l0 : List Int) (a1 : Int) (r1 : ByteArray) (r2 : Int) (r3 : Int) (cb : Nat) (w : World) (hcell : w.cell? ⟨cb, 0, none⟩ = some (.int .i64 a1)) (hr0 : Kd.C (Kd.int .u8) w A0 l0.length l0) (hc0 : l0.length ≤ c0) (h : cursor_Cursor_Text_1.f k l0 a1 = some (r1, r2, r3)) :
    Calls Try.prog 112 #[.slice A0 l0.length c0, .pointer (some ⟨cb, 0, none⟩)] w fun e w' => e = .returned (.tuple #[.string r1, .int .i64 r2, .int .i64 r3]) ∧ Below w.heap.size w w' := by
  have HR0 := Aside0.mk hr0
  have HC0 := Aside0.mk hc0
  clear hr0 hc0
  have HB := Aside0.mk (Below.refl w.heap.size w)
  have H : ((blob_Get.f k l0 a1).bind fun bt110 => (some (bt110.1, bt110.2.1, bt110.2.2))) = some (r1, r2, r3) := h
  clear h
  replace H := Option.bind_eq_some_iff.mp H
  obtain ⟨⟨t110, t111, t112⟩, A30, H⟩ := H
  replace H : (some (t110, t111, t112)) = some (r1, r2, r3) := H
  have A3 := Aside0.mk A30
  clear A30
  simp only [Option.some.injEq, Prod.mk.injEq] at H
  obtain ⟨rfl, rfl, rfl⟩ := H
  go_enter Try.func112, Try.ntmps112
  go_wp2_with (first | ((with_reducible refine gate_callee (f := 113) rfl ?_); refine goesL_ (some 8) rfl rfl Try.func113 (by kernel_rfl) rfl #[.slice A0 l0.length c0, .int .i64 a1] rfl (by (try simp only [List.map_toArray, List.map_cons, List.map_nil]); first | done | rfl | (simp only [List.length_drop, List.length_take]; rfl) | (refine congrArg (fun z_ => #[z_]) (congrArg (Value.int IntKind.u64) (Eq.symm (Go.Proofs.YtjfklfmfeghjnabAid.wrap_len _ (by omega)))))) ?_; (with_reducible refine (blob_Get.calls k _ _ l0 a1 t110 t111 t112 _ ?side1 ?side2 A3.out).mono ?_); (case side1 => repeat (first | exact HR0.out | (with_reducible refine Kd.C_alloc ?_ _) | (with_reducible refine Kd.C_drewN ?_ _) | (with_reducible refine Kd.C_drew ?_))); (case side2 => exact HC0.out); rintro e w4 ⟨rfl, hb⟩; refine ⟨_, rfl, ?_⟩; have n0_ := Aside0.mk (below_step (by repeat (first | (with_reducible first | exact HB.out | apply below_alloc | apply pw_below_drewN | apply below_drew1) | exact HB.out)) hb); clear HB; have HB := n0_; clear n0_; (try clear hb); (try clear hb2); (try clear hk); (try clear hi)))
  go_ret3
  exact ⟨by first | rfl | (simp [errW_none, errW_some] <;> rfl) | (simp [*, errW_none, errW_some] <;> rfl), by repeat (first | (with_reducible first | exact HB.out | apply below_alloc | apply pw_below_drewN | apply below_drew1) | exact HB.out)⟩


def cursor_Cursor_Text.f (k : Nat) (s0_0 : ByteArray) (s0_1 : Int) (s0_2 : Int) (a1 : Int) : Option (ByteArray × ByteArray × Int × Int) := cursor_take_out (⟨#[]⟩ : ByteArray) s0_0 s0_1 s0_2 (fun y_ => cursor_Cursor_Text_1.f k y_ a1)
theorem cursor_Cursor_Text.mono : ∀ a0 a1 a2 a3 k, LeO (cursor_Cursor_Text.f k a0 a1 a2 a3) (cursor_Cursor_Text.f (k + 1) a0 a1 a2 a3) := by
  intro a0 a1 a2 a3 k
  exact cursor_take_out.le _ _ _ _ (fun y_ => cursor_Cursor_Text_1.mono _ _ k)
set_option maxHeartbeats 8000000 in
set_option maxRecDepth 100000 in
theorem cursor_Cursor_Text.calls (k : Nat) (g : Nat) (s0_0 : ByteArray) (s0_1 : Int) (s0_2 : Int) (a1 : Int) (r1 : ByteArray) (r2 : ByteArray) (r3 : Int) (r4 : Int) (w0 w : World) (hI : IsS157 w0 w g s0_0 s0_1 s0_2) (hB : Below w0.heap.size w0 w) (h : cursor_Cursor_Text.f k s0_0 s0_1 s0_2 a1 = some (r1, r2, r3, r4)) :
    Calls Try.prog 94 #[.pointer (some ⟨g, 0, none⟩), .int .i64 a1] w fun e w' => e = .returned (.string r1) ∧ IsS157 w0 w' g r2 r3 r4 ∧ Below w0.heap.size w0 w' ∧ KeepBut w w' g none := by
  have HI0 := Aside0.mk hI
  have HK := Aside0.mk (KeepBut.refl w g none)
  have HB := Aside0.mk hB
  clear hB hI
  have H : cursor_take_out (⟨#[]⟩ : ByteArray) s0_0 s0_1 s0_2 (fun y_ => cursor_Cursor_Text_1.f k y_ a1) = some (r1, r2, r3, r4) := h
  clear h
  go_enter Try.func94, Try.ntmps94
  go_wp2_with (first | ((with_reducible refine gate_dst (N := 3) rfl ?_); refine box_event ?hg (N := 3) ?hd (cs := #[.int .i64 a1]) (t := 3) ?hr ?_; (case hd => rfl); (case hg => rfl); (case hr => first | (go_simp; done) | (go_simp; rfl)); intro gb hg w6 hbox hb; have hgb : gb ≠ g := (by rw [hg]; exact Nat.ne_of_gt (IsS157.lt HI0.out)); have hcb : w6.cell? ⟨gb, 0, none⟩ = some (.int .i64 a1) := (blk_cell hbox 0).trans rfl; have n0_ := Aside0.mk (IsS157.below HI0.out hb); have n1_ := Aside0.mk (KeepBut.trans HK.out (KeepBut.of_below hb g none) (.inl rfl)); have n2_ := Aside0.mk (below_step HB.out hb); clear HI0 HK HB; have HI0 := n0_; have HK := n1_; have HB := n2_; clear n0_ n1_ n2_; clear hb hbox hg) | ((with_reducible refine gate_callee (f := 111) rfl ?_); refine goesL_ (some 7) rfl rfl Try.func111 (by kernel_rfl) rfl #[.pointer (some ⟨g, 0, none⟩), .func (.func 112) #[] #[.pointer (some ⟨gb, 0, none⟩)]] rfl (by (try simp only [List.map_toArray, List.map_cons, List.map_nil]); first | done | rfl) ?_; refine (cursor_take_string.gen 112 _ Try.func112 (by kernel_rfl) rfl #[.pointer (some ⟨gb, 0, none⟩)] (fun y_ => cursor_Cursor_Text_1.f k y_ a1) g s0_0 s0_1 s0_2 _ _ _ _ w0 _ HI0.out HB.out (fun y_ t_ n_ e_ hy_ A_ c_ w1_ hk_ hr_ hc_ => (show Calls Try.prog 112 #[.slice A_ y_.length c_, .pointer (some ⟨gb, 0, none⟩)] w1_ _ from (cursor_Cursor_Text_1.calls k A_ c_ y_ a1 t_ n_ e_ gb w1_ (keep_cell hk_ hcb hgb) hr_ hc_ hy_).mono (fun x_ w2_ h_ => ⟨h_.1, h_.2⟩))) H).mono ?_; rintro e w7 ⟨rfl, hi, hb, hk⟩; refine ⟨_, rfl, ?_⟩; have n0_ := Aside0.mk (KeepBut.trans HK.out hk (.inl rfl)); have n1_ := Aside0.mk hb; have n2_ := Aside0.mk hi; clear HK HB HI0; have HK := n0_; have HB := n1_; have HI0 := n2_; clear n0_ n1_ n2_ hb hk hi))
  go_ret
  exact ⟨rfl, HI0.out, HB.out, HK.out⟩
end

/-! ### cursor_take_byte: function 114 -/
section
open Go.Proofs.YtjfklfmfeghjnabAid

def cursor_take_byte.T4 : Bool × List (List Nat × List Nat) := (true, [([], []), ([], []), ([1], [1]), ([2], [2]), ([3], [3]), ([], []), ([5], [5]), ([6], [6]), ([7], [7]), ([4, 8], [4, 8]), ([9], [9]), ([0, 10], [0, 10]), ([11], [11]), ([12], [12]), ([12], [12]), ([12], [12]), ([13, 11, 0, 1, 2, 3, 4, 5, 6, 7, 8, 9, 10, 11, 12, 13], [13]), ([14, 16, 0, 1, 2, 3, 4, 5, 6, 7, 8, 9, 10, 11, 12, 13, 14, 16], [14]), ([15, 17, 0, 1, 2, 3, 4, 5, 6, 7, 8, 9, 10, 11, 12, 13, 14, 15, 16, 17], [15])])
def cursor_take_byte.B4 : List Nat := [0, 0, 2, 6, 14, 0, 32, 96, 224, 510, 1022, 2047, 4095, 8191, 8191, 8191, 16383, 98303, 262143]
theorem cursor_take_byte.tab4 : rtab .any (opsOf Try.f114 4) = cursor_take_byte.T4 := by kernel_rfl
theorem cursor_take_byte.bits4 : waitsOk cursor_take_byte.T4.2 cursor_take_byte.B4 = true := by kernel_rfl
set_option maxHeartbeats 8000000 in
set_option maxRecDepth 100000 in
theorem cursor_take_byte.gen (G : FuncId) (fnG : Func) (hfG : Try.prog.funcs[G]? = some fnG) (hnG : (fnG.name == "runtime.NumGoroutine") = false) (hbG : fnG.body.isSome = true) (caps : Array Value) (get : List Int → Option (Int × Int × Int)) (g : Nat) (s0_0 : ByteArray) (s0_1 : Int) (s0_2 : Int) (r1 : Int) (r2 : ByteArray) (r3 : Int) (r4 : Int) (w0 w : World) (hI : IsS157 w0 w g s0_0 s0_1 s0_2) (hB : Below w0.heap.size w0 w)
    (hget : ∀ (y : List Int) (t : Int) (n e : Int), get y = some (t, n, e) → ∀ (A : Option Addr) (c : Nat) (w1 : World), KeepBut w w1 g none → (Kd.int .u8).C w1 A y.length y → y.length ≤ c → Calls Try.prog G (#[.slice A y.length c] ++ caps) w1 fun e_ w' => e_ = .returned (.tuple #[.int .u8 t, .int .i64 n, .int .i64 e]) ∧ Below w1.heap.size w1 w')
    (h : cursor_take_out (0 : Int) s0_0 s0_1 s0_2 get = some (r1, r2, r3, r4)) :
    Calls Try.prog 114 #[.pointer (some ⟨g, 0, none⟩), .func (.func G) #[] caps] w fun e w' => e = .returned (.int .u8 r1) ∧ IsS157 w0 w' g r2 r3 r4 ∧ Below w0.heap.size w0 w' ∧ KeepBut w w' g none := by
  have HI0 := Aside0.mk hI
  have HK := Aside0.mk (KeepBut.refl w g none)
  have HW0 := Aside0.mk hB.size
  have HB := Aside0.mk hB
  clear hB hI
  unfold cursor_take_out at h
  have H := h
  clear h
  by_cases c3 : s0_2 = 0
  · rw [if_pos c3] at H
    have c3b0 : (s0_2 == 0) = true := beq_iff_eq.mpr c3
    have c3b1 : (s0_2 != 0) = false := bne_eq_false_iff_eq.mpr c3
    clear c3
    by_cases c4 : 0 ≤ s0_1
    · rw [if_pos c4] at H
      have c4b0 := eq_true c4
      have c4b1 : decide (0 ≤ s0_1) = true := decide_eq_true c4
      clear c4
      by_cases c5 : s0_1 ≤ (s0_0.size : Int)
      · rw [if_pos c5] at H
        have c5b0 := eq_true c5
        have c5b1 : decide (s0_1 ≤ (s0_0.size : Int)) = true := decide_eq_true c5
        clear c5
        by_cases c6 : (s0_0.extract (s0_1 : Int).toNat s0_0.size).size ≤ 9223372036854775807
        · rw [if_pos c6] at H
          have c6b1 : decide ((s0_0.extract (s0_1 : Int).toNat s0_0.size).size ≤ 9223372036854775807) = true := decide_eq_true c6
          clear c6
          obtain ⟨y106, hy106⟩ : ∃ y_ : List Int, y_ = (bytesOf (s0_0.extract (s0_1 : Int).toNat s0_0.size)) := ⟨_, rfl⟩
          rw [← hy106] at H
          have Ny106 := Aside0.mk hy106
          clear hy106
          replace H := Option.bind_eq_some_iff.mp H
          obtain ⟨⟨t107, t108, t109⟩, A70, H⟩ := H
          have A7 := Aside0.mk A70
          clear A70
          dsimp only at H
          obtain ⟨HGz, hgz⟩ := HI0.out
          have hcz_0 := cellS157_0 HGz
          have hcz_1 := cellS157_1 HGz
          have hcz_2 := cellS157_2 HGz
          have hfz_0 := blk_frozen HGz 0
          have hfz_1 := blk_frozen HGz 1
          have hfz_2 := blk_frozen HGz 2
          clear HGz hgz
          go_enter Try.func114, Try.ntmps114
          go_wp2
          have n0_ := Aside0.mk (IsS157.drew HI0.out)
          have n1_ := Aside0.mk (keep_drew HK.out)
          have n2_ := Aside0.mk (below_drew1 HB.out)
          clear HI0 HK HB hcz_0 hcz_1 hcz_2 hfz_0 hfz_1 hfz_2
          have HI0 := n0_
          have HK := n1_
          have HB := n2_
          clear n0_ n1_ n2_
          refine start_ (n := 19) (S := fun w' => w'.cell? ⟨g, 0, none⟩ = some (.string s0_0) ∧ w'.cell? ⟨g, 1, none⟩ = some (.int .i64 s0_1)) (ds := []) #[false, false, false, false, false, false, false, false, false, false, false, false, false, false, false, false, false, false, false] (by kernel_rfl) rfl rfl ⟨(cellS157_0 HI0.out.1), (cellS157_1 HI0.out.1)⟩ (fun hHeld => ?_)
          refine with_tabW cursor_take_byte.tab4 cursor_take_byte.bits4 (fun HT_ HW_ => ?_)
          generalize w.drew = w4 at HI0 HK HB hHeld ⊢
          refine pure_ (i := 0) (N := some 16) (v := ?_) (a' := ?_) #[true, false, false, false, false, false, false, false, false, false, false, false, false, false, false, false, false, false, false] rfl rfl (any_of HT_.out (by kernel_rfl)) (fun _ _ _ h => h) (Or.inl ⟨by rfl, ?_⟩) ?_ ?_
          rotate_left
          · intro w'
            go_simp
            with_reducible rfl
          rotate_left
          · simp only [Act.put, List.setIfInBounds_toArray, List.set_cons_zero, List.set_cons_succ, i64_w, i32_w]
            rfl
          refine pure_ (i := 1) (N := some 17) (v := ?_) (a' := ?_) #[true, true, false, false, false, false, false, false, false, false, false, false, false, false, false, false, false, false, false] rfl rfl (any_of HT_.out (by kernel_rfl)) (fun _ _ _ h => h) (Or.inl ⟨by rfl, ?_⟩) ?_ ?_
          rotate_left
          · intro w'
            go_simp
            with_reducible rfl
          rotate_left
          · simp only [Act.put, List.setIfInBounds_toArray, List.set_cons_zero, List.set_cons_succ, i64_w, i32_w]
            rfl
          refine pure_ (i := 2) (N := some 18) (v := ?_) (a' := ?_) #[true, true, true, false, false, false, false, false, false, false, false, false, false, false, false, false, false, false, false] rfl rfl (any_of HT_.out (by kernel_rfl)) (fun _ _ _ h => h) (Or.inl ⟨by rfl, ?_⟩) ?_ ?_
          rotate_left
          · intro w'
            go_simp
            with_reducible rfl
          rotate_left
          · simp only [Act.put, List.setIfInBounds_toArray, List.set_cons_zero, List.set_cons_succ, i64_w, i32_w]
            rfl
          refine pure_ (i := 3) (N := some 19) (v := ?_) (a' := ?_) #[true, true, true, true, false, false, false, false, false, false, false, false, false, false, false, false, false, false, false] rfl rfl (any_of HT_.out (by kernel_rfl)) (fun _ _ _ h => h) (Or.inl ⟨by rfl, ?_⟩) ?_ ?_
          rotate_left
          · intro w'
            go_simp
            with_reducible rfl
          rotate_left
          · simp only [Act.put, List.setIfInBounds_toArray, List.set_cons_zero, List.set_cons_succ, i64_w, i32_w]
            rfl
          refine pure_ (i := 5) (N := some 21) (v := ?_) (a' := ?_) #[true, true, true, true, false, true, false, false, false, false, false, false, false, false, false, false, false, false, false] rfl rfl (any_of HT_.out (by kernel_rfl)) (fun _ _ _ h => h) (Or.inl ⟨by rfl, ?_⟩) ?_ ?_
          rotate_left
          · intro w'
            go_simp
            with_reducible rfl
          rotate_left
          · simp only [Act.put, List.setIfInBounds_toArray, List.set_cons_zero, List.set_cons_succ, i64_w, i32_w]
            rfl
          refine pure_ (i := 6) (N := some 22) (v := ?_) (a' := ?_) #[true, true, true, true, false, true, true, false, false, false, false, false, false, false, false, false, false, false, false] rfl rfl (any_of HT_.out (by kernel_rfl)) (fun _ _ _ h => h) (Or.inl ⟨by rfl, ?_⟩) ?_ ?_
          rotate_left
          · intro w'
            go_simp
            with_reducible rfl
          rotate_left
          · simp only [Act.put, List.setIfInBounds_toArray, List.set_cons_zero, List.set_cons_succ, i64_w, i32_w]
            rfl
          refine pure_ (i := 7) (N := some 23) (v := ?_) (a' := ?_) #[true, true, true, true, false, true, true, true, false, false, false, false, false, false, false, false, false, false, false] rfl rfl (any_of HT_.out (by kernel_rfl)) (fun _ _ _ h => h) (Or.inl ⟨by rfl, ?_⟩) ?_ ?_
          rotate_left
          · intro w'
            go_simp
            with_reducible rfl
          rotate_left
          · simp only [Act.put, List.setIfInBounds_toArray, List.set_cons_zero, List.set_cons_succ, i64_w, i32_w]
            rfl
          refine take_ (i := 4) (N := some 20) (v := ?_) (a' := ?_) #[true, true, true, true, true, true, true, true, false, false, false, false, false, false, false, false, false, false, false] rfl rfl (take_ofW HT_.out HW_.out (by kernel_rfl)) (fun _ _ _ h => h) (Or.inl ⟨by rfl, ?_⟩) hHeld ?_ ?_
          rotate_left
          · rintro w' ⟨s0, s1⟩
            go_simp
            with_reducible rfl
          rotate_left
          · simp only [Act.put, List.setIfInBounds_toArray, List.set_cons_zero, List.set_cons_succ, i64_w, i32_w]
            rfl
          refine take_ (i := 8) (N := some 24) (v := ?_) (a' := ?_) #[true, true, true, true, true, true, true, true, true, false, false, false, false, false, false, false, false, false, false] rfl rfl (take_ofW HT_.out HW_.out (by kernel_rfl)) (fun _ _ _ h => h) (Or.inl ⟨by rfl, ?_⟩) hHeld ?_ ?_
          rotate_left
          · rintro w' ⟨s0, s1⟩
            go_simp
            with_reducible rfl
          rotate_left
          · simp only [Act.put, List.setIfInBounds_toArray, List.set_cons_zero, List.set_cons_succ, i64_w, i32_w]
            rfl
          refine pure_ (i := 9) (N := some 25) (v := ?_) (a' := ?_) #[true, true, true, true, true, true, true, true, true, true, false, false, false, false, false, false, false, false, false] rfl rfl (any_of HT_.out (by kernel_rfl)) (fun _ _ _ h => h) (Or.inl ⟨by rfl, ?_⟩) ?_ ?_
          rotate_left
          · intro w'
            go_simp
            with_reducible rfl
          rotate_left
          · simp only [Act.put, List.setIfInBounds_toArray, List.set_cons_zero, List.set_cons_succ, i64_w, i32_w]
            rfl
          refine one_ (i := 10) (N := some 26) #[true, true, true, true, true, true, true, true, true, true, true, false, false, false, false, false, false, false, false] rfl rfl (one_of HT_.out (by kernel_rfl)) (by decide) (fun K hK => ?_)
          refine conv_bytes_step _ (by rfl) (N := 26) rfl 9 71 5 _ rfl (s0_0.extract (s0_1 : Int).toNat s0_0.size) Try.underlying9 Try.underlying71 Try.underlying5 rfl (of_decide_eq_true c6b1) (Below.refl _ _) (Nat.le_refl _) ?_
          intro A105 c105 n105_ w10 hn_ hs_ hc_ hb hg_
          clear hg_
          obtain rfl : n105_ = y106.length := (by rw [hn_, Ny106.out])
          rw [← Ny106.out] at hs_
          have n0_ := Aside0.mk (IsS157.below HI0.out hb)
          have n1_ := Aside0.mk (KeepBut.trans HK.out (KeepBut.of_below hb g none) (.inl rfl))
          have n2_ := Aside0.mk (below_step HB.out hb)
          clear HI0 HK HB
          have HI0 := n0_
          have HK := n1_
          have HB := n2_
          clear n0_ n1_ n2_
          have HR105 := Aside0.mk hs_
          have HC105 := Aside0.mk hc_
          clear hb hs_ hc_ hn_
          refine hK.out _ _ ⟨(cellS157_0 HI0.out.1), (cellS157_1 HI0.out.1)⟩ (fun hHeld => ?_)
          clear hK K
          refine norm_ (a' := ?_) ?_ ?_
          rotate_left
          · show Act.put _ (some 26) _ = _
            simp only [Act.put, List.setIfInBounds_toArray, List.set_cons_zero, List.set_cons_succ, i64_w, i32_w]
            rfl
          refine one_ (i := 11) (N := some 27) #[true, true, true, true, true, true, true, true, true, true, true, true, false, false, false, false, false, false, false] rfl rfl (one_of HT_.out (by kernel_rfl)) (by decide) (fun K hK => ?_)
          refine goesVs_ hfG hnG hbG #[.slice A105 y106.length c105] caps _ (by rfl) rfl rfl rfl (by simp only [List.map_toArray, List.map_cons, List.map_nil]; rfl) ?_
          refine (hget _ _ _ _ A7.out _ _ _ HK.out HR105.out HC105.out).mono ?_
          rintro e w11 ⟨rfl, hb⟩
          refine ⟨_, rfl, ?_⟩
          have n0_ := Aside0.mk (IsS157.below HI0.out hb)
          have n1_ := Aside0.mk (KeepBut.trans HK.out (KeepBut.of_below hb g none) (.inl rfl))
          have n2_ := Aside0.mk (below_step HB.out hb)
          clear HI0 HK HB
          have HI0 := n0_
          have HK := n1_
          have HB := n2_
          clear n0_ n1_ n2_
          clear hb
          refine hK.out _ _ ⟨(cellS157_0 HI0.out.1), (cellS157_1 HI0.out.1)⟩ (fun hHeld => ?_)
          clear hK K
          refine norm_ (a' := ?_) ?_ ?_
          rotate_left
          · show Act.put _ (some 27) _ = _
            simp only [Act.put, List.setIfInBounds_toArray, List.set_cons_zero, List.set_cons_succ, i64_w, i32_w]
            rfl
          refine pure_ (i := 12) (N := some 15) (v := ?_) (a' := ?_) #[true, true, true, true, true, true, true, true, true, true, true, true, true, false, false, false, false, false, false] rfl rfl (any_of HT_.out (by kernel_rfl)) (fun _ _ _ h => h) (Or.inl ⟨by rfl, ?_⟩) ?_ ?_
          rotate_left
          · intro w'
            go_simp
            with_reducible rfl
          rotate_left
          · simp only [Act.put, List.setIfInBounds_toArray, List.set_cons_zero, List.set_cons_succ, i64_w, i32_w]
            rfl
          refine pure_ (i := 13) (N := some 28) (v := ?_) (a' := ?_) #[true, true, true, true, true, true, true, true, true, true, true, true, true, true, false, false, false, false, false] rfl rfl (any_of HT_.out (by kernel_rfl)) (fun _ _ _ h => h) (Or.inl ⟨by rfl, ?_⟩) ?_ ?_
          rotate_left
          · intro w'
            go_simp
            with_reducible rfl
          rotate_left
          · simp only [Act.put, List.setIfInBounds_toArray, List.set_cons_zero, List.set_cons_succ, i64_w, i32_w]
            rfl
          refine pure_ (i := 14) (N := some 29) (v := ?_) (a' := ?_) #[true, true, true, true, true, true, true, true, true, true, true, true, true, true, true, false, false, false, false] rfl rfl (any_of HT_.out (by kernel_rfl)) (fun _ _ _ h => h) (Or.inl ⟨by rfl, ?_⟩) ?_ ?_
          rotate_left
          · intro w'
            go_simp
            with_reducible rfl
          rotate_left
          · simp only [Act.put, List.setIfInBounds_toArray, List.set_cons_zero, List.set_cons_succ, i64_w, i32_w]
            rfl
          refine pure_ (i := 15) (N := some 30) (v := ?_) (a' := ?_) #[true, true, true, true, true, true, true, true, true, true, true, true, true, true, true, true, false, false, false] rfl rfl (any_of HT_.out (by kernel_rfl)) (fun _ _ _ h => h) (Or.inl ⟨by rfl, ?_⟩) ?_ ?_
          rotate_left
          · intro w'
            go_simp
            with_reducible rfl
          rotate_left
          · simp only [Act.put, List.setIfInBounds_toArray, List.set_cons_zero, List.set_cons_succ, i64_w, i32_w]
            rfl
          refine pure_ (i := 16) (N := some 6) (v := ?_) (a' := ?_) #[true, true, true, true, true, true, true, true, true, true, true, true, true, true, true, true, true, false, false] rfl rfl (any_of HT_.out (by kernel_rfl)) (fun _ _ _ h => h) (Or.inl ⟨by rfl, ?_⟩) ?_ ?_
          rotate_left
          · intro w'
            go_simp
            with_reducible rfl
          rotate_left
          · simp only [Act.put, List.setIfInBounds_toArray, List.set_cons_zero, List.set_cons_succ, i64_w, i32_w]
            rfl
          refine pure_ (i := 17) (N := some 7) (v := ?_) (a' := ?_) #[true, true, true, true, true, true, true, true, true, true, true, true, true, true, true, true, true, true, false] rfl rfl (any_of HT_.out (by kernel_rfl)) (fun _ _ _ h => h) (Or.inl ⟨by rfl, ?_⟩) ?_ ?_
          rotate_left
          · intro w'
            go_simp
            with_reducible rfl
          rotate_left
          · simp only [Act.put, List.setIfInBounds_toArray, List.set_cons_zero, List.set_cons_succ, i64_w, i32_w]
            rfl
          refine pure_ (i := 18) (N := some 8) (v := ?_) (a' := ?_) #[true, true, true, true, true, true, true, true, true, true, true, true, true, true, true, true, true, true, true] rfl rfl (any_of HT_.out (by kernel_rfl)) (fun _ _ _ h => h) (Or.inl ⟨by rfl, ?_⟩) ?_ ?_
          rotate_left
          · intro w'
            go_simp
            with_reducible rfl
          rotate_left
          · simp only [Act.put, List.setIfInBounds_toArray, List.set_cons_zero, List.set_cons_succ, i64_w, i32_w]
            rfl
          refine done_ (done_of HT_.out (by kernel_rfl)) ?_

          obtain ⟨HGz, hgz⟩ := HI0.out
          have hcz_0 := cellS157_0 HGz
          have hcz_1 := cellS157_1 HGz
          have hcz_2 := cellS157_2 HGz
          have hfz_0 := blk_frozen HGz 0
          have hfz_1 := blk_frozen HGz 1
          have hfz_2 := blk_frozen HGz 2
          clear HGz hgz
          by_cases c8 : t109 = 0
          · rw [if_pos c8] at H
            have c8b0 : (t109 == 0) = true := beq_iff_eq.mpr c8
            have c8b1 : (t109 != 0) = false := bne_eq_false_iff_eq.mpr c8
            simp only [Option.some.injEq, Prod.mk.injEq] at H
            obtain ⟨rfl, rfl, rfl, rfl⟩ := H
            clear c8
            go_wp2
            go_ret
            exact ⟨by first | rfl | (simp [*] <;> rfl), (by repeat (first | (with_reducible first | exact HI0.out | apply IsS157.alloc | apply IsS157.drewN | apply IsS157.drew | apply IsS157.set_0 | apply IsS157.set_1 | apply IsS157.set_2) | exact HI0.out)), (by repeat (first | (with_reducible first | exact HB.out | apply below_alloc | apply pw_below_drewN | apply below_drew1 | refine below_set ?_ (IsS157.ge HI0.out)) | exact HB.out)), (by repeat (first | (with_reducible first | exact HK.out | apply KeepBut.set_ | apply keep_drewN | apply keep_drew | apply keep_alloc) | exact HK.out))⟩
          · rw [if_neg c8] at H
            have c8b0 : (t109 == 0) = false := beq_eq_false_iff_ne.mpr c8
            have c8b1 : (t109 != 0) = true := bne_iff_ne.mpr c8
            simp only [Option.some.injEq, Prod.mk.injEq] at H
            obtain ⟨rfl, rfl, rfl, rfl⟩ := H
            go_wp2
            go_ret
            exact ⟨by first | rfl | (simp [*] <;> rfl), (by repeat (first | (with_reducible first | exact HI0.out | apply IsS157.alloc | apply IsS157.drewN | apply IsS157.drew | apply IsS157.set_0 | apply IsS157.set_1 | apply IsS157.set_2) | exact HI0.out)), (by repeat (first | (with_reducible first | exact HB.out | apply below_alloc | apply pw_below_drewN | apply below_drew1 | refine below_set ?_ (IsS157.ge HI0.out)) | exact HB.out)), (by repeat (first | (with_reducible first | exact HK.out | apply KeepBut.set_ | apply keep_drewN | apply keep_drew | apply keep_alloc) | exact HK.out))⟩
        · rw [if_neg c6] at H
          exact absurd H (by simp)
      · rw [if_neg c5] at H
        exact absurd H (by simp)
    · rw [if_neg c4] at H
      exact absurd H (by simp)
  · rw [if_neg c3] at H
    have c3b0 : (s0_2 == 0) = false := beq_eq_false_iff_ne.mpr c3
    have c3b1 : (s0_2 != 0) = true := bne_iff_ne.mpr c3
    simp only [Option.some.injEq, Prod.mk.injEq] at H
    obtain ⟨rfl, rfl, rfl, rfl⟩ := H
    obtain ⟨HGz, hgz⟩ := HI0.out
    have hcz_0 := cellS157_0 HGz
    have hcz_1 := cellS157_1 HGz
    have hcz_2 := cellS157_2 HGz
    have hfz_0 := blk_frozen HGz 0
    have hfz_1 := blk_frozen HGz 1
    have hfz_2 := blk_frozen HGz 2
    clear HGz hgz
    go_enter Try.func114, Try.ntmps114
    go_wp2
    go_ret
    exact ⟨by first | rfl | (simp [*] <;> rfl), (by repeat (first | (with_reducible first | exact HI0.out | apply IsS157.alloc | apply IsS157.drewN | apply IsS157.drew | apply IsS157.set_0 | apply IsS157.set_1 | apply IsS157.set_2) | exact HI0.out)), (by repeat (first | (with_reducible first | exact HB.out | apply below_alloc | apply pw_below_drewN | apply below_drew1 | refine below_set ?_ (IsS157.ge HI0.out)) | exact HB.out)), (by repeat (first | (with_reducible first | exact HK.out | apply KeepBut.set_ | apply keep_drewN | apply keep_drew | apply keep_alloc) | exact HK.out))⟩
end

/-! ### cursor_Cursor_Byte: function 95 -/
section
open Go.Proofs.YtjfklfmfeghjnabAid

def cursor_Cursor_Byte_1.f (l0 : List Int) : Option (Int × Int × Int) := if (l0.length : Int) = 0 then (some (0, 0, 2)) else (if 0 < (l0.length : Int) then (some (rd l0 0, 1, 0)) else (none))
set_option maxHeartbeats 8000000 in
set_option maxRecDepth 100000 in
theorem cursor_Cursor_Byte_1.calls (A0 : Option Addr) (c0 : Nat) (l0 : List Int) (r1 : Int) (r2 : Int) (r3 : Int) (w : World) (hr0 : Kd.C (Kd.int .u8) w A0 l0.length l0) (hc0 : l0.length ≤ c0) (h : cursor_Cursor_Byte_1.f l0 = some (r1, r2, r3)) :
    Calls Try.prog 115 #[.slice A0 l0.length c0] w fun e w' => e = .returned (.tuple #[.int .u8 r1, .int .i64 r2, .int .i64 r3]) ∧ Drawn0 w w' := by
  have HR0 := Aside0.mk hr0
  have HC0 := Aside0.mk hc0
  clear hr0 hc0
  have H : (if (l0.length : Int) = 0 then (some (0, 0, 2)) else (if 0 < (l0.length : Int) then (some (rd l0 0, 1, 0)) else (none))) = some (r1, r2, r3) := h
  clear h
  by_cases c2 : (l0.length : Int) = 0
  · rw [if_pos c2] at H
    have c2b0 : ((l0.length : Int) == 0) = true := beq_iff_eq.mpr c2
    have c2b1 : ((l0.length : Int) != 0) = false := bne_eq_false_iff_eq.mpr c2
    clear c2
    simp only [Option.some.injEq, Prod.mk.injEq] at H
    obtain ⟨rfl, rfl, rfl⟩ := H
    go_enter Try.func115, Try.ntmps115
    go_wp2
    go_ret3
    exact ⟨by first | rfl | (simp; done) | (simp [*]; done), by repeat (first | exact Drawn0.refl _ | apply Drawn0.step)⟩
  · rw [if_neg c2] at H
    have c2b0 : ((l0.length : Int) == 0) = false := beq_eq_false_iff_ne.mpr c2
    have c2b1 : ((l0.length : Int) != 0) = true := bne_iff_ne.mpr c2
    have c2b2 : ¬ (l0 = []) := fun h_ => c2 (by rw [h_]; rfl)
    by_cases c3 : 0 < (l0.length : Int)
    · rw [if_pos c3] at H
      have c3b0 : decide (0 < (l0.length : Int)) = true := decide_eq_true c3
      have c3b1 : decide (0 < l0.length) = true := decide_eq_true (by omega)
      clear c3
      simp only [Option.some.injEq, Prod.mk.injEq] at H
      obtain ⟨rfl, rfl, rfl⟩ := H
      have p106 : 0 ≤ (0 : Int) := (by omega)
      have q106 : 0 < (l0.length : Int) := of_decide_eq_true (by first | (with_reducible assumption) | assumption)
      obtain ⟨ad106, e106, hx106_0⟩ := Kd.at_int HR0.out 0 p106 q106
      cases e106
      have qi106 : (0 < l0.length) = True := eq_true (by omega)
      (try rw [show ((0 : Int)).toNat = 0 from rfl] at hx106_0)
      (try rw [Addr.add_zero'] at hx106_0)
      replace p106 := eq_true p106
      replace q106 := eq_true q106
      go_enter Try.func115, Try.ntmps115
      go_wp2
      go_ret3
      exact ⟨by first | rfl | (simp; done) | (simp [*]; done), by repeat (first | exact Drawn0.refl _ | apply Drawn0.step)⟩
    · rw [if_neg c3] at H
      exact absurd H (by simp)


def cursor_Cursor_Byte.f (s0_0 : ByteArray) (s0_1 : Int) (s0_2 : Int) : Option (Int × ByteArray × Int × Int) := cursor_take_out (0 : Int) s0_0 s0_1 s0_2 (fun y_ => cursor_Cursor_Byte_1.f y_)
set_option maxHeartbeats 8000000 in
set_option maxRecDepth 100000 in
theorem cursor_Cursor_Byte.calls (g : Nat) (s0_0 : ByteArray) (s0_1 : Int) (s0_2 : Int) (r1 : Int) (r2 : ByteArray) (r3 : Int) (r4 : Int) (w0 w : World) (hI : IsS157 w0 w g s0_0 s0_1 s0_2) (hB : Below w0.heap.size w0 w) (h : cursor_Cursor_Byte.f s0_0 s0_1 s0_2 = some (r1, r2, r3, r4)) :
    Calls Try.prog 95 #[.pointer (some ⟨g, 0, none⟩)] w fun e w' => e = .returned (.int .u8 r1) ∧ IsS157 w0 w' g r2 r3 r4 ∧ Below w0.heap.size w0 w' ∧ KeepBut w w' g none := by
  have HI0 := Aside0.mk hI
  have HK := Aside0.mk (KeepBut.refl w g none)
  have HB := Aside0.mk hB
  clear hB hI
  have H : cursor_take_out (0 : Int) s0_0 s0_1 s0_2 (fun y_ => cursor_Cursor_Byte_1.f y_) = some (r1, r2, r3, r4) := h
  clear h
  go_enter Try.func95, Try.ntmps95
  go_wp2_with (first | ((with_reducible refine gate_callee (f := 114) rfl ?_); refine goesL_ (some 4) rfl rfl Try.func114 (by kernel_rfl) rfl #[.pointer (some ⟨g, 0, none⟩), .func (.func 115) #[] #[]] rfl (by (try simp only [List.map_toArray, List.map_cons, List.map_nil]); first | done | rfl) ?_; refine (cursor_take_byte.gen 115 _ Try.func115 (by kernel_rfl) rfl #[] (fun y_ => cursor_Cursor_Byte_1.f y_) g s0_0 s0_1 s0_2 _ _ _ _ w0 _ HI0.out HB.out (fun y_ t_ n_ e_ hy_ A_ c_ w1_ hk_ hr_ hc_ => (show Calls Try.prog 115 #[.slice A_ y_.length c_] w1_ _ from (cursor_Cursor_Byte_1.calls A_ c_ y_ t_ n_ e_ w1_ hr_ hc_ hy_).mono (fun x_ w2_ h_ => ⟨h_.1, h_.2.below⟩))) H).mono ?_; rintro e w7 ⟨rfl, hi, hb, hk⟩; refine ⟨_, rfl, ?_⟩; have n0_ := Aside0.mk (KeepBut.trans HK.out hk (.inl rfl)); have n1_ := Aside0.mk hb; have n2_ := Aside0.mk hi; clear HK HB HI0; have HK := n0_; have HB := n1_; have HI0 := n2_; clear n0_ n1_ n2_ hb hk hi))
  go_ret
  exact ⟨rfl, HI0.out, HB.out, HK.out⟩
end

end Go.Proofs.Ytjfklfmfeghjnab.PG
