-- Contracts of Go functions, each with its plain Lean function: written by wip/tools/myprint.py of this work (the kit's print, with contracts proved by hand spliced in).
import Derived.Test.YtjfklfmfeghjnacDoorPNx0
namespace Go.Proofs.YtjfklfmfeghjnacDoor.PN
open Go.RowKit Go.Proofs.YtjfklfmfeghjnacDoorW.PrintWords Go.Proofs.YtjfklfmfeghjnacDoorW.PrintLast Go.Proofs.YtjfklfmfeghjnacDoorW.PrintMore
attribute [local go_sem] max2_int min2_int max_two min_two max_three min_three max_four min_four   -- for this text's walks alone
set_option linter.unusedVariables false
set_option linter.unusedSimpArgs false

/-! ### lex_digit: function 13 -/
def lex_digit.f (a0 : Int) : Option (Bool) := if a0 ≥ 48 then (some (decide (a0 ≤ 57))) else (some false)
set_option maxHeartbeats 8000000 in
set_option maxRecDepth 100000 in
theorem lex_digit.calls (a0 : Int) (r : Bool) (w : World) (h : lex_digit.f a0 = some r) :
    Calls Tryd.prog 13 #[.int .u8 a0] w fun e w' => e = .returned (.bool r) ∧ Drawn0 w w' := by
  have H : (if a0 ≥ 48 then (some (decide (a0 ≤ 57))) else (some false)) = some r := h
  clear h
  by_cases c2 : a0 ≥ 48
  · rw [if_pos c2] at H
    have c2b0 : decide (48 ≤ a0) = true := decide_eq_true c2
    clear c2
    obtain rfl := Option.some.inj H
    go_enter Tryd.func13, Tryd.ntmps13
    go_wp2
    go_ret
    exact ⟨by first | rfl | (simp; done) | (simp [*]; done), by repeat (first | exact Drawn0.refl _ | apply Drawn0.step)⟩
  · rw [if_neg c2] at H
    have c2b0 : decide (48 ≤ a0) = false := decide_eq_false c2
    clear c2
    obtain rfl := Option.some.inj H
    go_enter Tryd.func13, Tryd.ntmps13
    go_wp2
    go_ret
    exact ⟨by first | rfl | (simp; done) | (simp [*]; done), by repeat (first | exact Drawn0.refl _ | apply Drawn0.step)⟩

/-! ### lex_letter: function 43 -/
def lex_letter.f (a0 : Int) : Option (Bool) := if a0 ≥ 65 then (if a0 ≤ 90 then (some true) else (if a0 ≥ 97 then (if a0 ≤ 122 then (some true) else (if a0 = 95 then (some true) else ((lex_digit.f a0).bind fun t101 => (some t101)))) else (if a0 = 95 then (some true) else ((lex_digit.f a0).bind fun t102 => (some t102))))) else (if a0 ≥ 97 then (if a0 ≤ 122 then (some true) else (if a0 = 95 then (some true) else ((lex_digit.f a0).bind fun t103 => (some t103)))) else (if a0 = 95 then (some true) else ((lex_digit.f a0).bind fun t104 => (some t104))))
set_option maxHeartbeats 8000000 in
set_option maxRecDepth 100000 in
theorem lex_letter.calls (a0 : Int) (r : Bool) (w : World) (h : lex_letter.f a0 = some r) :
    Calls Tryd.prog 43 #[.int .u8 a0] w fun e w' => e = .returned (.bool r) ∧ Drawn0 w w' := by
  have H : (if a0 ≥ 65 then (if a0 ≤ 90 then (some true) else (if a0 ≥ 97 then (if a0 ≤ 122 then (some true) else (if a0 = 95 then (some true) else ((lex_digit.f a0).bind fun t101 => (some t101)))) else (if a0 = 95 then (some true) else ((lex_digit.f a0).bind fun t102 => (some t102))))) else (if a0 ≥ 97 then (if a0 ≤ 122 then (some true) else (if a0 = 95 then (some true) else ((lex_digit.f a0).bind fun t103 => (some t103)))) else (if a0 = 95 then (some true) else ((lex_digit.f a0).bind fun t104 => (some t104))))) = some r := h
  clear h
  by_cases c2 : a0 ≥ 65
  · rw [if_pos c2] at H
    have c2b0 : decide (65 ≤ a0) = true := decide_eq_true c2
    clear c2
    by_cases c3 : a0 ≤ 90
    · rw [if_pos c3] at H
      have c3b0 : decide (a0 ≤ 90) = true := decide_eq_true c3
      clear c3
      obtain rfl := Option.some.inj H
      go_enter Tryd.func43, Tryd.ntmps43
      go_wp2
      go_ret
      exact ⟨by first | rfl | (simp; done) | (simp [*]; done), by repeat (first | exact Drawn0.refl _ | apply Drawn0.step)⟩
    · rw [if_neg c3] at H
      have c3b0 : decide (a0 ≤ 90) = false := decide_eq_false c3
      clear c3
      by_cases c4 : a0 ≥ 97
      · rw [if_pos c4] at H
        have c4b0 : decide (97 ≤ a0) = true := decide_eq_true c4
        clear c4
        by_cases c5 : a0 ≤ 122
        · rw [if_pos c5] at H
          have c5b0 : decide (a0 ≤ 122) = true := decide_eq_true c5
          clear c5
          obtain rfl := Option.some.inj H
          go_enter Tryd.func43, Tryd.ntmps43
          go_wp2
          go_ret
          exact ⟨by first | rfl | (simp; done) | (simp [*]; done), by repeat (first | exact Drawn0.refl _ | apply Drawn0.step)⟩
        · rw [if_neg c5] at H
          have c5b0 : decide (a0 ≤ 122) = false := decide_eq_false c5
          clear c5
          by_cases c6 : a0 = 95
          · rw [if_pos c6] at H
            have c6b0 : (a0 == 95) = true := beq_iff_eq.mpr c6
            have c6b1 : (a0 != 95) = false := bne_eq_false_iff_eq.mpr c6
            clear c6
            obtain rfl := Option.some.inj H
            go_enter Tryd.func43, Tryd.ntmps43
            go_wp2
            go_ret
            exact ⟨by first | rfl | (simp; done) | (simp [*]; done), by repeat (first | exact Drawn0.refl _ | apply Drawn0.step)⟩
          · rw [if_neg c6] at H
            have c6b0 : (a0 == 95) = false := beq_eq_false_iff_ne.mpr c6
            have c6b1 : (a0 != 95) = true := bne_iff_ne.mpr c6
            replace H := Option.bind_eq_some_iff.mp H
            obtain ⟨t101, A70, H⟩ := H
            replace H : (some t101) = some r := H
            have A7 := Aside0.mk A70
            clear A70
            obtain rfl := Option.some.inj H
            go_enter Tryd.func43, Tryd.ntmps43
            go_wp2_with (first | (go_at_call 13; (with_reducible refine (lex_digit.calls a0 t101 _ A7.out).mono ?_); rintro e w' ⟨rfl, ⟨nd, rfl⟩⟩))
            go_ret
            exact ⟨by first | rfl | (simp; done) | (simp [*]; done), by repeat (first | exact Drawn0.refl _ | apply Drawn0.step)⟩
      · rw [if_neg c4] at H
        have c4b0 : decide (97 ≤ a0) = false := decide_eq_false c4
        clear c4
        by_cases c8 : a0 = 95
        · rw [if_pos c8] at H
          have c8b0 : (a0 == 95) = true := beq_iff_eq.mpr c8
          have c8b1 : (a0 != 95) = false := bne_eq_false_iff_eq.mpr c8
          clear c8
          obtain rfl := Option.some.inj H
          go_enter Tryd.func43, Tryd.ntmps43
          go_wp2
          go_ret
          exact ⟨by first | rfl | (simp; done) | (simp [*]; done), by repeat (first | exact Drawn0.refl _ | apply Drawn0.step)⟩
        · rw [if_neg c8] at H
          have c8b0 : (a0 == 95) = false := beq_eq_false_iff_ne.mpr c8
          have c8b1 : (a0 != 95) = true := bne_iff_ne.mpr c8
          replace H := Option.bind_eq_some_iff.mp H
          obtain ⟨t102, A90, H⟩ := H
          replace H : (some t102) = some r := H
          have A9 := Aside0.mk A90
          clear A90
          obtain rfl := Option.some.inj H
          go_enter Tryd.func43, Tryd.ntmps43
          go_wp2_with (first | (go_at_call 13; (with_reducible refine (lex_digit.calls a0 t102 _ A9.out).mono ?_); rintro e w' ⟨rfl, ⟨nd, rfl⟩⟩))
          go_ret
          exact ⟨by first | rfl | (simp; done) | (simp [*]; done), by repeat (first | exact Drawn0.refl _ | apply Drawn0.step)⟩
  · rw [if_neg c2] at H
    have c2b0 : decide (65 ≤ a0) = false := decide_eq_false c2
    clear c2
    by_cases c10 : a0 ≥ 97
    · rw [if_pos c10] at H
      have c10b0 : decide (97 ≤ a0) = true := decide_eq_true c10
      clear c10
      by_cases c11 : a0 ≤ 122
      · rw [if_pos c11] at H
        have c11b0 : decide (a0 ≤ 122) = true := decide_eq_true c11
        clear c11
        obtain rfl := Option.some.inj H
        go_enter Tryd.func43, Tryd.ntmps43
        go_wp2
        go_ret
        exact ⟨by first | rfl | (simp; done) | (simp [*]; done), by repeat (first | exact Drawn0.refl _ | apply Drawn0.step)⟩
      · rw [if_neg c11] at H
        have c11b0 : decide (a0 ≤ 122) = false := decide_eq_false c11
        clear c11
        by_cases c12 : a0 = 95
        · rw [if_pos c12] at H
          have c12b0 : (a0 == 95) = true := beq_iff_eq.mpr c12
          have c12b1 : (a0 != 95) = false := bne_eq_false_iff_eq.mpr c12
          clear c12
          obtain rfl := Option.some.inj H
          go_enter Tryd.func43, Tryd.ntmps43
          go_wp2
          go_ret
          exact ⟨by first | rfl | (simp; done) | (simp [*]; done), by repeat (first | exact Drawn0.refl _ | apply Drawn0.step)⟩
        · rw [if_neg c12] at H
          have c12b0 : (a0 == 95) = false := beq_eq_false_iff_ne.mpr c12
          have c12b1 : (a0 != 95) = true := bne_iff_ne.mpr c12
          replace H := Option.bind_eq_some_iff.mp H
          obtain ⟨t103, A130, H⟩ := H
          replace H : (some t103) = some r := H
          have A13 := Aside0.mk A130
          clear A130
          obtain rfl := Option.some.inj H
          go_enter Tryd.func43, Tryd.ntmps43
          go_wp2_with (first | (go_at_call 13; (with_reducible refine (lex_digit.calls a0 t103 _ A13.out).mono ?_); rintro e w' ⟨rfl, ⟨nd, rfl⟩⟩))
          go_ret
          exact ⟨by first | rfl | (simp; done) | (simp [*]; done), by repeat (first | exact Drawn0.refl _ | apply Drawn0.step)⟩
    · rw [if_neg c10] at H
      have c10b0 : decide (97 ≤ a0) = false := decide_eq_false c10
      clear c10
      by_cases c14 : a0 = 95
      · rw [if_pos c14] at H
        have c14b0 : (a0 == 95) = true := beq_iff_eq.mpr c14
        have c14b1 : (a0 != 95) = false := bne_eq_false_iff_eq.mpr c14
        clear c14
        obtain rfl := Option.some.inj H
        go_enter Tryd.func43, Tryd.ntmps43
        go_wp2
        go_ret
        exact ⟨by first | rfl | (simp; done) | (simp [*]; done), by repeat (first | exact Drawn0.refl _ | apply Drawn0.step)⟩
      · rw [if_neg c14] at H
        have c14b0 : (a0 == 95) = false := beq_eq_false_iff_ne.mpr c14
        have c14b1 : (a0 != 95) = true := bne_iff_ne.mpr c14
        replace H := Option.bind_eq_some_iff.mp H
        obtain ⟨t104, A150, H⟩ := H
        replace H : (some t104) = some r := H
        have A15 := Aside0.mk A150
        clear A150
        obtain rfl := Option.some.inj H
        go_enter Tryd.func43, Tryd.ntmps43
        go_wp2_with (first | (go_at_call 13; (with_reducible refine (lex_digit.calls a0 t104 _ A15.out).mono ?_); rintro e w' ⟨rfl, ⟨nd, rfl⟩⟩))
        go_ret
        exact ⟨by first | rfl | (simp; done) | (simp [*]; done), by repeat (first | exact Drawn0.refl _ | apply Drawn0.step)⟩

/-! ### lex_many: function 12 -/
def lex_many.l0 (is : Int → Option Bool) : Nat → ByteArray → Int → Option Int
  | 0, _, _ => none
  | k + 1, x0, x5 => if x5 < (x0.size : Int) then (if 0 ≤ x5 then ((is (bt x0 x5)).bind fun t110 => (if t110 = true then (lex_many.l0 is k x0 (wrap64 (x5 + 1))) else (some x5))) else (none)) else (some x5)
/-- (The function of a byte, by its number.) -/
def lex_many.f (k : Nat) (a0 : ByteArray) (a1 : Int) : Option Int := if a1 = 13 then lex_many.l0 lex_digit.f k a0 0 else if a1 = 43 then lex_many.l0 lex_letter.f k a0 0 else none
theorem lex_many.mono_l (is : Int → Option Bool) : ∀ k, (∀ y0 y1, LeO (lex_many.l0 is k y0 y1) (lex_many.l0 is (k + 1) y0 y1))
  | 0 => fun _ _ r h => by simp [lex_many.l0] at h
  | k + 1 => by
    have ih0 := lex_many.mono_l is k
    intro y0 y1
    unfold lex_many.l0
    repeat' first
      | (with_reducible exact ih0 _ _)
      | (with_reducible exact LeO.refl _)
      | (with_reducible exact LeO.none _)
      | (with_reducible refine LeO.ite ?_ ?_)
      | (with_reducible refine LeO.bind ?_ (fun _ => ?_))
theorem lex_many.mono : ∀ a0 a1 k, LeO (lex_many.f k a0 a1) (lex_many.f (k + 1) a0 a1) := by
  intro a0 a1 k
  unfold lex_many.f
  exact LeO.ite (lex_many.mono_l _ k a0 0) (LeO.ite (lex_many.mono_l _ k a0 0) (LeO.refl _))
set_option maxHeartbeats 8000000 in
set_option maxRecDepth 100000 in
theorem lex_many.gen (is : Int → Option Bool) (G : FuncId) (fnG : Func) (hfG : Tryd.prog.funcs[G]? = some fnG) (hnG : (fnG.name == "runtime.NumGoroutine") = false) (hbG : fnG.body.isSome = true) (caps : Array Value) (w : World)
    (his : ∀ (c : Int) (t : Bool) (m : Nat), 0 ≤ c → c ≤ 255 → is c = some t → Calls Tryd.prog G (#[.int .u8 c] ++ caps) (w.drewN m) fun e w' => e = .returned (.bool t) ∧ Drawn0 (w.drewN m) w')
    (k : Nat) (a0 : ByteArray) (r : Int) (h : lex_many.l0 is k a0 0 = some r) :
    Calls Tryd.prog 12 #[.string a0, .func (.func G) #[] caps] w fun e w' => e = .returned (.int .i64 r) ∧ Drawn0 w w' := by
  have eG : ∀ args w, (callFunc G args).run Tryd.prog w = .ok (.enter G args) w := Go.Proofs.YtjfklfmfeghjnacDoorW.PrintLast.enters_ hfG hnG hbG
  have H' := Aside0.mk h
  clear h
  go_enter Tryd.func12, Tryd.ntmps12
  go_wp2
  go_loopg [5] k (fun kq v5 w' => ∃ (x5_1 : Int), v5 = .int .i64 x5_1 ∧ Aside0 (lex_many.l0 is kq a0 x5_1 = some r) ∧ Aside0 (kq ≤ k) ∧ Drawn0 w w')
  case atStart => exact ⟨(0), (by first | rfl | (simp; done) | (simp [*]; done)), H', ⟨Nat.le_refl _⟩, by repeat (first | exact Drawn0.refl _ | apply Drawn0.step)⟩
  case round =>
    clear H'
    try clear p2
    obtain ⟨x5_1, rfl, HA, HK1, ⟨m1, rfl⟩⟩ := hrel
    cases gk with
    | zero => exact absurd HA.out (by simp [lex_many.l0])
    | succ k1 =>
      have H := HA.out
      clear HA
      simp only [lex_many.l0] at H
      by_cases c3 : x5_1 < (a0.size : Int)
      · rw [if_pos c3] at H
        have c3b0 : decide (x5_1 < (a0.size : Int)) = true := decide_eq_true c3
        clear c3
        by_cases c4 : 0 ≤ x5_1
        · rw [if_pos c4] at H
          have c4b0 : decide (0 ≤ x5_1) = true := decide_eq_true c4
          clear c4
          replace H := Option.bind_eq_some_iff.mp H
          obtain ⟨t110, A60, H⟩ := H
          replace H : (if t110 = true then (lex_many.l0 is k1 a0 (wrap64 (x5_1 + 1))) else (some x5_1)) = some r := H
          have A6 := Aside0.mk A60
          clear A60
          have hbt := bt_range a0 x5_1
          have p5 : 0 ≤ (x5_1 : Int) := of_decide_eq_true (by first | (with_reducible assumption) | assumption)
          have q5 : x5_1 < (a0.size : Int) := of_decide_eq_true (by first | (with_reducible assumption) | assumption)
          have hx5 := bt_at a0 x5_1
          replace p5 := eq_true p5
          replace q5 := eq_true q5
          by_cases c7 : t110 = true
          · subst c7
            have H1 : (lex_many.l0 is k1 a0 (wrap64 (x5_1 + 1))) = some r := by rw [if_pos rfl] at H; exact H
            clear H
            have H := H1
            clear H1
            have H' := Aside0.mk H
            clear H
            go_wp2_with (first | (go_at_fn G; (with_reducible refine (his (bt a0 x5_1) true _ hbt.1 hbt.2 A6.out).mono ?_); rintro e w' ⟨rfl, ⟨nd, rfl⟩⟩))
            go_roundg k1
            case measure => have := HK1.out; omega
            case rel => exact ⟨(wrap64 (x5_1 + 1)), (by first | rfl | (simp; done) | (simp [*]; done)), H', ⟨by have := HK1.out; omega⟩, by repeat (first | exact Drawn0.refl _ | apply Drawn0.step)⟩
          · replace c7 := Bool.eq_false_iff.mpr c7
            subst c7
            have H1 : (some x5_1) = some r := by rw [if_neg (show ¬ (false = true) by decide)] at H; exact H
            clear H
            have H := H1
            clear H1
            obtain rfl := Option.some.inj H
            go_wp2_with (first | (go_at_fn G; (with_reducible refine (his (bt a0 x5_1) false _ hbt.1 hbt.2 A6.out).mono ?_); rintro e w' ⟨rfl, ⟨nd, rfl⟩⟩))
            go_ret
            exact ⟨by first | rfl | (simp; done) | (simp [*]; done), by repeat (first | exact Drawn0.refl _ | apply Drawn0.step)⟩
        · rw [if_neg c4] at H
          exact absurd H (by simp)
      · rw [if_neg c3] at H
        have c3b0 : decide (x5_1 < (a0.size : Int)) = false := decide_eq_false c3
        clear c3
        obtain rfl := Option.some.inj H
        go_wp2
        go_ret
        exact ⟨by first | rfl | (simp; done) | (simp [*]; done), by repeat (first | exact Drawn0.refl _ | apply Drawn0.step)⟩
theorem lex_many.callsD (k : Nat) (a0 : ByteArray) (r : Int) (w : World) (h : lex_many.f k a0 13 = some r) :
    Calls Tryd.prog 12 #[.string a0, .func (.func 13) #[] #[]] w fun e w' => e = .returned (.int .i64 r) ∧ Drawn0 w w' := by
  rw [lex_many.f, if_pos rfl] at h
  exact lex_many.gen _ 13 _ Tryd.func13 (by kernel_rfl) rfl #[] w (fun c t m _ _ hc => lex_digit.calls c t _ hc) k a0 r h
theorem lex_many.callsL (k : Nat) (a0 : ByteArray) (r : Int) (w : World) (h : lex_many.f k a0 43 = some r) :
    Calls Tryd.prog 12 #[.string a0, .func (.func 43) #[] #[]] w fun e w' => e = .returned (.int .i64 r) ∧ Drawn0 w w' := by
  rw [lex_many.f, if_neg (by decide), if_pos rfl] at h
  exact lex_many.gen _ 43 _ Tryd.func43 (by kernel_rfl) rfl #[] w (fun c t m _ _ hc => lex_letter.calls c t _ hc) k a0 r h

-- NOT PRINTED: function 50 (stringslite_HasPrefix)

-- NOT PRINTED: function 33 (stringslite_CutPrefix)

/-! ### strings_CutPrefix: function 21 -/
def strings_CutPrefix.f (a0 a1 : ByteArray) : Option (ByteArray × Bool) := some (⟨(Lib.trimPrefix a0.data.toList a1.data.toList).toArray⟩, Lib.hasPrefix a0.data.toList a1.data.toList)
theorem strings_CutPrefix.calls (a0 a1 : ByteArray) (r1 : ByteArray) (r2 : Bool) (w : World) (h : strings_CutPrefix.f a0 a1 = some (r1, r2)) :
    Calls Tryd.prog 21 #[.string a0, .string a1] w fun e w' => e = .returned (.tuple #[.string r1, .bool r2]) ∧ Drawn0 w w' := by
  unfold strings_CutPrefix.f at h
  simp only [Option.some.injEq, Prod.mk.injEq] at h
  obtain ⟨rfl, rfl⟩ := h
  refine (Go.Proofs.Tryd.strings_CutPrefix a0 a1 w).mono ?_
  rintro e w' ⟨rfl, rfl⟩
  exact ⟨rfl, 0, rfl⟩

/-! ### lex_number: function 10 -/
def lex_number.f (k : Nat) (a0 : ByteArray) : Option (Int) := (strings_CutPrefix.f a0 (⟨#[45]⟩ : ByteArray)).bind fun bt105 => ((lex_many.f k bt105.1 13).bind fun t107 => (if t107 = 0 then (some 0) else (some (wrap64 ((wrap64 ((a0.size : Int) - (bt105.1.size : Int))) + t107)))))
theorem lex_number.mono : ∀ a0 k, LeO (lex_number.f k a0) (lex_number.f (k + 1) a0) := by
  intro a0 k
  unfold lex_number.f
  repeat' first
      | (with_reducible exact lex_many.mono _ _ _)
      | (with_reducible exact LeO.refl _)
      | (with_reducible exact LeO.none _)
      | (with_reducible refine LeO.ite ?_ ?_)
      | (with_reducible refine LeO.bind ?_ (fun _ => ?_))
      | exact lex_many.mono _ _ _
      | exact LeO.none _
      | refine LeO.ite ?_ ?_
      | refine LeO.bind ?_ (fun _ => ?_)
set_option maxHeartbeats 8000000 in
set_option maxRecDepth 100000 in
theorem lex_number.calls (k : Nat) (a0 : ByteArray) (r : Int) (w : World) (h : lex_number.f k a0 = some r) :
    Calls Tryd.prog 10 #[.string a0] w fun e w' => e = .returned (.int .i64 r) ∧ Drawn0 w w' := by
  have H : ((strings_CutPrefix.f a0 (⟨#[45]⟩ : ByteArray)).bind fun bt105 => ((lex_many.f k bt105.1 13).bind fun t107 => (if t107 = 0 then (some 0) else (some (wrap64 ((wrap64 ((a0.size : Int) - (bt105.1.size : Int))) + t107)))))) = some r := h
  clear h
  replace H := Option.bind_eq_some_iff.mp H
  obtain ⟨⟨t105, t106⟩, A20, H⟩ := H
  replace H : ((lex_many.f k t105 13).bind fun t107 => (if t107 = 0 then (some 0) else (some (wrap64 ((wrap64 ((a0.size : Int) - (t105.size : Int))) + t107))))) = some r := H
  have A2 := Aside0.mk A20
  clear A20
  replace H := Option.bind_eq_some_iff.mp H
  obtain ⟨t107, A30, H⟩ := H
  replace H : (if t107 = 0 then (some 0) else (some (wrap64 ((wrap64 ((a0.size : Int) - (t105.size : Int))) + t107)))) = some r := H
  have A3 := Aside0.mk A30
  clear A30
  by_cases c4 : t107 = 0
  · rw [if_pos c4] at H
    have c4b0 : (t107 == 0) = true := beq_iff_eq.mpr c4
    have c4b1 : (t107 != 0) = false := bne_eq_false_iff_eq.mpr c4
    clear c4
    obtain rfl := Option.some.inj H
    go_enter Tryd.func10, Tryd.ntmps10
    go_wp2_with (first | ((with_reducible refine gate_callee (f := 21) rfl ?_); refine goesL_ (some 8) rfl rfl Tryd.func21 (by kernel_rfl) rfl #[.string a0, .string (⟨#[45]⟩ : ByteArray)] rfl (by (try simp only [List.map_toArray, List.map_cons, List.map_nil]); first | done | rfl | (simp only [List.length_drop, List.length_take]; rfl) | (refine congrArg (fun z_ => #[z_]) (congrArg (Value.int IntKind.u64) (Eq.symm (Go.Proofs.YtjfklfmfeghjnacDoorAid.wrap_len _ (by omega)))))) ?_; (with_reducible refine (strings_CutPrefix.calls a0 (⟨#[45]⟩ : ByteArray) t105 t106 _ A2.out).mono ?_); rintro e w' ⟨rfl, ⟨nd, rfl⟩⟩; refine ⟨_, rfl, ?_⟩) | ((with_reducible refine gate_callee (f := 12) rfl ?_); refine goesL_ (some 12) rfl rfl Tryd.func12 (by kernel_rfl) rfl #[.string t105, .func (.func 13) #[] #[]] rfl (by (try simp only [List.map_toArray, List.map_cons, List.map_nil]); first | done | rfl | (simp only [List.length_drop, List.length_take]; rfl) | (refine congrArg (fun z_ => #[z_]) (congrArg (Value.int IntKind.u64) (Eq.symm (Go.Proofs.YtjfklfmfeghjnacDoorAid.wrap_len _ (by omega)))))) ?_; (with_reducible refine (lex_many.callsD k t105 t107 _ A3.out).mono ?_); rintro e w' ⟨rfl, ⟨nd, rfl⟩⟩; refine ⟨_, rfl, ?_⟩))
    go_ret
    exact ⟨by first | rfl | (simp; done) | (simp [*]; done), by repeat (first | exact Drawn0.refl _ | apply Drawn0.step)⟩
  · rw [if_neg c4] at H
    have c4b0 : (t107 == 0) = false := beq_eq_false_iff_ne.mpr c4
    have c4b1 : (t107 != 0) = true := bne_iff_ne.mpr c4
    obtain rfl := Option.some.inj H
    go_enter Tryd.func10, Tryd.ntmps10
    go_wp2_with (first | ((with_reducible refine gate_callee (f := 21) rfl ?_); refine goesL_ (some 8) rfl rfl Tryd.func21 (by kernel_rfl) rfl #[.string a0, .string (⟨#[45]⟩ : ByteArray)] rfl (by (try simp only [List.map_toArray, List.map_cons, List.map_nil]); first | done | rfl | (simp only [List.length_drop, List.length_take]; rfl) | (refine congrArg (fun z_ => #[z_]) (congrArg (Value.int IntKind.u64) (Eq.symm (Go.Proofs.YtjfklfmfeghjnacDoorAid.wrap_len _ (by omega)))))) ?_; (with_reducible refine (strings_CutPrefix.calls a0 (⟨#[45]⟩ : ByteArray) t105 t106 _ A2.out).mono ?_); rintro e w' ⟨rfl, ⟨nd, rfl⟩⟩; refine ⟨_, rfl, ?_⟩) | ((with_reducible refine gate_callee (f := 12) rfl ?_); refine goesL_ (some 12) rfl rfl Tryd.func12 (by kernel_rfl) rfl #[.string t105, .func (.func 13) #[] #[]] rfl (by (try simp only [List.map_toArray, List.map_cons, List.map_nil]); first | done | rfl | (simp only [List.length_drop, List.length_take]; rfl) | (refine congrArg (fun z_ => #[z_]) (congrArg (Value.int IntKind.u64) (Eq.symm (Go.Proofs.YtjfklfmfeghjnacDoorAid.wrap_len _ (by omega)))))) ?_; (with_reducible refine (lex_many.callsD k t105 t107 _ A3.out).mono ?_); rintro e w' ⟨rfl, ⟨nd, rfl⟩⟩; refine ⟨_, rfl, ?_⟩))
    go_ret
    exact ⟨by first | rfl | (simp; done) | (simp [*]; done), by repeat (first | exact Drawn0.refl _ | apply Drawn0.step)⟩

-- NOT PRINTED: function 27 (lex_sign)

/-! ### lex_word: function 28 -/
def lex_word.f (k : Nat) (a0 : ByteArray) : Option (Int) := if a0.toList = ([] : List UInt8) then (some 0) else (if 0 < (a0.size : Int) then ((lex_digit.f (bt a0 0)).bind fun t108 => (if t108 = true then (some 0) else ((lex_many.f k a0 43).bind fun t109 => (some t109)))) else (none))
theorem lex_word.mono : ∀ a0 k, LeO (lex_word.f k a0) (lex_word.f (k + 1) a0) := by
  intro a0 k
  unfold lex_word.f
  repeat' first
      | (with_reducible exact lex_many.mono _ _ _)
      | (with_reducible exact LeO.refl _)
      | (with_reducible exact LeO.none _)
      | (with_reducible refine LeO.ite ?_ ?_)
      | (with_reducible refine LeO.bind ?_ (fun _ => ?_))
      | exact lex_many.mono _ _ _
      | exact LeO.none _
      | refine LeO.ite ?_ ?_
      | refine LeO.bind ?_ (fun _ => ?_)
set_option maxHeartbeats 8000000 in
set_option maxRecDepth 100000 in
theorem lex_word.calls (k : Nat) (a0 : ByteArray) (r : Int) (w : World) (h : lex_word.f k a0 = some r) :
    Calls Tryd.prog 28 #[.string a0] w fun e w' => e = .returned (.int .i64 r) ∧ Drawn0 w w' := by
  have H : (if a0.toList = ([] : List UInt8) then (some 0) else (if 0 < (a0.size : Int) then ((lex_digit.f (bt a0 0)).bind fun t108 => (if t108 = true then (some 0) else ((lex_many.f k a0 43).bind fun t109 => (some t109)))) else (none))) = some r := h
  clear h
  by_cases c2 : a0.toList = ([] : List UInt8)
  · rw [if_pos c2] at H
    have c2b0 : (a0.toList == ([] : List UInt8)) = true := beq_iff_eq.mpr c2
    have c2b1 : (a0.toList != ([] : List UInt8)) = false := bne_eq_false_iff_eq.mpr c2
    clear c2
    obtain rfl := Option.some.inj H
    go_enter Tryd.func28, Tryd.ntmps28
    go_wp2
    go_ret
    exact ⟨by first | rfl | (simp; done) | (simp [*]; done), by repeat (first | exact Drawn0.refl _ | apply Drawn0.step)⟩
  · rw [if_neg c2] at H
    have c2b0 : (a0.toList == ([] : List UInt8)) = false := beq_eq_false_iff_ne.mpr c2
    have c2b1 : (a0.toList != ([] : List UInt8)) = true := bne_iff_ne.mpr c2
    by_cases c3 : 0 < (a0.size : Int)
    · rw [if_pos c3] at H
      have c3b0 : decide (0 < (a0.size : Int)) = true := decide_eq_true c3
      have c3b1 : decide (0 < a0.size) = true := decide_eq_true (by omega)
      clear c3
      replace H := Option.bind_eq_some_iff.mp H
      obtain ⟨t108, A50, H⟩ := H
      replace H : (if t108 = true then (some 0) else ((lex_many.f k a0 43).bind fun t109 => (some t109))) = some r := H
      have A5 := Aside0.mk A50
      clear A50
      by_cases c6 : t108 = true
      · subst c6
        have H1 : (some 0) = some r := by rw [if_pos rfl] at H; exact H
        clear H
        have H := H1
        clear H1
        obtain rfl := Option.some.inj H
        have p4 : 0 ≤ (0 : Int) := (by omega)
        have q4 : 0 < a0.size := (by have : (0 : Int) < (a0.size : Int) := of_decide_eq_true (by first | (with_reducible assumption) | assumption); omega)
        have hx4 : ∀ h : 0 < a0.size, ((a0[0]'h).toNat : Int) = bt a0 0 := bt_at a0 0
        clear p4
        have qi4 : (0 < (a0.size : Int)) = True := eq_true (of_decide_eq_true (by first | (with_reducible assumption) | assumption))
        replace q4 := eq_true q4
        go_enter Tryd.func28, Tryd.ntmps28
        go_wp2_with (first | (go_at_call 13; (with_reducible refine (lex_digit.calls (bt a0 0) true _ A5.out).mono ?_); rintro e w' ⟨rfl, ⟨nd, rfl⟩⟩))
        go_ret
        exact ⟨by first | rfl | (simp; done) | (simp [*]; done), by repeat (first | exact Drawn0.refl _ | apply Drawn0.step)⟩
      · replace c6 := Bool.eq_false_iff.mpr c6
        subst c6
        have H1 : ((lex_many.f k a0 43).bind fun t109 => (some t109)) = some r := by rw [if_neg (show ¬ (false = true) by decide)] at H; exact H
        clear H
        have H := H1
        clear H1
        replace H := Option.bind_eq_some_iff.mp H
        obtain ⟨t109, A70, H⟩ := H
        replace H : (some t109) = some r := H
        have A7 := Aside0.mk A70
        clear A70
        obtain rfl := Option.some.inj H
        have p4 : 0 ≤ (0 : Int) := (by omega)
        have q4 : 0 < a0.size := (by have : (0 : Int) < (a0.size : Int) := of_decide_eq_true (by first | (with_reducible assumption) | assumption); omega)
        have hx4 : ∀ h : 0 < a0.size, ((a0[0]'h).toNat : Int) = bt a0 0 := bt_at a0 0
        clear p4
        have qi4 : (0 < (a0.size : Int)) = True := eq_true (of_decide_eq_true (by first | (with_reducible assumption) | assumption))
        replace q4 := eq_true q4
        go_enter Tryd.func28, Tryd.ntmps28
        go_wp2_with (first | (go_at_call 13; (with_reducible refine (lex_digit.calls (bt a0 0) false _ A5.out).mono ?_); rintro e w' ⟨rfl, ⟨nd, rfl⟩⟩) | ((with_reducible refine gate_callee (f := 12) rfl ?_); refine goesL_ (some 11) rfl rfl Tryd.func12 (by kernel_rfl) rfl #[.string a0, .func (.func 43) #[] #[]] rfl (by (try simp only [List.map_toArray, List.map_cons, List.map_nil]); first | done | rfl | (simp only [List.length_drop, List.length_take]; rfl) | (refine congrArg (fun z_ => #[z_]) (congrArg (Value.int IntKind.u64) (Eq.symm (Go.Proofs.YtjfklfmfeghjnacDoorAid.wrap_len _ (by omega)))))) ?_; (with_reducible refine (lex_many.callsL k a0 t109 _ A7.out).mono ?_); rintro e w' ⟨rfl, ⟨nd, rfl⟩⟩; refine ⟨_, rfl, ?_⟩))
        go_ret
        exact ⟨by first | rfl | (simp; done) | (simp [*]; done), by repeat (first | exact Drawn0.refl _ | apply Drawn0.step)⟩
    · rw [if_neg c3] at H
      exact absurd H (by simp)

/-! #### struct type 48: the boxes that the shapes of signs lead to -/
def IsS48 (w0 W : World) (g : Nat) (f0 : Int) : Prop := (W.heap[g]? = some (.cells #[.int .u8 64] 5 (0, 0)) ∧ W.heap[g + 1]? = some (.cells #[.int .u8 40] 5 (0, 0)) ∧ W.heap[g + 2]? = some (.cells #[.int .u8 41] 5 (0, 0)) ∧ W.heap[g + 3]? = some (.cells #[.int .u8 44] 5 (0, 0))) ∧ w0.heap.size ≤ g
def Ne4 (g a : Nat) : Prop := g ≠ a ∧ g + 1 ≠ a ∧ g + 2 ≠ a ∧ g + 3 ≠ a
theorem Ne4.of_lt {g a : Nat} (h : g + 3 < a) : Ne4 g a := ⟨by omega, by omega, by omega, by omega⟩
theorem IsS48.grown {w0 W : World} {g : Nat} {f0 : Int} {W1 : World} {row : Option Nat} (h : IsS48 w0 W g f0) (hw : W.grownBy W1 row) (hne : (some g ≠ row ∧ some (g + 1) ≠ row ∧ some (g + 2) ≠ row ∧ some (g + 3) ≠ row)) : IsS48 w0 W1 g f0 := by
  obtain ⟨⟨h0, h1, h2, h3⟩, hg⟩ := h
  exact ⟨⟨blk_grown h0 hw hne.1, blk_grown h1 hw hne.2.1, blk_grown h2 hw hne.2.2.1, blk_grown h3 hw hne.2.2.2⟩, hg⟩
theorem IsS48.below {w0 W : World} {g : Nat} {f0 : Int} {W1 : World} (h : IsS48 w0 W g f0) (hw : Below W.heap.size W W1) : IsS48 w0 W1 g f0 := h.grown (grown_of_below hw none) (by simp)
theorem IsS48.alloc {w0 W : World} {g : Nat} {f0 : Int} (h : IsS48 w0 W g f0) (o : Obj) : IsS48 w0 (W.alloc o) g f0 := h.below (below_alloc (Below.refl _ _) o)
theorem IsS48.drewN {w0 W : World} {g : Nat} {f0 : Int} (h : IsS48 w0 W g f0) (m : Nat) : IsS48 w0 (W.drewN m) g f0 := h
theorem IsS48.drew {w0 W : World} {g : Nat} {f0 : Int} (h : IsS48 w0 W g f0) : IsS48 w0 W.drew g f0 := h
theorem IsS48.at_ {w0 W : World} {g : Nat} {f0 : Int} {w' : World} {m : Nat} (hq : W.drewN m = w') (h : IsS48 w0 W g f0) : IsS48 w0 w' g f0 := by subst hq; exact IsS48.drewN h m
theorem IsS48.apart {w0 W : World} {g : Nat} {f0 : Int} {α : Type} {d : Kd α} {e : Nat} {base : Nat} {ok : Nat → Prop} {v : Value} {xs : List α} (h : IsS48 w0 W g f0) (ho : d.R e W base ok v xs) (ht : ∀ q, q ∈ e :: d.E → q ≠ 5) : d.R e W base (fun k => ok k ∧ k ≠ g) v xs := Kd.R_types ho h.1.1 ht
theorem IsS48.own_ne {w0 W : World} {g : Nat} {f0 : Int} {α : Type} {d : Kd α} {e : Nat} {base : Nat} {ok : Nat → Prop} {v : Value} {xs : List α} (h : IsS48 w0 W g f0) (ho : d.R e W base ok v xs) (ht : e ≠ 5) : (some g ≠ v.ownBlock ∧ some (g + 1) ≠ v.ownBlock ∧ some (g + 2) ≠ v.ownBlock ∧ some (g + 3) ≠ v.ownBlock) := ⟨Kd.R_ne ho h.1.1 ht, Kd.R_ne ho h.1.2.1 ht, Kd.R_ne ho h.1.2.2.1 ht, Kd.R_ne ho h.1.2.2.2 ht⟩
theorem IsS48.lt4 {w0 W : World} {g : Nat} {f0 : Int} (h : IsS48 w0 W g f0) : g + 3 < W.heap.size := blk_lt h.1.2.2.2
theorem IsS48.lt {w0 W : World} {g : Nat} {f0 : Int} (h : IsS48 w0 W g f0) : g < W.heap.size := blk_lt h.1.1
theorem IsS48.ge {w0 W : World} {g : Nat} {f0 : Int} (h : IsS48 w0 W g f0) : w0.heap.size ≤ g := h.2
theorem shp_ne {W : World} {a b : Nat} {cs cs2 : Array Value} {t t2 : TypeId} {fr fr2 : Nat × Nat} (hb : W.heap[a]? = some (.cells cs t fr)) (hb2 : W.heap[b]? = some (.cells cs2 t2 fr2)) (ht : t2 ≠ t) : a ≠ b := by
  rintro rfl
  rw [hb] at hb2
  injection hb2 with hb2
  injection hb2 with _ ht2
  exact ht ht2.symm
theorem IsS48.ne_blk {w0 W : World} {g : Nat} {f0 : Int} {a : Nat} {cs : Array Value} {t : TypeId} {fr : Nat × Nat} (h : IsS48 w0 W g f0) (hb2 : W.heap[a]? = some (.cells cs t fr)) (ht : t ≠ 5) : Ne4 g a := ⟨shp_ne h.1.1 hb2 ht, shp_ne h.1.2.1 hb2 ht, shp_ne h.1.2.2.1 hb2 ht, shp_ne h.1.2.2.2 hb2 ht⟩
theorem IsS48.ne_blkS {w0 W : World} {g : Nat} {f0 : Int} {a : Nat} {cs : Array Value} {t : TypeId} {fr : Nat × Nat} (h : IsS48 w0 W g f0) (hb2 : W.heap[a]? = some (.cells cs t fr)) (ht : t ≠ 5) : a ≠ g := Ne.symm (h.ne_blk hb2 ht).1
theorem IsS48.far {w0 W : World} {g : Nat} {f0 : Int} {p : Addr} (h : IsS48 w0 W g f0) (hne : Ne4 g p.block) (u : Value) : IsS48 w0 (W.setCell p u) g f0 := by
  obtain ⟨⟨h0, h1, h2, h3⟩, hg⟩ := h
  exact ⟨⟨blk_far h0 hne.1 u, blk_far h1 hne.2.1 u, blk_far h2 hne.2.2.1 u, blk_far h3 hne.2.2.2 u⟩, hg⟩

/-! ### lex_shapes: function 16 -/
/-- A function value is stored as one cell. -/
theorem lex_store_fn (W : World) (ad : Addr) (fn : Fn) (x y : Array Value) : (store ad (.func fn x y)).run Tryd.prog W = stored Tryd.prog W ad (.func fn x y) .plain := run_store Tryd.prog W ad _ _ rfl
theorem lex_sign_1_1.calls (gb : Nat) (c x : Int) (t : Bool) (w : World) (hc : w.cell? ⟨gb, 0, none⟩ = some (.int .u8 c)) (h : some (decide (x = c)) = some t) :
    Calls Tryd.prog 42 #[.int .u8 x, .pointer (some ⟨gb, 0, none⟩)] w fun e w' => e = .returned (.bool t) ∧ Drawn0 w w' := by
  obtain rfl := Option.some.inj h
  go_enter Tryd.func42, Tryd.ntmps42
  go_wp2
  go_ret
  exact ⟨by first | rfl | (simp; done) | (by_cases e_ : x = c <;> simp [e_]), by repeat (first | exact Drawn0.refl _ | apply Drawn0.step)⟩
set_option maxHeartbeats 8000000 in
set_option maxRecDepth 100000 in
theorem lex_sign_1.calls (k : Nat) (gb : Nat) (c : Int) (a0 : ByteArray) (r : Int) (w : World) (hc : w.cell? ⟨gb, 0, none⟩ = some (.int .u8 c)) (hl_ : lex_many.l0 (fun x => some (decide (x = c))) k (a0.extract 0 (min 1 a0.size)) 0 = some r) :
    Calls Tryd.prog 41 #[.string a0, .pointer (some ⟨gb, 0, none⟩)] w fun e w' => e = .returned (.int .i64 r) ∧ Drawn0 w w' := by
  have hm : (if (a0.size : Int) < 1 then (a0.size : Int) else 1).toNat = min 1 a0.size := by split <;> omega
  have his_ : ∀ (x : Int) (t : Bool) (m : Nat), 0 ≤ x → x ≤ 255 → some (decide (x = c)) = some t → Calls Tryd.prog 42 (#[.int .u8 x] ++ #[.pointer (some ⟨gb, 0, none⟩)]) (w.drewN m) fun e w' => e = .returned (.bool t) ∧ Drawn0 (w.drewN m) w' := fun x t m _ _ hx => lex_sign_1_1.calls gb c x t (w.drewN m) hc hx
  go_enter Tryd.func41, Tryd.ntmps41
  go_wp2_with (first | (go_at_call 12; (try rw [hm]); (with_reducible refine (lex_many.gen (fun x => some (decide (x = c))) 42 _ Tryd.func42 (by kernel_rfl) rfl #[.pointer (some ⟨gb, 0, none⟩)] w his_ k _ r hl_).mono ?_); rintro e w' ⟨rfl, ⟨nd, rfl⟩⟩))
  all_goals go_ret
  all_goals exact ⟨rfl, by repeat (first | exact Drawn0.refl _ | apply Drawn0.step)⟩
theorem lex_sign.calls (c : Int) (w : World) :
    Calls Tryd.prog 27 #[.int .u8 c] w fun e w' => ∃ g, g = w.heap.size ∧ e = .returned (.func (.func 41) #[] #[.pointer (some ⟨g, 0, none⟩)]) ∧ w'.heap[g]? = some (.cells #[.int .u8 c] 5 (0, 0)) ∧ w'.heap.size = w.heap.size + 1 ∧ Below w.heap.size w w' := by
  go_enter Tryd.func27, Tryd.ntmps27
  go_wp2
  go_ret
  exact ⟨_, rfl, rfl, by simpa using heap_alloc_new w _, (by show (w.heap.push _).size = _; simp), below_alloc (Below.refl _ _) _⟩
def lex_shapes.f : Option Int := some 0
set_option maxHeartbeats 8000000 in
set_option maxRecDepth 100000 in
theorem lex_shapes.calls (r1 : Int) (w0 w : World) (hB : Below w0.heap.size w0 w) (h : lex_shapes.f = some r1) :
    Calls Tryd.prog 16 #[] w fun e w' => ∃ g : Nat, e = .returned (.agg #[.func (.func 26) #[] #[], .func (.func 41) #[] #[.pointer (some ⟨g, 0, none⟩)], .func (.func 41) #[] #[.pointer (some ⟨g + 1, 0, none⟩)], .func (.func 41) #[] #[.pointer (some ⟨g + 2, 0, none⟩)], .func (.func 41) #[] #[.pointer (some ⟨g + 3, 0, none⟩)], .func (.func 28) #[] #[], .func (.func 10) #[] #[]]) ∧ IsS48 w0 w' g r1 ∧ Below w0.heap.size w0 w' ∧ Below w.heap.size w w' := by
  have hu77 := Tryd.underlying49
  have hst_ := lex_store_fn
  have HBW := Aside0.mk (Below.refl w.heap.size w)
  go_enter Tryd.func16, Tryd.ntmps16
  go_wp2_with (first | ((with_reducible refine gate_dst (N := 0) rfl ?_); refine box_event ?hg (N := 0) ?hd (cs := #[.nilFunc, .nilFunc, .nilFunc, .nilFunc, .nilFunc, .nilFunc, .nilFunc]) (t := 49) ?hr ?_; (case hd => rfl); (case hg => rfl); (case hr => first | (go_simp; done) | (go_simp; rfl)); intro gb hgb w1 BK1 HB1; have hgw : w.heap.size ≤ gb := (by rw [hgb]; exact Nat.le_refl _); clear hgb) | (go_at_call 27; (with_reducible refine (lex_sign.calls 64 _).mono ?_); rintro e wa ⟨ga, hg, rfl, hka, hs, hba⟩; have hga := And.intro (Nat.le_of_eq hg) (Nat.le_of_eq hg.symm); have hsa := And.intro (Nat.le_of_eq hs) (Nat.le_of_eq hs.symm); clear hg hs; have BKa := blk_below BK1 hba) | (go_at_call 27; (with_reducible refine (lex_sign.calls 40 _).mono ?_); rintro e wb ⟨gB, hg, rfl, hkb, hs, hbb⟩; have hgb := And.intro (Nat.le_of_eq hg) (Nat.le_of_eq hg.symm); have hsb := And.intro (Nat.le_of_eq hs) (Nat.le_of_eq hs.symm); clear hg hs; have BKb := blk_below BKa hbb; have hka := blk_below hka hbb) | (go_at_call 27; (with_reducible refine (lex_sign.calls 41 _).mono ?_); rintro e wc ⟨gc, hg, rfl, hkc, hs, hbc⟩; have hgc := And.intro (Nat.le_of_eq hg) (Nat.le_of_eq hg.symm); have hsc := And.intro (Nat.le_of_eq hs) (Nat.le_of_eq hs.symm); clear hg hs; have BKc := blk_below BKb hbc; have hka := blk_below hka hbc; have hkb := blk_below hkb hbc) | (go_at_call 27; (with_reducible refine (lex_sign.calls 44 _).mono ?_); rintro e wd ⟨gd, hg, rfl, hkd, hs, hbd⟩; have hgd := And.intro (Nat.le_of_eq hg) (Nat.le_of_eq hg.symm); have hsd := And.intro (Nat.le_of_eq hs) (Nat.le_of_eq hs.symm); clear hg hs; have BKd := blk_below BKc hbd; have hka := blk_below hka hbd; have hkb := blk_below hkb hbd; have hkc := blk_below hkc hbd; have hcz_0 : wd.cell? ⟨gb, 0, none⟩ = some (.nilFunc) := (blk_cell BKd 0).trans rfl; have hfz_0 := blk_frozen BKd 0; have hcz_1 : wd.cell? ⟨gb, 1, none⟩ = some (.nilFunc) := (blk_cell BKd 1).trans rfl; have hfz_1 := blk_frozen BKd 1; have hcz_2 : wd.cell? ⟨gb, 2, none⟩ = some (.nilFunc) := (blk_cell BKd 2).trans rfl; have hfz_2 := blk_frozen BKd 2; have hcz_3 : wd.cell? ⟨gb, 3, none⟩ = some (.nilFunc) := (blk_cell BKd 3).trans rfl; have hfz_3 := blk_frozen BKd 3; have hcz_4 : wd.cell? ⟨gb, 4, none⟩ = some (.nilFunc) := (blk_cell BKd 4).trans rfl; have hfz_4 := blk_frozen BKd 4; have hcz_5 : wd.cell? ⟨gb, 5, none⟩ = some (.nilFunc) := (blk_cell BKd 5).trans rfl; have hfz_5 := blk_frozen BKd 5; have hcz_6 : wd.cell? ⟨gb, 6, none⟩ = some (.nilFunc) := (blk_cell BKd 6).trans rfl; have hfz_6 := blk_frozen BKd 6))
  have z1 : w1.heap.size ≤ ga := by omega
  have hlt : gb < w1.heap.size := blk_lt BK1
  obtain rfl : gB = ga + 1 := by omega
  obtain rfl : gc = ga + 2 := by omega
  obtain rfl : gd = ga + 3 := by omega
  refine bodyPost_ret (results_cell_row rfl _ _ gb 49 #[.func (.func 26) #[] #[], .func (.func 41) #[] #[.pointer (some ⟨ga, 0, none⟩)], .func (.func 41) #[] #[.pointer (some ⟨(ga + 1), 0, none⟩)], .func (.func 41) #[] #[.pointer (some ⟨ga + 2, 0, none⟩)], .func (.func 41) #[] #[.pointer (some ⟨ga + 3, 0, none⟩)], .func (.func 28) #[] #[], .func (.func 10) #[] #[]] (0, 0) _ rfl (by (with_reducible repeat (first | refine blk_drewN ?_ _ | refine blk_drew ?_ | refine blk_alloc ?_ _)); refine blk_put (cs := #[.func (.func 26) #[] #[], .func (.func 41) #[] #[.pointer (some ⟨ga, 0, none⟩)], .func (.func 41) #[] #[.pointer (some ⟨ga + 1, 0, none⟩)], .func (.func 41) #[] #[.pointer (some ⟨ga + 2, 0, none⟩)], .func (.func 41) #[] #[.pointer (some ⟨ga + 3, 0, none⟩)], .func (.func 28) #[] #[], .nilFunc]) ?_ 6 _ rfl; (with_reducible repeat (first | refine blk_drewN ?_ _ | refine blk_drew ?_ | refine blk_alloc ?_ _)); refine blk_put (cs := #[.func (.func 26) #[] #[], .func (.func 41) #[] #[.pointer (some ⟨ga, 0, none⟩)], .func (.func 41) #[] #[.pointer (some ⟨ga + 1, 0, none⟩)], .func (.func 41) #[] #[.pointer (some ⟨ga + 2, 0, none⟩)], .func (.func 41) #[] #[.pointer (some ⟨ga + 3, 0, none⟩)], .nilFunc, .nilFunc]) ?_ 5 _ rfl; (with_reducible repeat (first | refine blk_drewN ?_ _ | refine blk_drew ?_ | refine blk_alloc ?_ _)); refine blk_put (cs := #[.func (.func 26) #[] #[], .func (.func 41) #[] #[.pointer (some ⟨ga, 0, none⟩)], .func (.func 41) #[] #[.pointer (some ⟨ga + 1, 0, none⟩)], .func (.func 41) #[] #[.pointer (some ⟨ga + 2, 0, none⟩)], .nilFunc, .nilFunc, .nilFunc]) ?_ 4 _ rfl; (with_reducible repeat (first | refine blk_drewN ?_ _ | refine blk_drew ?_ | refine blk_alloc ?_ _)); refine blk_put (cs := #[.func (.func 26) #[] #[], .func (.func 41) #[] #[.pointer (some ⟨ga, 0, none⟩)], .func (.func 41) #[] #[.pointer (some ⟨ga + 1, 0, none⟩)], .nilFunc, .nilFunc, .nilFunc, .nilFunc]) ?_ 3 _ rfl; (with_reducible repeat (first | refine blk_drewN ?_ _ | refine blk_drew ?_ | refine blk_alloc ?_ _)); refine blk_put (cs := #[.func (.func 26) #[] #[], .func (.func 41) #[] #[.pointer (some ⟨ga, 0, none⟩)], .nilFunc, .nilFunc, .nilFunc, .nilFunc, .nilFunc]) ?_ 2 _ rfl; (with_reducible repeat (first | refine blk_drewN ?_ _ | refine blk_drew ?_ | refine blk_alloc ?_ _)); refine blk_put (cs := #[.func (.func 26) #[] #[], .nilFunc, .nilFunc, .nilFunc, .nilFunc, .nilFunc, .nilFunc]) ?_ 1 _ rfl; (with_reducible repeat (first | refine blk_drewN ?_ _ | refine blk_drew ?_ | refine blk_alloc ?_ _)); refine blk_put (cs := #[.nilFunc, .nilFunc, .nilFunc, .nilFunc, .nilFunc, .nilFunc, .nilFunc]) ?_ 0 _ rfl; (with_reducible repeat (first | refine blk_drewN ?_ _ | refine blk_drew ?_ | refine blk_alloc ?_ _)); exact BKd) Tryd.underlying49 rfl (by kernel_rfl)) rfl ?_
  have hBd : Below w.heap.size w wd := below_step (below_step (below_step (below_step HB1 hba) hbb) hbc) hbd
  have hne : ∀ {x : Nat}, ga ≤ x → x ≠ gb := fun h_ => by omega
  exact ⟨ga, rfl, ⟨⟨by repeat (first | refine blk_far ?_ (hne (by omega)) _ | exact hka), by repeat (first | refine blk_far ?_ (hne (by omega)) _ | exact hkb), by repeat (first | refine blk_far ?_ (hne (by omega)) _ | exact hkc), by repeat (first | refine blk_far ?_ (hne (by omega)) _ | exact hkd)⟩, Nat.le_trans hB.size (Nat.le_trans HB1.size z1)⟩, by repeat (first | refine below_set ?_ (show w0.heap.size ≤ gb by have := hB.size; omega) | exact below_then hB hB.size hBd), by repeat (first | refine below_set ?_ (show w.heap.size ≤ gb by omega) | exact hBd)⟩

-- NOT PRINTED: function 45 (utf8_RuneCountInString)

-- NOT PRINTED: function 46 (bytealg_CountString)

-- NOT PRINTED: function 44 (bytealg_IndexByteString)

-- NOT PRINTED: function 29 (stringslite_IndexByte)

-- NOT PRINTED: function 58 (bytealg_IndexString)

-- NOT PRINTED: function 59 (bytealg_Cutover)

-- NOT PRINTED: function 62 (bytealg_hashStr_string)

-- NOT PRINTED: function 60 (bytealg_IndexRabinKarp_string)

-- NOT PRINTED: function 55 (stringslite_Index)

-- NOT PRINTED: function 47 (strings_Index)

/-! ### strings_Count: function 30 -/
/-- (A text of one byte, alone.) -/
def strings_Count.f (a0 a1 : ByteArray) : Option Int := match a1.data.toList with
  | [c] => some ((Lib.countByte a0.data.toList c : Nat) : Int)
  | _ => none
theorem strings_Count.calls (a0 a1 : ByteArray) (r : Int) (w : World) (h : strings_Count.f a0 a1 = some r) :
    Calls Tryd.prog 30 #[.string a0, .string a1] w fun e w' => e = .returned (.int .i64 r) ∧ Drawn0 w w' := by
  unfold strings_Count.f at h
  split at h
  · rename_i c hc
    obtain rfl := Option.some.inj h
    have e1 : a1 = ⟨#[c]⟩ := by
      obtain ⟨⟨l⟩⟩ := a1
      simp only at hc
      rw [hc]
    subst e1
    refine (Go.Proofs.Tryd.strings_Count_one a0 c w).mono ?_
    rintro e w' ⟨rfl, rfl⟩
    exact ⟨rfl, 0, rfl⟩
  · cases h

-- NOT PRINTED: function 48 (bytealg_LastIndexByteString)

/-! ### strings_LastIndexByte: function 31 -/
def strings_LastIndexByte.f (a0 : ByteArray) (a1 : Int) : Option Int := if a0.size < 4611686018427387904 then some (Lib.lastIndexByte a0 a1) else none
theorem strings_LastIndexByte.calls (a0 : ByteArray) (a1 : Int) (r : Int) (w : World) (h : strings_LastIndexByte.f a0 a1 = some r) :
    Calls Tryd.prog 31 #[.string a0, .int .u8 a1] w fun e w' => e = .returned (.int .i64 r) ∧ Below w.heap.size w w' := by
  unfold strings_LastIndexByte.f at h
  by_cases hc : a0.size < 4611686018427387904
  · rw [if_pos hc] at h
    obtain rfl := Option.some.inj h
    refine (Go.Proofs.Tryd.strings_LastIndexByte a0 a1 hc w).mono ?_
    rintro e w' ⟨rfl, rfl⟩
    exact ⟨rfl, Below.refl _ _⟩
  · rw [if_neg hc] at h
    cases h

/-! ### lex_on: function 19 -/
def lex_on.f (a0_0 : Int) (a0_1 : Int) (a1 : ByteArray) : Option (Int × Int) := (strings_Count.f a1 (⟨#[10]⟩ : ByteArray)).bind fun t112 => (if t112 > 0 then ((strings_LastIndexByte.f a1 10).bind fun t113 => (if 0 ≤ (wrap64 (t113 + 1)) then (if (wrap64 (t113 + 1)) ≤ (a1.size : Int) then (some (wrap64 (a0_0 + t112), wrap64 (1 + ((a1.extract ((wrap64 (t113 + 1)) : Int).toNat a1.size).size : Int)))) else (none)) else (none))) else (some (a0_0, wrap64 (a0_1 + (a1.size : Int)))))
set_option maxHeartbeats 8000000 in
set_option maxRecDepth 100000 in
theorem lex_on.calls (a0_0 : Int) (a0_1 : Int) (a1 : ByteArray) (r1 : Int) (r2 : Int) (w : World) (h : lex_on.f a0_0 a0_1 a1 = some (r1, r2)) :
    Calls Tryd.prog 19 #[.agg #[.int .i64 a0_0, .int .i64 a0_1], .string a1] w fun e w' => e = .returned (.agg #[.int .i64 r1, .int .i64 r2]) ∧ Below w.heap.size w w' := by
  have hu32 := Tryd.underlying32
  have HB := Aside0.mk (Below.refl w.heap.size w)
  have H : ((strings_Count.f a1 (⟨#[10]⟩ : ByteArray)).bind fun t112 => (if t112 > 0 then ((strings_LastIndexByte.f a1 10).bind fun t113 => (if 0 ≤ (wrap64 (t113 + 1)) then (if (wrap64 (t113 + 1)) ≤ (a1.size : Int) then (some (wrap64 (a0_0 + t112), wrap64 (1 + ((a1.extract ((wrap64 (t113 + 1)) : Int).toNat a1.size).size : Int)))) else (none)) else (none))) else (some (a0_0, wrap64 (a0_1 + (a1.size : Int)))))) = some (r1, r2) := h
  clear h
  replace H := Option.bind_eq_some_iff.mp H
  obtain ⟨t112, A30, H⟩ := H
  replace H : (if t112 > 0 then ((strings_LastIndexByte.f a1 10).bind fun t113 => (if 0 ≤ (wrap64 (t113 + 1)) then (if (wrap64 (t113 + 1)) ≤ (a1.size : Int) then (some (wrap64 (a0_0 + t112), wrap64 (1 + ((a1.extract ((wrap64 (t113 + 1)) : Int).toNat a1.size).size : Int)))) else (none)) else (none))) else (some (a0_0, wrap64 (a0_1 + (a1.size : Int))))) = some (r1, r2) := H
  have A3 := Aside0.mk A30
  clear A30
  by_cases c4 : t112 > 0
  · rw [if_pos c4] at H
    have c4b0 : decide (0 < t112) = true := decide_eq_true c4
    clear c4
    replace H := Option.bind_eq_some_iff.mp H
    obtain ⟨t113, A50, H⟩ := H
    replace H : (if 0 ≤ (wrap64 (t113 + 1)) then (if (wrap64 (t113 + 1)) ≤ (a1.size : Int) then (some (wrap64 (a0_0 + t112), wrap64 (1 + ((a1.extract ((wrap64 (t113 + 1)) : Int).toNat a1.size).size : Int)))) else (none)) else (none)) = some (r1, r2) := H
    have A5 := Aside0.mk A50
    clear A50
    obtain ⟨ji6, hji6⟩ : ∃ j_ : Int, (wrap64 (t113 + 1)) = j_ := ⟨_, rfl⟩
    replace H : (if 0 ≤ (ji6) then (if (ji6) ≤ (a1.size : Int) then (some (wrap64 (a0_0 + t112), wrap64 (1 + ((a1.extract ((ji6) : Int).toNat a1.size).size : Int)))) else (none)) else (none)) = some (r1, r2) := by first | (rw [hji6] at H; exact H) | (simp only [hji6] at H ⊢; exact H)
    (try rw [hji6] at A3)
    (try rw [hji6] at A5)
    have hji6w : (IntKind.i64.wrap (t113 + 1)) = ji6 := (i64_w _).trans hji6
    by_cases c7 : 0 ≤ (ji6)
    · rw [if_pos c7] at H
      have c7b0 := eq_true c7
      have c7b1 : decide (0 ≤ (ji6)) = true := decide_eq_true c7
      clear c7
      by_cases c8 : (ji6) ≤ (a1.size : Int)
      · rw [if_pos c8] at H
        have c8b0 := eq_true c8
        have c8b1 : decide ((ji6) ≤ (a1.size : Int)) = true := decide_eq_true c8
        clear c8
        try simp only [ByteArray.size_extract, Nat.min_self] at H
        simp only [Option.some.injEq, Prod.mk.injEq] at H
        obtain ⟨rfl, rfl⟩ := H
        go_enter Tryd.func19, Tryd.ntmps19
        go_wp2_with (first | ((with_reducible refine gate_dst (N := 2) rfl ?_); refine box_event ?hg (N := 2) ?hd (cs := #[.int .i64 a0_0, .int .i64 a0_1]) (t := 32) ?hr ?_; (case hd => rfl); (case hg => rfl); (case hr => first | (go_simp; done) | (go_simp; rfl)); intro gb110 hg w9 hbox hb; have n0_ := Aside0.mk (below_step (by repeat (first | (with_reducible first | exact HB.out | apply below_alloc | apply pw_below_drewN | apply below_drew1) | exact HB.out)) hb); have n1_ := Aside0.mk (hbox); have n2_ := Aside0.mk ((by rw [hg]; exact (below_size (by repeat (first | (with_reducible first | exact HB.out | apply below_alloc | apply pw_below_drewN | apply below_drew1) | exact HB.out))) : w.heap.size ≤ gb110)); have n3_ := Aside0.mk ((by rw [hg]; exact (below_size (by repeat (first | (with_reducible first | exact HB.out | apply below_alloc | apply pw_below_drewN | apply below_drew1) | exact HB.out))) : w.heap.size ≤ gb110)); clear HB; have HB := n0_; have BK110 := n1_; have GW110 := n2_; have GE110 := n3_; clear n0_ n1_ n2_ n3_; clear hb hbox hg) | ((with_reducible refine gate_dst (N := 4) rfl ?_); refine box_event ?hg (N := 4) ?hd (cs := #[.int .i64 0, .int .i64 0]) (t := 32) ?hr ?_; (case hd => rfl); (case hg => rfl); (case hr => first | (go_simp; done) | (go_simp; rfl)); intro gb111 hg w10 hbox hb; have n0_ := Aside0.mk (blk_below (g := gb110) (o := .cells #[.int .i64 a0_0, .int .i64 a0_1] 32 (0, 0)) (by (with_reducible repeat (first | refine blk_drewN ?_ _ | refine blk_drew ?_ | refine blk_alloc ?_ _)); exact BK110.out) hb); have n1_ := Aside0.mk (below_step (by repeat (first | (with_reducible first | exact HB.out | apply below_alloc | apply pw_below_drewN | apply below_drew1 | refine below_set ?_ GE110.out) | exact HB.out)) hb); have n2_ := Aside0.mk (hbox); have n3_ := Aside0.mk ((by rw [hg]; exact (below_size (by repeat (first | (with_reducible first | exact HB.out | apply below_alloc | apply pw_below_drewN | apply below_drew1 | refine below_set ?_ GE110.out) | exact HB.out))) : w.heap.size ≤ gb111)); have n4_ := Aside0.mk ((by rw [hg]; exact (below_size (by repeat (first | (with_reducible first | exact HB.out | apply below_alloc | apply pw_below_drewN | apply below_drew1 | refine below_set ?_ GE110.out) | exact HB.out))) : w.heap.size ≤ gb111)); have n5_ := Aside0.mk ((by rw [hg]; exact Nat.ne_of_lt (blk_lt (g := gb110) (o := .cells #[.int .i64 a0_0, .int .i64 a0_1] 32 (0, 0)) (by (with_reducible repeat (first | refine blk_drewN ?_ _ | refine blk_drew ?_ | refine blk_alloc ?_ _)); exact BK110.out)) : gb110 ≠ gb111)); have n6_ := Aside0.mk ((by rw [hg]; exact Nat.ne_of_gt (blk_lt (g := gb110) (o := .cells #[.int .i64 a0_0, .int .i64 a0_1] 32 (0, 0)) (by (with_reducible repeat (first | refine blk_drewN ?_ _ | refine blk_drew ?_ | refine blk_alloc ?_ _)); exact BK110.out)) : gb111 ≠ gb110)); clear BK110; clear HB; have BK110 := n0_; have HB := n1_; have BK111 := n2_; have GW111 := n3_; have GE111 := n4_; have NB110_111 := n5_; have NB111_110 := n6_; clear n0_ n1_ n2_ n3_ n4_ n5_ n6_; clear hb hbox hg) | ((with_reducible refine gate_callee (f := 30) rfl ?_); refine goesL_ (some 7) rfl rfl Tryd.func30 (by kernel_rfl) rfl #[.string a1, .string (⟨#[10]⟩ : ByteArray)] rfl (by (try simp only [List.map_toArray, List.map_cons, List.map_nil]); first | done | rfl | (simp only [List.length_drop, List.length_take]; rfl) | (refine congrArg (fun z_ => #[z_]) (congrArg (Value.int IntKind.u64) (Eq.symm (Go.Proofs.YtjfklfmfeghjnacDoorAid.wrap_len _ (by omega)))))) ?_; (with_reducible refine (strings_Count.calls a1 (⟨#[10]⟩ : ByteArray) t112 _ A3.out).mono ?_); rintro e w' ⟨rfl, ⟨nd, rfl⟩⟩; refine ⟨_, rfl, ?_⟩; (try (rw [drewN_self w10]; generalize hq_ : World.drewN w10 _ = w10; have n0_ : Aside0 (w10.heap[gb110]? = some (.cells #[.int .i64 a0_0, .int .i64 a0_1] 32 (0, 0))) := ⟨by rw [← hq_]; exact (by (with_reducible repeat (first | refine blk_drewN ?_ _ | refine blk_drew ?_ | refine blk_alloc ?_ _)); exact BK110.out)⟩; have n1_ : Aside0 (w10.heap[gb111]? = some (.cells #[.int .i64 0, .int .i64 0] 32 (0, 0))) := ⟨by rw [← hq_]; exact (by (with_reducible repeat (first | refine blk_drewN ?_ _ | refine blk_drew ?_ | refine blk_alloc ?_ _)); exact BK111.out)⟩; have n2_ : Aside0 (Below w.heap.size w w10) := ⟨by rw [← hq_]; exact (by repeat (first | (with_reducible first | exact HB.out | apply below_alloc | apply pw_below_drewN | apply below_drew1 | refine below_set ?_ GE110.out | refine below_set ?_ GE111.out) | exact HB.out))⟩; clear BK110 BK111 HB hq_; have BK110 := n0_; have BK111 := n1_; have HB := n2_; clear n0_ n1_ n2_)); (try (have hczU110_0 : w10.cell? ⟨gb110, 0, none⟩ = some (.int .i64 a0_0) := (blk_cell BK110.out 0).trans rfl)); (try (have hczU110_1 : w10.cell? ⟨gb110, 1, none⟩ = some (.int .i64 a0_1) := (blk_cell BK110.out 1).trans rfl)); (try (have hczU111_0 : w10.cell? ⟨gb111, 0, none⟩ = some (.int .i64 0) := (blk_cell BK111.out 0).trans rfl)); (try (have hczU111_1 : w10.cell? ⟨gb111, 1, none⟩ = some (.int .i64 0) := (blk_cell BK111.out 1).trans rfl)); have hnb11 := NB110_111.out; have hnc11 := NB111_110.out; have hcz12_0 : w10.cell? ⟨gb110, 0, none⟩ = some (.int .i64 a0_0) := (blk_cell BK110.out 0).trans rfl; have hcz12_1 : w10.cell? ⟨gb110, 1, none⟩ = some (.int .i64 a0_1) := (blk_cell BK110.out 1).trans rfl; have hfz12_0 := blk_frozen BK110.out 0; have hfz12_1 := blk_frozen BK110.out 1) | ((with_reducible refine gate_callee (f := 31) rfl ?_); refine goesL_ (some 17) rfl rfl Tryd.func31 (by kernel_rfl) rfl #[.string a1, .int .u8 10] rfl (by (try simp only [List.map_toArray, List.map_cons, List.map_nil]); first | done | rfl | (simp only [List.length_drop, List.length_take]; rfl) | (refine congrArg (fun z_ => #[z_]) (congrArg (Value.int IntKind.u64) (Eq.symm (Go.Proofs.YtjfklfmfeghjnacDoorAid.wrap_len _ (by omega)))))) ?_; (with_reducible refine (strings_LastIndexByte.calls a1 10 t113 _ A5.out).mono ?_); rintro e w13 ⟨rfl, hb⟩; refine ⟨_, rfl, ?_⟩; have n0_ := Aside0.mk (blk_below (g := gb110) (o := .cells #[.int .i64 (wrap64 (a0_0 + t112)), .int .i64 1] 32 (0, 0)) (by (with_reducible repeat (first | refine blk_drewN ?_ _ | refine blk_drew ?_ | refine blk_alloc ?_ _)); refine blk_put (cs := #[.int .i64 (wrap64 (a0_0 + t112)), .int .i64 a0_1]) ?_ 1 _ rfl; (with_reducible repeat (first | refine blk_drewN ?_ _ | refine blk_drew ?_ | refine blk_alloc ?_ _)); refine blk_put (cs := #[.int .i64 a0_0, .int .i64 a0_1]) ?_ 0 _ rfl; (with_reducible repeat (first | refine blk_drewN ?_ _ | refine blk_drew ?_ | refine blk_alloc ?_ _)); exact BK110.out) hb); have n1_ := Aside0.mk (blk_below (g := gb111) (o := .cells #[.int .i64 0, .int .i64 0] 32 (0, 0)) (by (with_reducible repeat (first | refine blk_drewN ?_ _ | refine blk_drew ?_ | refine blk_alloc ?_ _)); refine blk_far ?_ NB111_110.out _; (with_reducible repeat (first | refine blk_drewN ?_ _ | refine blk_drew ?_ | refine blk_alloc ?_ _)); refine blk_far ?_ NB111_110.out _; (with_reducible repeat (first | refine blk_drewN ?_ _ | refine blk_drew ?_ | refine blk_alloc ?_ _)); exact BK111.out) hb); have n2_ := Aside0.mk (below_step (by repeat (first | (with_reducible first | exact HB.out | apply below_alloc | apply pw_below_drewN | apply below_drew1 | refine below_set ?_ GE110.out | refine below_set ?_ GE111.out) | exact HB.out)) hb); clear BK110; clear BK111; clear HB; have BK110 := n0_; have BK111 := n1_; have HB := n2_; clear n0_ n1_ n2_; (try clear hb); (try clear hb2); (try clear hk); (try clear hi); have hcz14_0 : w13.cell? ⟨gb110, 0, none⟩ = some (.int .i64 (wrap64 (a0_0 + t112))) := (blk_cell BK110.out 0).trans rfl; have hcz14_1 : w13.cell? ⟨gb110, 1, none⟩ = some (.int .i64 1) := (blk_cell BK110.out 1).trans rfl; have hfz14_0 := blk_frozen BK110.out 0; have hfz14_1 := blk_frozen BK110.out 1; have hcz15_0 : w13.cell? ⟨gb111, 0, none⟩ = some (.int .i64 0) := (blk_cell BK111.out 0).trans rfl; have hcz15_1 : w13.cell? ⟨gb111, 1, none⟩ = some (.int .i64 0) := (blk_cell BK111.out 1).trans rfl; have hfz15_0 := blk_frozen BK111.out 0; have hfz15_1 := blk_frozen BK111.out 1))
        refine bodyPost_ret (results_cell_row rfl _ _ gb111 32 #[.int .i64 (wrap64 (a0_0 + t112)), .int .i64 (wrap64 (1 + ((a1.size - (ji6 : Int).toNat : Nat) : Int)))] (0, 0) _ rfl (by (with_reducible repeat (first | refine blk_drewN ?_ _ | refine blk_drew ?_ | refine blk_alloc ?_ _)); refine blk_put (cs := #[.int .i64 (wrap64 (a0_0 + t112)), .int .i64 0]) ?_ 1 _ rfl; (with_reducible repeat (first | refine blk_drewN ?_ _ | refine blk_drew ?_ | refine blk_alloc ?_ _)); refine blk_put (cs := #[.int .i64 0, .int .i64 0]) ?_ 0 _ rfl; (with_reducible repeat (first | refine blk_drewN ?_ _ | refine blk_drew ?_ | refine blk_alloc ?_ _)); refine blk_far ?_ NB111_110.out _; (with_reducible repeat (first | refine blk_drewN ?_ _ | refine blk_drew ?_ | refine blk_alloc ?_ _)); exact BK111.out) Tryd.underlying32 rfl (by kernel_rfl)) rfl ?_
        exact ⟨by first | rfl | (simp [errW_none, errW_some] <;> rfl) | (simp only [← hji6]; first | rfl | (simp [errW_none, errW_some] <;> rfl)) | (simp [*, errW_none, errW_some] <;> rfl), by repeat (first | (with_reducible first | exact HB.out | apply below_alloc | apply pw_below_drewN | apply below_drew1 | refine below_set ?_ GE110.out | refine below_set ?_ GE111.out) | exact HB.out)⟩
      · rw [if_neg c8] at H
        exact absurd H (by simp)
    · rw [if_neg c7] at H
      exact absurd H (by simp)
  · rw [if_neg c4] at H
    have c4b0 : decide (0 < t112) = false := decide_eq_false c4
    clear c4
    try simp only [ByteArray.size_extract, Nat.min_self] at H
    simp only [Option.some.injEq, Prod.mk.injEq] at H
    obtain ⟨rfl, rfl⟩ := H
    go_enter Tryd.func19, Tryd.ntmps19
    go_wp2_with (first | ((with_reducible refine gate_dst (N := 2) rfl ?_); refine box_event ?hg (N := 2) ?hd (cs := #[.int .i64 a0_0, .int .i64 a0_1]) (t := 32) ?hr ?_; (case hd => rfl); (case hg => rfl); (case hr => first | (go_simp; done) | (go_simp; rfl)); intro gb110 hg w16 hbox hb; have n0_ := Aside0.mk (below_step (by repeat (first | (with_reducible first | exact HB.out | apply below_alloc | apply pw_below_drewN | apply below_drew1) | exact HB.out)) hb); have n1_ := Aside0.mk (hbox); have n2_ := Aside0.mk ((by rw [hg]; exact (below_size (by repeat (first | (with_reducible first | exact HB.out | apply below_alloc | apply pw_below_drewN | apply below_drew1) | exact HB.out))) : w.heap.size ≤ gb110)); have n3_ := Aside0.mk ((by rw [hg]; exact (below_size (by repeat (first | (with_reducible first | exact HB.out | apply below_alloc | apply pw_below_drewN | apply below_drew1) | exact HB.out))) : w.heap.size ≤ gb110)); clear HB; have HB := n0_; have BK110 := n1_; have GW110 := n2_; have GE110 := n3_; clear n0_ n1_ n2_ n3_; clear hb hbox hg) | ((with_reducible refine gate_dst (N := 4) rfl ?_); refine box_event ?hg (N := 4) ?hd (cs := #[.int .i64 0, .int .i64 0]) (t := 32) ?hr ?_; (case hd => rfl); (case hg => rfl); (case hr => first | (go_simp; done) | (go_simp; rfl)); intro gb111 hg w17 hbox hb; have n0_ := Aside0.mk (blk_below (g := gb110) (o := .cells #[.int .i64 a0_0, .int .i64 a0_1] 32 (0, 0)) (by (with_reducible repeat (first | refine blk_drewN ?_ _ | refine blk_drew ?_ | refine blk_alloc ?_ _)); exact BK110.out) hb); have n1_ := Aside0.mk (below_step (by repeat (first | (with_reducible first | exact HB.out | apply below_alloc | apply pw_below_drewN | apply below_drew1 | refine below_set ?_ GE110.out) | exact HB.out)) hb); have n2_ := Aside0.mk (hbox); have n3_ := Aside0.mk ((by rw [hg]; exact (below_size (by repeat (first | (with_reducible first | exact HB.out | apply below_alloc | apply pw_below_drewN | apply below_drew1 | refine below_set ?_ GE110.out) | exact HB.out))) : w.heap.size ≤ gb111)); have n4_ := Aside0.mk ((by rw [hg]; exact (below_size (by repeat (first | (with_reducible first | exact HB.out | apply below_alloc | apply pw_below_drewN | apply below_drew1 | refine below_set ?_ GE110.out) | exact HB.out))) : w.heap.size ≤ gb111)); have n5_ := Aside0.mk ((by rw [hg]; exact Nat.ne_of_lt (blk_lt (g := gb110) (o := .cells #[.int .i64 a0_0, .int .i64 a0_1] 32 (0, 0)) (by (with_reducible repeat (first | refine blk_drewN ?_ _ | refine blk_drew ?_ | refine blk_alloc ?_ _)); exact BK110.out)) : gb110 ≠ gb111)); have n6_ := Aside0.mk ((by rw [hg]; exact Nat.ne_of_gt (blk_lt (g := gb110) (o := .cells #[.int .i64 a0_0, .int .i64 a0_1] 32 (0, 0)) (by (with_reducible repeat (first | refine blk_drewN ?_ _ | refine blk_drew ?_ | refine blk_alloc ?_ _)); exact BK110.out)) : gb111 ≠ gb110)); clear BK110; clear HB; have BK110 := n0_; have HB := n1_; have BK111 := n2_; have GW111 := n3_; have GE111 := n4_; have NB110_111 := n5_; have NB111_110 := n6_; clear n0_ n1_ n2_ n3_ n4_ n5_ n6_; clear hb hbox hg) | ((with_reducible refine gate_callee (f := 30) rfl ?_); refine goesL_ (some 7) rfl rfl Tryd.func30 (by kernel_rfl) rfl #[.string a1, .string (⟨#[10]⟩ : ByteArray)] rfl (by (try simp only [List.map_toArray, List.map_cons, List.map_nil]); first | done | rfl | (simp only [List.length_drop, List.length_take]; rfl) | (refine congrArg (fun z_ => #[z_]) (congrArg (Value.int IntKind.u64) (Eq.symm (Go.Proofs.YtjfklfmfeghjnacDoorAid.wrap_len _ (by omega)))))) ?_; (with_reducible refine (strings_Count.calls a1 (⟨#[10]⟩ : ByteArray) t112 _ A3.out).mono ?_); rintro e w' ⟨rfl, ⟨nd, rfl⟩⟩; refine ⟨_, rfl, ?_⟩; (try (rw [drewN_self w17]; generalize hq_ : World.drewN w17 _ = w17; have n0_ : Aside0 (w17.heap[gb110]? = some (.cells #[.int .i64 a0_0, .int .i64 a0_1] 32 (0, 0))) := ⟨by rw [← hq_]; exact (by (with_reducible repeat (first | refine blk_drewN ?_ _ | refine blk_drew ?_ | refine blk_alloc ?_ _)); exact BK110.out)⟩; have n1_ : Aside0 (w17.heap[gb111]? = some (.cells #[.int .i64 0, .int .i64 0] 32 (0, 0))) := ⟨by rw [← hq_]; exact (by (with_reducible repeat (first | refine blk_drewN ?_ _ | refine blk_drew ?_ | refine blk_alloc ?_ _)); exact BK111.out)⟩; have n2_ : Aside0 (Below w.heap.size w w17) := ⟨by rw [← hq_]; exact (by repeat (first | (with_reducible first | exact HB.out | apply below_alloc | apply pw_below_drewN | apply below_drew1 | refine below_set ?_ GE110.out | refine below_set ?_ GE111.out) | exact HB.out))⟩; clear BK110 BK111 HB hq_; have BK110 := n0_; have BK111 := n1_; have HB := n2_; clear n0_ n1_ n2_)); (try (have hczU110_0 : w17.cell? ⟨gb110, 0, none⟩ = some (.int .i64 a0_0) := (blk_cell BK110.out 0).trans rfl)); (try (have hczU110_1 : w17.cell? ⟨gb110, 1, none⟩ = some (.int .i64 a0_1) := (blk_cell BK110.out 1).trans rfl)); (try (have hczU111_0 : w17.cell? ⟨gb111, 0, none⟩ = some (.int .i64 0) := (blk_cell BK111.out 0).trans rfl)); (try (have hczU111_1 : w17.cell? ⟨gb111, 1, none⟩ = some (.int .i64 0) := (blk_cell BK111.out 1).trans rfl)); have hnb18 := NB110_111.out; have hnc18 := NB111_110.out; have hcz19_0 : w17.cell? ⟨gb110, 0, none⟩ = some (.int .i64 a0_0) := (blk_cell BK110.out 0).trans rfl; have hcz19_1 : w17.cell? ⟨gb110, 1, none⟩ = some (.int .i64 a0_1) := (blk_cell BK110.out 1).trans rfl; have hfz19_0 := blk_frozen BK110.out 0; have hfz19_1 := blk_frozen BK110.out 1; have hcz20_0 : w17.cell? ⟨gb111, 0, none⟩ = some (.int .i64 0) := (blk_cell BK111.out 0).trans rfl; have hcz20_1 : w17.cell? ⟨gb111, 1, none⟩ = some (.int .i64 0) := (blk_cell BK111.out 1).trans rfl; have hfz20_0 := blk_frozen BK111.out 0; have hfz20_1 := blk_frozen BK111.out 1))
    refine bodyPost_ret (results_cell_row rfl _ _ gb111 32 #[.int .i64 a0_0, .int .i64 (wrap64 (a0_1 + (a1.size : Int)))] (0, 0) _ rfl (by (with_reducible repeat (first | refine blk_drewN ?_ _ | refine blk_drew ?_ | refine blk_alloc ?_ _)); refine blk_put (cs := #[.int .i64 a0_0, .int .i64 0]) ?_ 1 _ rfl; (with_reducible repeat (first | refine blk_drewN ?_ _ | refine blk_drew ?_ | refine blk_alloc ?_ _)); refine blk_put (cs := #[.int .i64 0, .int .i64 0]) ?_ 0 _ rfl; (with_reducible repeat (first | refine blk_drewN ?_ _ | refine blk_drew ?_ | refine blk_alloc ?_ _)); refine blk_far ?_ NB111_110.out _; (with_reducible repeat (first | refine blk_drewN ?_ _ | refine blk_drew ?_ | refine blk_alloc ?_ _)); exact BK111.out) Tryd.underlying32 rfl (by kernel_rfl)) rfl ?_
    exact ⟨by first | rfl | (simp [errW_none, errW_some] <;> rfl) | (simp [*, errW_none, errW_some] <;> rfl), by repeat (first | (with_reducible first | exact HB.out | apply below_alloc | apply pw_below_drewN | apply below_drew1 | refine below_set ?_ GE110.out | refine below_set ?_ GE111.out) | exact HB.out)⟩

/-! ### lex_End: function 17 -/
def lex_End.f (a0 : ByteArray) : Option (Int × Int) := (lex_on.f 1 1 a0).bind fun bt115 => (some (bt115.1, bt115.2))
set_option maxHeartbeats 8000000 in
set_option maxRecDepth 100000 in
theorem lex_End.calls (a0 : ByteArray) (r1 : Int) (r2 : Int) (w : World) (h : lex_End.f a0 = some (r1, r2)) :
    Calls Tryd.prog 17 #[.string a0] w fun e w' => e = .returned (.agg #[.int .i64 r1, .int .i64 r2]) ∧ Below w.heap.size w w' := by
  have hu32 := Tryd.underlying32
  have HB := Aside0.mk (Below.refl w.heap.size w)
  have H : ((lex_on.f 1 1 a0).bind fun bt115 => (some (bt115.1, bt115.2))) = some (r1, r2) := h
  clear h
  replace H := Option.bind_eq_some_iff.mp H
  obtain ⟨⟨t115, t116⟩, A20, H⟩ := H
  replace H : (some (t115, t116)) = some (r1, r2) := H
  have A2 := Aside0.mk A20
  clear A20
  simp only [Option.some.injEq, Prod.mk.injEq] at H
  obtain ⟨rfl, rfl⟩ := H
  go_enter Tryd.func17, Tryd.ntmps17
  go_wp2_with (first | ((with_reducible refine gate_dst (N := 2) rfl ?_); refine box_event ?hg (N := 2) ?hd (cs := #[.int .i64 0, .int .i64 0]) (t := 32) ?hr ?_; (case hd => rfl); (case hg => rfl); (case hr => first | (go_simp; done) | (go_simp; rfl)); intro gb114 hg w3 hbox hb; have n0_ := Aside0.mk (below_step (by repeat (first | (with_reducible first | exact HB.out | apply below_alloc | apply pw_below_drewN | apply below_drew1) | exact HB.out)) hb); have n1_ := Aside0.mk (hbox); have n2_ := Aside0.mk ((by rw [hg]; exact (below_size (by repeat (first | (with_reducible first | exact HB.out | apply below_alloc | apply pw_below_drewN | apply below_drew1) | exact HB.out))) : w.heap.size ≤ gb114)); have n3_ := Aside0.mk ((by rw [hg]; exact (below_size (by repeat (first | (with_reducible first | exact HB.out | apply below_alloc | apply pw_below_drewN | apply below_drew1) | exact HB.out))) : w.heap.size ≤ gb114)); clear HB; have HB := n0_; have BK114 := n1_; have GW114 := n2_; have GE114 := n3_; clear n0_ n1_ n2_ n3_; clear hb hbox hg) | ((with_reducible refine gate_callee (f := 19) rfl ?_); refine goesL_ (some 5) rfl rfl Tryd.func19 (by kernel_rfl) rfl #[.agg #[.int .i64 1, .int .i64 1], .string a0] rfl (by (try simp only [List.map_toArray, List.map_cons, List.map_nil]); first | done | rfl | (simp only [List.length_drop, List.length_take]; rfl) | (refine congrArg (fun z_ => #[z_]) (congrArg (Value.int IntKind.u64) (Eq.symm (Go.Proofs.YtjfklfmfeghjnacDoorAid.wrap_len _ (by omega)))))) ?_; (with_reducible refine (lex_on.calls 1 1 a0 t115 t116 _ A2.out).mono ?_); rintro e w4 ⟨rfl, hb⟩; refine ⟨_, rfl, ?_⟩; have n0_ := Aside0.mk (blk_below (g := gb114) (o := .cells #[.int .i64 0, .int .i64 0] 32 (0, 0)) (by (with_reducible repeat (first | refine blk_drewN ?_ _ | refine blk_drew ?_ | refine blk_alloc ?_ _)); exact BK114.out) hb); have n1_ := Aside0.mk (below_step (by repeat (first | (with_reducible first | exact HB.out | apply below_alloc | apply pw_below_drewN | apply below_drew1 | refine below_set ?_ GE114.out) | exact HB.out)) hb); clear BK114; clear HB; have BK114 := n0_; have HB := n1_; clear n0_ n1_; (try clear hb); (try clear hb2); (try clear hk); (try clear hi); have hcz5_0 : w4.cell? ⟨gb114, 0, none⟩ = some (.int .i64 0) := (blk_cell BK114.out 0).trans rfl; have hcz5_1 : w4.cell? ⟨gb114, 1, none⟩ = some (.int .i64 0) := (blk_cell BK114.out 1).trans rfl; have hfz5_0 := blk_frozen BK114.out 0; have hfz5_1 := blk_frozen BK114.out 1))
  refine bodyPost_ret (results_cell_row rfl _ _ gb114 32 #[.int .i64 t115, .int .i64 t116] (0, 0) _ rfl (by (with_reducible repeat (first | refine blk_drewN ?_ _ | refine blk_drew ?_ | refine blk_alloc ?_ _)); refine blk_put (cs := #[.int .i64 t115, .int .i64 0]) ?_ 1 _ rfl; (with_reducible repeat (first | refine blk_drewN ?_ _ | refine blk_drew ?_ | refine blk_alloc ?_ _)); refine blk_put (cs := #[.int .i64 0, .int .i64 0]) ?_ 0 _ rfl; (with_reducible repeat (first | refine blk_drewN ?_ _ | refine blk_drew ?_ | refine blk_alloc ?_ _)); exact BK114.out) Tryd.underlying32 rfl (by kernel_rfl)) rfl ?_
  exact ⟨by first | rfl | (simp [errW_none, errW_some] <;> rfl) | (simp [*, errW_none, errW_some] <;> rfl), by repeat (first | (with_reducible first | exact HB.out | apply below_alloc | apply pw_below_drewN | apply below_drew1 | refine below_set ?_ GE114.out) | exact HB.out)⟩

/-! ### strings_IndexByte: function 18 -/
def strings_IndexByte.f (a0 : ByteArray) (a1 : Int) : Option Int := some (Lib.indexByte a0.data.toList a1.toNat.toUInt8)
theorem strings_IndexByte.calls (a0 : ByteArray) (a1 : Int) (r : Int) (w : World) (h : strings_IndexByte.f a0 a1 = some r) :
    Calls Tryd.prog 18 #[.string a0, .int .u8 a1] w fun e w' => e = .returned (.int .i64 r) ∧ Drawn0 w w' := by
  unfold strings_IndexByte.f at h
  obtain rfl := Option.some.inj h
  refine (Go.Proofs.Tryd.strings_IndexByte a0 a1 w).mono ?_
  rintro e w' ⟨rfl, rfl⟩
  exact ⟨rfl, 0, rfl⟩

/-! ### lex_shapes_1: function 26 -/
def lex_shapes_1.f (k : Nat) (s0_0 : Int) (a1 : Int) (a2 : ByteArray) : Option (Int × Int) :=
  if a1 = 0 then some (0, s0_0) else if a1 = 1 then (lex_many.l0 (fun x => some (decide (x = 64))) k (a2.extract 0 (min 1 a2.size)) 0).bind fun t => some (t, s0_0)
  else if a1 = 2 then (lex_many.l0 (fun x => some (decide (x = 40))) k (a2.extract 0 (min 1 a2.size)) 0).bind fun t => some (t, s0_0)
  else if a1 = 3 then (lex_many.l0 (fun x => some (decide (x = 41))) k (a2.extract 0 (min 1 a2.size)) 0).bind fun t => some (t, s0_0)
  else if a1 = 4 then (lex_many.l0 (fun x => some (decide (x = 44))) k (a2.extract 0 (min 1 a2.size)) 0).bind fun t => some (t, s0_0)
  else if a1 = 5 then (lex_word.f k a2).bind fun t => some (t, s0_0) else if a1 = 6 then (lex_number.f k a2).bind fun t => some (t, s0_0) else none
theorem lex_shapes_1.mono : ∀ a0 a1 a2 k, LeO (lex_shapes_1.f k a0 a1 a2) (lex_shapes_1.f (k + 1) a0 a1 a2) := by
  intro a0 a1 a2 k
  unfold lex_shapes_1.f
  repeat' first
      | (with_reducible exact lex_many.mono_l _ _ _ _)
      | (with_reducible exact lex_word.mono _ _)
      | (with_reducible exact lex_number.mono _ _)
      | (with_reducible exact LeO.refl _)
      | (with_reducible exact LeO.none _)
      | (with_reducible refine LeO.ite ?_ ?_)
      | (with_reducible refine LeO.bind ?_ (fun _ => ?_))
set_option maxRecDepth 100000 in
theorem lex_shapes_1.cases {k : Nat} {s0_0 a1 : Int} {a2 : ByteArray} {r : Int × Int} (h : lex_shapes_1.f k s0_0 a1 a2 = some r) : a1 = 0 ∨ a1 = 1 ∨ a1 = 2 ∨ a1 = 3 ∨ a1 = 4 ∨ a1 = 5 ∨ a1 = 6 := by
  unfold lex_shapes_1.f at h
  repeat' split at h
  all_goals first | omega | cases h
theorem lex_shapes_1.lo {k : Nat} {s0_0 a1 : Int} {a2 : ByteArray} {r : Int × Int} (h : lex_shapes_1.f k s0_0 a1 a2 = some r) : 0 ≤ a1 := by
  have := lex_shapes_1.cases h; omega
theorem lex_shapes_1.hi {k : Nat} {s0_0 a1 : Int} {a2 : ByteArray} {r : Int × Int} (h : lex_shapes_1.f k s0_0 a1 a2 = some r) : a1 < 7 := by
  have := lex_shapes_1.cases h; omega
def fnOf (i : Int) : FuncId := if i = 0 then 26 else if i ≤ 4 then 41 else if i = 5 then 28 else 10
def capsOf (g : Nat) (i : Int) : Array Value := if i = 0 then #[] else if i = 1 then #[.pointer (some ⟨g, 0, none⟩)] else if i = 2 then #[.pointer (some ⟨g + 1, 0, none⟩)] else if i = 3 then #[.pointer (some ⟨g + 2, 0, none⟩)] else if i = 4 then #[.pointer (some ⟨g + 3, 0, none⟩)] else #[]
def fvOf (g : Nat) (i : Int) : Value := .func (.func (fnOf i)) #[] (capsOf g i)
theorem lex_store_fv (W : World) (ad : Addr) (g : Nat) (i : Int) : (store ad (fvOf g i)).run Tryd.prog W = stored Tryd.prog W ad (fvOf g i) .plain := run_store Tryd.prog W ad _ _ rfl
set_option maxRecDepth 100000 in
theorem lex_index_step {ops : Array Oper} {rest : List Oper} {o : Oper} {a : Act} {W : World} {Q : Exit → Act → World → Prop} {N : Tmp} (hd : o.dst = some N) (hgd : o.guard = none) (x y : Operand) (ho : o.op = .index 49 x y) (g : Nat) (i : Int)
    (hx : a.eval x = .agg #[.func (.func 26) #[] #[], .func (.func 41) #[] #[.pointer (some ⟨g, 0, none⟩)], .func (.func 41) #[] #[.pointer (some ⟨g + 1, 0, none⟩)], .func (.func 41) #[] #[.pointer (some ⟨g + 2, 0, none⟩)], .func (.func 41) #[] #[.pointer (some ⟨g + 3, 0, none⟩)], .func (.func 28) #[] #[], .func (.func 10) #[] #[]])
    (hy : a.eval y = .int .i64 i) (h0 : 0 ≤ i) (h7 : i < 7) (h : wpList Tryd.prog ops Q rest (a.put (some N) (.agg #[fvOf g i])) W) : wpList Tryd.prog ops Q (o :: rest) a W := by
  rw [← hd] at h
  refine Kd.event_run hgd ?_ h
  unfold execOp
  simp only [ho, hx, hy]
  obtain rfl | rfl | rfl | rfl | rfl | rfl | rfl : i = 0 ∨ i = 1 ∨ i = 2 ∨ i = 3 ∨ i = 4 ∨ i = 5 ∨ i = 6 := by omega
  all_goals (go_simp; try rfl)
set_option maxRecDepth 100000 in
theorem lex_shape_step {ops : Array Oper} {rest : List Oper} {oi : Oper} {a : Act} {w : World} {Q : Exit → Act → World → Prop} {N : Tmp} (hd : oi.dst = some N) (hgd : oi.guard = none) {fo : Operand} {as_ : Array Operand} {ts : Array TypeId} (hop : oi.op = .call { callee := .value fo, args := as_, argTypes := ts })
    (g : Nat) (i : Int) (s : ByteArray) (hfo : a.eval fo = fvOf g i) (hargs : as_.map a.eval = #[.string s]) (h0 : 0 ≤ i) (h7 : i < 7)
    (h : Calls Tryd.prog (fnOf i) (#[.string s] ++ capsOf g i) w fun e w' => ∃ v, e = .returned v ∧ wpList Tryd.prog ops Q rest (a.put (some N) v) w') : wpList Tryd.prog ops Q (oi :: rest) a w := by
  obtain ⟨fn, h1, h2, h3⟩ : ∃ fn, Tryd.prog.funcs[fnOf i]? = some fn ∧ (fn.name == "runtime.NumGoroutine") = false ∧ fn.body.isSome = true := by
    obtain rfl | rfl | rfl | rfl | rfl | rfl | rfl : i = 0 ∨ i = 1 ∨ i = 2 ∨ i = 3 ∨ i = 4 ∨ i = 5 ∨ i = 6 := by omega
    · exact ⟨_, Tryd.func26, by kernel_rfl, rfl⟩
    · exact ⟨_, Tryd.func41, by kernel_rfl, rfl⟩
    · exact ⟨_, Tryd.func41, by kernel_rfl, rfl⟩
    · exact ⟨_, Tryd.func41, by kernel_rfl, rfl⟩
    · exact ⟨_, Tryd.func41, by kernel_rfl, rfl⟩
    · exact ⟨_, Tryd.func28, by kernel_rfl, rfl⟩
    · exact ⟨_, Tryd.func10, by kernel_rfl, rfl⟩
  exact Go.Proofs.YtjfklfmfeghjnacDoorAid.goesV_ (some N) hd hgd h1 h2 h3 #[.string s] (capsOf g i) fo hop hfo hargs h
set_option maxHeartbeats 8000000 in
set_option maxRecDepth 100000 in
theorem lex_shapes_1.calls (k : Nat) (g : Nat) (s0_0 : Int) (a1 : Int) (a2 : ByteArray) (r1 r2 : Int) (w0 w : World) (hI : IsS48 w0 w g s0_0) (hB : Below w0.heap.size w0 w) (h : lex_shapes_1.f k s0_0 a1 a2 = some (r1, r2)) :
    Calls Tryd.prog (fnOf a1) (#[.string a2] ++ capsOf g a1) w fun e w' => e = .returned (.int .i64 r1) ∧ IsS48 w0 w' g r2 ∧ Below w0.heap.size w0 w' ∧ KeepBut w w' g none := by
  have hfin : ∀ {e : Ending} {w' : World}, e = .returned (.int .i64 r1) → Drawn0 w w' → s0_0 = r2 → e = .returned (.int .i64 r1) ∧ IsS48 w0 w' g r2 ∧ Below w0.heap.size w0 w' ∧ KeepBut w w' g none := by
    rintro e w' rfl ⟨m, rfl⟩ rfl
    exact ⟨rfl, IsS48.drewN hI m, pw_below_drewN hB m, keep_drewN (KeepBut.refl w g none) m⟩
  have hS : ∀ (gb : Nat) (c : Int), w.heap[gb]? = some (.cells #[.int .u8 c] 5 (0, 0)) → ((lex_many.l0 (fun x => some (decide (x = c))) k (a2.extract 0 (min 1 a2.size)) 0).bind fun t => some (t, s0_0)) = some (r1, r2) →
      Calls Tryd.prog 41 #[.string a2, .pointer (some ⟨gb, 0, none⟩)] w fun e w' => e = .returned (.int .i64 r1) ∧ IsS48 w0 w' g r2 ∧ Below w0.heap.size w0 w' ∧ KeepBut w w' g none := by
    intro gb c hb hh
    obtain ⟨t, h1, h2⟩ := Option.bind_eq_some_iff.mp hh
    simp only [Option.some.injEq, Prod.mk.injEq] at h2
    obtain ⟨rfl, h2⟩ := h2
    exact (lex_sign_1.calls k gb c a2 t w ((blk_cell hb 0).trans rfl) h1).mono fun e w' hq => hfin hq.1 hq.2 h2
  obtain rfl | rfl | rfl | rfl | rfl | rfl | rfl := lex_shapes_1.cases h
  · have h' : some (0, s0_0) = some (r1, r2) := h
    simp only [Option.some.injEq, Prod.mk.injEq] at h'
    obtain ⟨rfl, h2⟩ := h'
    show Calls Tryd.prog 26 #[.string a2] w _
    go_enter Tryd.func26, Tryd.ntmps26
    go_wp2
    go_ret
    exact hfin rfl (by repeat (first | exact Drawn0.refl _ | apply Drawn0.step)) h2
  · exact hS g 64 hI.1.1 h
  · exact hS (g + 1) 40 hI.1.2.1 h
  · exact hS (g + 2) 41 hI.1.2.2.1 h
  · exact hS (g + 3) 44 hI.1.2.2.2 h
  · have h' : ((lex_word.f k a2).bind fun t => some (t, s0_0)) = some (r1, r2) := h
    obtain ⟨t, h1, h2⟩ := Option.bind_eq_some_iff.mp h'
    simp only [Option.some.injEq, Prod.mk.injEq] at h2
    obtain ⟨rfl, h2⟩ := h2
    show Calls Tryd.prog 28 #[.string a2] w _
    exact (lex_word.calls k a2 t w h1).mono fun e w' hq => hfin hq.1 hq.2 h2
  · have h' : ((lex_number.f k a2).bind fun t => some (t, s0_0)) = some (r1, r2) := h
    obtain ⟨t, h1, h2⟩ := Option.bind_eq_some_iff.mp h'
    simp only [Option.some.injEq, Prod.mk.injEq] at h2
    obtain ⟨rfl, h2⟩ := h2
    show Calls Tryd.prog 10 #[.string a2] w _
    exact (lex_number.calls k a2 t w h1).mono fun e w' hq => hfin hq.1 hq.2 h2

/-! ### quote_digit: function 56 -/
def quote_digit.f (a0 : Int) : Option (Int × Bool) := if a0 ≥ 65 then (if a0 ≤ 70 then ((strings_IndexByte.f (⟨#[48, 49, 50, 51, 52, 53, 54, 55, 56, 57, 97, 98, 99, 100, 101, 102]⟩ : ByteArray) ((a0 + 32) % 256)).bind fun t117 => (some ((mx t117 0) % 256, decide (t117 ≥ 0)))) else ((strings_IndexByte.f (⟨#[48, 49, 50, 51, 52, 53, 54, 55, 56, 57, 97, 98, 99, 100, 101, 102]⟩ : ByteArray) a0).bind fun t118 => (some ((mx t118 0) % 256, decide (t118 ≥ 0))))) else ((strings_IndexByte.f (⟨#[48, 49, 50, 51, 52, 53, 54, 55, 56, 57, 97, 98, 99, 100, 101, 102]⟩ : ByteArray) a0).bind fun t119 => (some ((mx t119 0) % 256, decide (t119 ≥ 0))))
set_option maxHeartbeats 8000000 in
set_option maxRecDepth 100000 in
theorem quote_digit.calls (a0 : Int) (r1 : Int) (r2 : Bool) (w : World) (h : quote_digit.f a0 = some (r1, r2)) :
    Calls Tryd.prog 56 #[.int .u8 a0] w fun e w' => e = .returned (.tuple #[.int .u8 r1, .bool r2]) ∧ Below w.heap.size w w' := by
  have HB := Aside0.mk (Below.refl w.heap.size w)
  have H : (if a0 ≥ 65 then (if a0 ≤ 70 then ((strings_IndexByte.f (⟨#[48, 49, 50, 51, 52, 53, 54, 55, 56, 57, 97, 98, 99, 100, 101, 102]⟩ : ByteArray) ((a0 + 32) % 256)).bind fun t117 => (some ((mx t117 0) % 256, decide (t117 ≥ 0)))) else ((strings_IndexByte.f (⟨#[48, 49, 50, 51, 52, 53, 54, 55, 56, 57, 97, 98, 99, 100, 101, 102]⟩ : ByteArray) a0).bind fun t118 => (some ((mx t118 0) % 256, decide (t118 ≥ 0))))) else ((strings_IndexByte.f (⟨#[48, 49, 50, 51, 52, 53, 54, 55, 56, 57, 97, 98, 99, 100, 101, 102]⟩ : ByteArray) a0).bind fun t119 => (some ((mx t119 0) % 256, decide (t119 ≥ 0))))) = some (r1, r2) := h
  clear h
  by_cases c2 : a0 ≥ 65
  · rw [if_pos c2] at H
    have c2b0 : decide (65 ≤ a0) = true := decide_eq_true c2
    clear c2
    by_cases c3 : a0 ≤ 70
    · rw [if_pos c3] at H
      have c3b0 : decide (a0 ≤ 70) = true := decide_eq_true c3
      clear c3
      replace H := Option.bind_eq_some_iff.mp H
      obtain ⟨t117, A40, H⟩ := H
      replace H : (some ((mx t117 0) % 256, decide (t117 ≥ 0))) = some (r1, r2) := H
      have A4 := Aside0.mk A40
      clear A40
      obtain ⟨ji5, hji5⟩ : ∃ j_ : Int, (mx t117 0) = j_ := ⟨_, rfl⟩
      replace H : (some ((ji5) % 256, decide (t117 ≥ 0))) = some (r1, r2) := by first | (rw [hji5] at H; exact H) | (simp only [hji5] at H ⊢; exact H)
      (try rw [hji5] at A4)
      (try (have hji5l : 0 ≤ ji5 := by (rw [← hji5]; unfold mx; (repeat' split) <;> omega)))
      (try (have hji5m : 0 ≤ ji5 := by omega))
      have hji5_ : (if t117 < 0 then 0 else t117) = ji5 := hji5
      simp only [Option.some.injEq, Prod.mk.injEq] at H
      obtain ⟨rfl, rfl⟩ := H
      go_enter Tryd.func56, Tryd.ntmps56
      go_wp2_with (first | ((with_reducible refine gate_callee (f := 18) rfl ?_); refine goesL_ (some 14) rfl rfl Tryd.func18 (by kernel_rfl) rfl #[.string (⟨#[48, 49, 50, 51, 52, 53, 54, 55, 56, 57, 97, 98, 99, 100, 101, 102]⟩ : ByteArray), .int .u8 ((a0 + 32) % 256)] rfl (by (try simp only [List.map_toArray, List.map_cons, List.map_nil]); first | done | rfl | (simp only [List.length_drop, List.length_take]; rfl) | (refine congrArg (fun z_ => #[z_]) (congrArg (Value.int IntKind.u64) (Eq.symm (Go.Proofs.YtjfklfmfeghjnacDoorAid.wrap_len _ (by omega)))))) ?_; (with_reducible refine (strings_IndexByte.calls (⟨#[48, 49, 50, 51, 52, 53, 54, 55, 56, 57, 97, 98, 99, 100, 101, 102]⟩ : ByteArray) ((a0 + 32) % 256) t117 _ A4.out).mono ?_); rintro e w' ⟨rfl, ⟨nd, rfl⟩⟩; refine ⟨_, rfl, ?_⟩))
      go_ret2
      exact ⟨by first | rfl | (simp [errW_none, errW_some] <;> rfl) | (simp only [← hji5]; first | rfl | (simp [errW_none, errW_some] <;> rfl)) | (simp [*, errW_none, errW_some] <;> rfl), by repeat (first | (with_reducible first | exact HB.out | apply below_alloc | apply pw_below_drewN | apply below_drew1) | exact HB.out)⟩
    · rw [if_neg c3] at H
      have c3b0 : decide (a0 ≤ 70) = false := decide_eq_false c3
      clear c3
      replace H := Option.bind_eq_some_iff.mp H
      obtain ⟨t118, A60, H⟩ := H
      replace H : (some ((mx t118 0) % 256, decide (t118 ≥ 0))) = some (r1, r2) := H
      have A6 := Aside0.mk A60
      clear A60
      obtain ⟨ji7, hji7⟩ : ∃ j_ : Int, (mx t118 0) = j_ := ⟨_, rfl⟩
      replace H : (some ((ji7) % 256, decide (t118 ≥ 0))) = some (r1, r2) := by first | (rw [hji7] at H; exact H) | (simp only [hji7] at H ⊢; exact H)
      (try rw [hji7] at A6)
      (try (have hji7l : 0 ≤ ji7 := by (rw [← hji7]; unfold mx; (repeat' split) <;> omega)))
      (try (have hji7m : 0 ≤ ji7 := by omega))
      have hji7_ : (if t118 < 0 then 0 else t118) = ji7 := hji7
      simp only [Option.some.injEq, Prod.mk.injEq] at H
      obtain ⟨rfl, rfl⟩ := H
      go_enter Tryd.func56, Tryd.ntmps56
      go_wp2_with (first | ((with_reducible refine gate_callee (f := 18) rfl ?_); refine goesL_ (some 14) rfl rfl Tryd.func18 (by kernel_rfl) rfl #[.string (⟨#[48, 49, 50, 51, 52, 53, 54, 55, 56, 57, 97, 98, 99, 100, 101, 102]⟩ : ByteArray), .int .u8 a0] rfl (by (try simp only [List.map_toArray, List.map_cons, List.map_nil]); first | done | rfl | (simp only [List.length_drop, List.length_take]; rfl) | (refine congrArg (fun z_ => #[z_]) (congrArg (Value.int IntKind.u64) (Eq.symm (Go.Proofs.YtjfklfmfeghjnacDoorAid.wrap_len _ (by omega)))))) ?_; (with_reducible refine (strings_IndexByte.calls (⟨#[48, 49, 50, 51, 52, 53, 54, 55, 56, 57, 97, 98, 99, 100, 101, 102]⟩ : ByteArray) a0 t118 _ A6.out).mono ?_); rintro e w' ⟨rfl, ⟨nd, rfl⟩⟩; refine ⟨_, rfl, ?_⟩))
      go_ret2
      exact ⟨by first | rfl | (simp [errW_none, errW_some] <;> rfl) | (simp only [← hji7]; first | rfl | (simp [errW_none, errW_some] <;> rfl)) | (simp [*, errW_none, errW_some] <;> rfl), by repeat (first | (with_reducible first | exact HB.out | apply below_alloc | apply pw_below_drewN | apply below_drew1) | exact HB.out)⟩
  · rw [if_neg c2] at H
    have c2b0 : decide (65 ≤ a0) = false := decide_eq_false c2
    clear c2
    replace H := Option.bind_eq_some_iff.mp H
    obtain ⟨t119, A80, H⟩ := H
    replace H : (some ((mx t119 0) % 256, decide (t119 ≥ 0))) = some (r1, r2) := H
    have A8 := Aside0.mk A80
    clear A80
    obtain ⟨ji9, hji9⟩ : ∃ j_ : Int, (mx t119 0) = j_ := ⟨_, rfl⟩
    replace H : (some ((ji9) % 256, decide (t119 ≥ 0))) = some (r1, r2) := by first | (rw [hji9] at H; exact H) | (simp only [hji9] at H ⊢; exact H)
    (try rw [hji9] at A8)
    (try (have hji9l : 0 ≤ ji9 := by (rw [← hji9]; unfold mx; (repeat' split) <;> omega)))
    (try (have hji9m : 0 ≤ ji9 := by omega))
    have hji9_ : (if t119 < 0 then 0 else t119) = ji9 := hji9
    simp only [Option.some.injEq, Prod.mk.injEq] at H
    obtain ⟨rfl, rfl⟩ := H
    go_enter Tryd.func56, Tryd.ntmps56
    go_wp2_with (first | ((with_reducible refine gate_callee (f := 18) rfl ?_); refine goesL_ (some 14) rfl rfl Tryd.func18 (by kernel_rfl) rfl #[.string (⟨#[48, 49, 50, 51, 52, 53, 54, 55, 56, 57, 97, 98, 99, 100, 101, 102]⟩ : ByteArray), .int .u8 a0] rfl (by (try simp only [List.map_toArray, List.map_cons, List.map_nil]); first | done | rfl | (simp only [List.length_drop, List.length_take]; rfl) | (refine congrArg (fun z_ => #[z_]) (congrArg (Value.int IntKind.u64) (Eq.symm (Go.Proofs.YtjfklfmfeghjnacDoorAid.wrap_len _ (by omega)))))) ?_; (with_reducible refine (strings_IndexByte.calls (⟨#[48, 49, 50, 51, 52, 53, 54, 55, 56, 57, 97, 98, 99, 100, 101, 102]⟩ : ByteArray) a0 t119 _ A8.out).mono ?_); rintro e w' ⟨rfl, ⟨nd, rfl⟩⟩; refine ⟨_, rfl, ?_⟩))
    go_ret2
    exact ⟨by first | rfl | (simp [errW_none, errW_some] <;> rfl) | (simp only [← hji9]; first | rfl | (simp [errW_none, errW_some] <;> rfl)) | (simp [*, errW_none, errW_some] <;> rfl), by repeat (first | (with_reducible first | exact HB.out | apply below_alloc | apply pw_below_drewN | apply below_drew1) | exact HB.out)⟩

end Go.Proofs.YtjfklfmfeghjnacDoor.PN
