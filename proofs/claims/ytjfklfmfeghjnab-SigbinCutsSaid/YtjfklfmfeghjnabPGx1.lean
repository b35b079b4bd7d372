-- Contracts of Go functions, each with its plain Lean function: written by wip/tools/myprint.py of this work (the kit's print, with contracts proved by hand spliced in).
import Derived.Test.YtjfklfmfeghjnabPGx0
namespace Go.Proofs.Ytjfklfmfeghjnab.PG
open Go.RowKit Go.Proofs.YtjfklfmfeghjnabW.PrintWords Go.Proofs.YtjfklfmfeghjnabW.PrintLast Go.Proofs.YtjfklfmfeghjnabW.PrintMore
attribute [local go_sem] max2_int min2_int max_two min_two max_three min_three max_four min_four   -- for this text's walks alone
set_option linter.unusedVariables false
set_option linter.unusedSimpArgs false

/-! ### sig_letter: function 109 -/
mutual
def sig_letter.j0 : Nat → Int → Bool → Bool → Option (Bool)
  | 0, _, _, _ => none
  | k + 1, x0, x1, x5 => if x5 = true then (some true) else (if x0 ≥ 97 then (sig_letter.j1 k x0 x1 (decide (x0 ≤ 122))) else (sig_letter.j1 k x0 x1 false))
def sig_letter.j1 : Nat → Int → Bool → Bool → Option (Bool)
  | 0, _, _, _ => none
  | k + 1, x0, x1, x5 => if x5 = true then (some true) else (if x0 = 95 then (some true) else (if x1 = true then (some false) else (if x0 ≥ 48 then (some (decide (x0 ≤ 57))) else (some false))))
end
def sig_letter.f (k : Nat) (a0 : Int) (a1 : Bool) : Option (Bool) := if a0 ≥ 65 then (sig_letter.j0 k a0 a1 (decide (a0 ≤ 90))) else (sig_letter.j0 k a0 a1 false)
theorem sig_letter.mono_l : ∀ k, (∀ y0 y1 y2, LeO (sig_letter.j0 k y0 y1 y2) (sig_letter.j0 (k + 1) y0 y1 y2)) ∧ (∀ y0 y1 y2, LeO (sig_letter.j1 k y0 y1 y2) (sig_letter.j1 (k + 1) y0 y1 y2))
  | 0 => ⟨fun _ _ _ r h => by simp [sig_letter.j0] at h, fun _ _ _ r h => by simp [sig_letter.j1] at h⟩
  | k + 1 => by
    obtain ⟨ih0, ih1⟩ := sig_letter.mono_l k
    refine ⟨?_, ?_⟩
    · intro y0 y1 y2
      unfold sig_letter.j0
      repeat' first
      | (with_reducible exact ih0 _ _ _)
      | (with_reducible exact ih1 _ _ _)
      | (with_reducible exact LeO.refl _)
      | (with_reducible exact LeO.none _)
      | (with_reducible refine LeO.ite ?_ ?_)
      | (with_reducible refine LeO.bind ?_ (fun _ => ?_))
      | exact ih0 _ _ _
      | exact ih1 _ _ _
      | exact LeO.none _
      | refine LeO.ite ?_ ?_
      | refine LeO.bind ?_ (fun _ => ?_)
    · intro y0 y1 y2
      unfold sig_letter.j1
      repeat' first
      | (with_reducible exact ih0 _ _ _)
      | (with_reducible exact ih1 _ _ _)
      | (with_reducible exact LeO.refl _)
      | (with_reducible exact LeO.none _)
      | (with_reducible refine LeO.ite ?_ ?_)
      | (with_reducible refine LeO.bind ?_ (fun _ => ?_))
      | exact ih0 _ _ _
      | exact ih1 _ _ _
      | exact LeO.none _
      | refine LeO.ite ?_ ?_
      | refine LeO.bind ?_ (fun _ => ?_)
theorem sig_letter.mono : ∀ a0 a1 k, LeO (sig_letter.f k a0 a1) (sig_letter.f (k + 1) a0 a1) := by
  intro a0 a1 k
  obtain ⟨ih0, ih1⟩ := sig_letter.mono_l k
  unfold sig_letter.f
  repeat' first
      | (with_reducible exact ih0 _ _ _)
      | (with_reducible exact ih1 _ _ _)
      | (with_reducible exact LeO.refl _)
      | (with_reducible exact LeO.none _)
      | (with_reducible refine LeO.ite ?_ ?_)
      | (with_reducible refine LeO.bind ?_ (fun _ => ?_))
      | exact ih0 _ _ _
      | exact ih1 _ _ _
      | exact LeO.none _
      | refine LeO.ite ?_ ?_
      | refine LeO.bind ?_ (fun _ => ?_)
set_option maxHeartbeats 8000000 in
set_option maxRecDepth 100000 in
theorem sig_letter.calls (k : Nat) (a0 : Int) (a1 : Bool) (r : Bool) (w : World) (h : sig_letter.f k a0 a1 = some r) :
    Calls Try.prog 109 #[.int .u8 a0, .bool a1] w fun e w' => e = .returned (.bool r) ∧ Drawn0 w w' := by
  have H : (if a0 ≥ 65 then (sig_letter.j0 k a0 a1 (decide (a0 ≤ 90))) else (sig_letter.j0 k a0 a1 false)) = some r := h
  clear h
  have HC3 := Aside0.mk H
  clear H
  go_enter Try.func109, Try.ntmps109
  go_upto_region 1 with (fail)
  go_cut [5] (fun v5 wc => ∃ (kq : Nat) (x5_2 : Bool), v5 = .bool x5_2 ∧ Aside0 (sig_letter.j0 kq a0 a1 x5_2 = some r) ∧ Aside0 (kq ≤ k) ∧ Drawn0 w wc)
  case first =>
    have H := HC3.out
    clear HC3
    by_cases c4 : a0 ≥ 65
    · rw [if_pos c4] at H
      have c4b0 : decide (65 ≤ a0) = true := decide_eq_true c4
      clear c4
      (first | rw [c4b0] | (simp only [i64_w, i32_w]; rw [c4b0]) | skip)
      have H' := Aside0.mk H
      clear H
      go_wp2
      go_meet
      case rel => exact ⟨_, (decide (a0 ≤ 90)), (by first | rfl | (simp; done) | (simp [*]; done)), H', ⟨by first | omega | exact Nat.le_refl _⟩, by repeat (first | exact Drawn0.refl _ | apply Drawn0.step)⟩
    · rw [if_neg c4] at H
      have c4b0 : decide (65 ≤ a0) = false := decide_eq_false c4
      clear c4
      (first | rw [c4b0] | (simp only [i64_w, i32_w]; rw [c4b0]) | skip)
      have H' := Aside0.mk H
      clear H
      go_wp2
      go_meet
      case rel => exact ⟨_, (false), (by first | rfl | (simp; done) | (simp [*]; done)), H', ⟨by first | omega | exact Nat.le_refl _⟩, by repeat (first | exact Drawn0.refl _ | apply Drawn0.step)⟩
  case rest =>
    clear HC3
    try clear c1
    try clear p2
    try clear c4
    try clear c4b0
    obtain ⟨kq, x5_2, rfl, HA, HJ2, ⟨mc2, rfl⟩⟩ := hcut
    cases kq with
    | zero => exact absurd HA.out (by simp [sig_letter.j0])
    | succ kj2 =>
      have H := HA.out
      clear HA
      simp only [sig_letter.j0] at H
      by_cases c5 : x5_2 = true
      · subst c5
        have H1 : (some true) = some r := by rw [if_pos rfl] at H; exact H
        clear H
        have H := H1
        clear H1
        obtain rfl := Option.some.inj H
        go_wp2
        go_ret
        exact ⟨by first | rfl | (simp; done) | (simp [*]; done), by repeat (first | exact Drawn0.refl _ | apply Drawn0.step)⟩
      · replace c5 := Bool.eq_false_iff.mpr c5
        subst c5
        have H1 : (if a0 ≥ 97 then (sig_letter.j1 kj2 a0 a1 (decide (a0 ≤ 122))) else (sig_letter.j1 kj2 a0 a1 false)) = some r := by rw [if_neg (show ¬ (false = true) by decide)] at H; exact H
        clear H
        have H := H1
        clear H1
        have HC6 := Aside0.mk H
        clear H
        go_upto_region 2 with (fail)
        go_cut [5] (fun v5 wc => ∃ (kq : Nat) (x5_5 : Bool), v5 = .bool x5_5 ∧ Aside0 (sig_letter.j1 kq a0 a1 x5_5 = some r) ∧ Aside0 (kq ≤ kj2) ∧ Drawn0 w wc)
        case first =>
          have H := HC6.out
          clear HC6
          by_cases c7 : a0 ≥ 97
          · rw [if_pos c7] at H
            have c7b0 : decide (97 ≤ a0) = true := decide_eq_true c7
            clear c7
            (first | rw [c7b0] | (simp only [i64_w, i32_w]; rw [c7b0]) | skip)
            have H' := Aside0.mk H
            clear H
            go_wp2
            go_meet
            case rel => exact ⟨_, (decide (a0 ≤ 122)), (by first | rfl | (simp; done) | (simp [*]; done)), H', ⟨by have := HJ2.out; first | omega | exact Nat.le_refl _⟩, by repeat (first | exact Drawn0.refl _ | apply Drawn0.step)⟩
          · rw [if_neg c7] at H
            have c7b0 : decide (97 ≤ a0) = false := decide_eq_false c7
            clear c7
            (first | rw [c7b0] | (simp only [i64_w, i32_w]; rw [c7b0]) | skip)
            have H' := Aside0.mk H
            clear H
            go_wp2
            go_meet
            case rel => exact ⟨_, (false), (by first | rfl | (simp; done) | (simp [*]; done)), H', ⟨by have := HJ2.out; first | omega | exact Nat.le_refl _⟩, by repeat (first | exact Drawn0.refl _ | apply Drawn0.step)⟩
        case rest =>
          clear HC6
          try clear c1
          try clear c2
          try clear p2
          try clear c4
          try clear c4b0
          try clear c5
          try clear c7
          try clear c7b0
          try clear p2
          obtain ⟨kq, x5_5, rfl, HA, HJ5, ⟨mc5, rfl⟩⟩ := hcut
          cases kq with
          | zero => exact absurd HA.out (by simp [sig_letter.j1])
          | succ kj5 =>
            have H := HA.out
            clear HA
            simp only [sig_letter.j1] at H
            by_cases c8 : x5_5 = true
            · subst c8
              have H1 : (some true) = some r := by rw [if_pos rfl] at H; exact H
              clear H
              have H := H1
              clear H1
              obtain rfl := Option.some.inj H
              go_wp2
              go_ret
              exact ⟨by first | rfl | (simp; done) | (simp [*]; done), by repeat (first | exact Drawn0.refl _ | apply Drawn0.step)⟩
            · replace c8 := Bool.eq_false_iff.mpr c8
              subst c8
              have H1 : (if a0 = 95 then (some true) else (if a1 = true then (some false) else (if a0 ≥ 48 then (some (decide (a0 ≤ 57))) else (some false)))) = some r := by rw [if_neg (show ¬ (false = true) by decide)] at H; exact H
              clear H
              have H := H1
              clear H1
              by_cases c9 : a0 = 95
              · rw [if_pos c9] at H
                have c9b0 : (a0 == 95) = true := beq_iff_eq.mpr c9
                have c9b1 : (a0 != 95) = false := bne_eq_false_iff_eq.mpr c9
                clear c9
                obtain rfl := Option.some.inj H
                go_wp2
                go_ret
                exact ⟨by first | rfl | (simp; done) | (simp [*]; done), by repeat (first | exact Drawn0.refl _ | apply Drawn0.step)⟩
              · rw [if_neg c9] at H
                have c9b0 : (a0 == 95) = false := beq_eq_false_iff_ne.mpr c9
                have c9b1 : (a0 != 95) = true := bne_iff_ne.mpr c9
                by_cases c10 : a1 = true
                · subst c10
                  have H1 : (some false) = some r := by rw [if_pos rfl] at H; exact H
                  clear H
                  have H := H1
                  clear H1
                  obtain rfl := Option.some.inj H
                  go_wp2
                  go_ret
                  exact ⟨by first | rfl | (simp; done) | (simp [*]; done), by repeat (first | exact Drawn0.refl _ | apply Drawn0.step)⟩
                · replace c10 := Bool.eq_false_iff.mpr c10
                  subst c10
                  have H1 : (if a0 ≥ 48 then (some (decide (a0 ≤ 57))) else (some false)) = some r := by rw [if_neg (show ¬ (false = true) by decide)] at H; exact H
                  clear H
                  have H := H1
                  clear H1
                  by_cases c11 : a0 ≥ 48
                  · rw [if_pos c11] at H
                    have c11b0 : decide (48 ≤ a0) = true := decide_eq_true c11
                    clear c11
                    obtain rfl := Option.some.inj H
                    go_wp2
                    go_ret
                    exact ⟨by first | rfl | (simp; done) | (simp [*]; done), by repeat (first | exact Drawn0.refl _ | apply Drawn0.step)⟩
                  · rw [if_neg c11] at H
                    have c11b0 : decide (48 ≤ a0) = false := decide_eq_false c11
                    clear c11
                    obtain rfl := Option.some.inj H
                    go_wp2
                    go_ret
                    exact ⟨by first | rfl | (simp; done) | (simp [*]; done), by repeat (first | exact Drawn0.refl _ | apply Drawn0.step)⟩

/-! ### sig_Name: function 88 -/
def sig_Name.l0 : Nat → ByteArray → Int → Int → Option (Bool)
  | 0, _, _, _ => none
  | k + 1, x0, x5, x6 => if x6 < x5 then (if 0 ≤ x6 then (if x6 < (x0.size : Int) then ((sig_letter.f k (bt x0 x6) (x6 == 0)).bind fun t101 => (if t101 = true then (sig_Name.l0 k x0 x5 (wrap64 (x6 + 1))) else (some false))) else (none)) else (none)) else (if (x0.size : Int) ≥ 1 then (some (decide ((x0.size : Int) ≤ 32))) else (some false))
def sig_Name.f (k : Nat) (a0 : ByteArray) : Option (Bool) := sig_Name.l0 k a0 (a0.size : Int) 0
theorem sig_Name.mono_l : ∀ k, (∀ y0 y1 y2, LeO (sig_Name.l0 k y0 y1 y2) (sig_Name.l0 (k + 1) y0 y1 y2))
  | 0 => fun _ _ _ r h => by simp [sig_Name.l0] at h
  | k + 1 => by
    have ih0 := sig_Name.mono_l k
    · intro y0 y1 y2
      unfold sig_Name.l0
      repeat' first
      | (with_reducible exact ih0 _ _ _)
      | (with_reducible exact sig_letter.mono _ _ _)
      | (with_reducible exact LeO.refl _)
      | (with_reducible exact LeO.none _)
      | (with_reducible refine LeO.ite ?_ ?_)
      | (with_reducible refine LeO.bind ?_ (fun _ => ?_))
      | exact ih0 _ _ _
      | exact sig_letter.mono _ _ _
      | exact LeO.none _
      | refine LeO.ite ?_ ?_
      | refine LeO.bind ?_ (fun _ => ?_)
theorem sig_Name.mono : ∀ a0 k, LeO (sig_Name.f k a0) (sig_Name.f (k + 1) a0) := by
  intro a0 k
  have ih0 := sig_Name.mono_l k
  unfold sig_Name.f
  repeat' first
      | (with_reducible exact ih0 _ _ _)
      | (with_reducible exact sig_letter.mono _ _ _)
      | (with_reducible exact LeO.refl _)
      | (with_reducible exact LeO.none _)
      | (with_reducible refine LeO.ite ?_ ?_)
      | (with_reducible refine LeO.bind ?_ (fun _ => ?_))
      | exact ih0 _ _ _
      | exact sig_letter.mono _ _ _
      | exact LeO.none _
      | refine LeO.ite ?_ ?_
      | refine LeO.bind ?_ (fun _ => ?_)
set_option maxHeartbeats 8000000 in
set_option maxRecDepth 100000 in
theorem sig_Name.calls (k : Nat) (a0 : ByteArray) (r : Bool) (w : World) (h : sig_Name.f k a0 = some r) :
    Calls Try.prog 88 #[.string a0] w fun e w' => e = .returned (.bool r) ∧ Drawn0 w w' := by
  have H : (sig_Name.l0 k a0 (a0.size : Int) 0) = some r := h
  clear h
  have H' := Aside0.mk H
  clear H
  go_enter Try.func88, Try.ntmps88
  go_wp2
  go_loopg [6] k (fun kq v6 w' => ∃ (x6_1 : Int), v6 = .int .i64 x6_1 ∧ Aside0 (sig_Name.l0 kq a0 (a0.size : Int) x6_1 = some r) ∧ Aside0 (kq ≤ k) ∧ Drawn0 w w')
  case atStart => exact ⟨(0), (by first | rfl | (simp; done) | (simp [*]; done)), H', ⟨Nat.le_refl _⟩, by repeat (first | exact Drawn0.refl _ | apply Drawn0.step)⟩
  case round =>
    clear H'
    obtain ⟨x6_1, rfl, HA, HK1, ⟨m1, rfl⟩⟩ := hrel
    cases gk with
    | zero => exact absurd HA.out (by simp [sig_Name.l0])
    | succ k1 =>
      have H := HA.out
      clear HA
      simp only [sig_Name.l0] at H
      by_cases c2 : x6_1 < (a0.size : Int)
      · rw [if_pos c2] at H
        have c2b0 : decide (x6_1 < (a0.size : Int)) = true := decide_eq_true c2
        clear c2
        by_cases c3 : 0 ≤ x6_1
        · rw [if_pos c3] at H
          have c3b0 : decide (0 ≤ x6_1) = true := decide_eq_true c3
          clear c3
          by_cases c4 : x6_1 < (a0.size : Int)
          · rw [if_pos c4] at H
            have c4b0 : decide (x6_1 < (a0.size : Int)) = true := decide_eq_true c4
            clear c4
            replace H := Option.bind_eq_some_iff.mp H
            obtain ⟨t101, A60, H⟩ := H
            replace H : (if t101 = true then (sig_Name.l0 k1 a0 (a0.size : Int) (wrap64 (x6_1 + 1))) else (some false)) = some r := H
            have A6 := Aside0.mk A60
            clear A60
            by_cases c7 : t101 = true
            · subst c7
              have H1 : (sig_Name.l0 k1 a0 (a0.size : Int) (wrap64 (x6_1 + 1))) = some r := by rw [if_pos rfl] at H; exact H
              clear H
              have H := H1
              clear H1
              have H' := Aside0.mk H
              clear H
              have p5 : 0 ≤ (x6_1 : Int) := of_decide_eq_true (by first | (with_reducible assumption) | assumption)
              have q5 : x6_1 < (a0.size : Int) := of_decide_eq_true (by first | (with_reducible assumption) | assumption)
              have hx5 := bt_at a0 x6_1
              replace p5 := eq_true p5
              replace q5 := eq_true q5
              go_wp2_with (first | ((with_reducible refine gate_callee (f := 109) rfl ?_); refine goesL_ (some 14) rfl rfl Try.func109 (by kernel_rfl) rfl #[.int .u8 (bt a0 x6_1), .bool (x6_1 == 0)] rfl (by (try simp only [List.map_toArray, List.map_cons, List.map_nil]); first | done | rfl | (simp only [List.length_drop, List.length_take]; rfl) | (refine congrArg (fun z_ => #[z_]) (congrArg (Value.int IntKind.u64) (Eq.symm (Go.Proofs.YtjfklfmfeghjnabAid.wrap_len _ (by omega)))))) ?_; (with_reducible refine (sig_letter.calls k1 (bt a0 x6_1) (x6_1 == 0) true _ A6.out).mono ?_); rintro e w' ⟨rfl, ⟨nd, rfl⟩⟩; refine ⟨_, rfl, ?_⟩))
              go_roundg k1
              case measure => have := HK1.out; omega
              case rel => exact ⟨(wrap64 (x6_1 + 1)), (by first | rfl | (simp; done) | (simp [*]; done)), H', ⟨by have := HK1.out; omega⟩, by repeat (first | exact Drawn0.refl _ | apply Drawn0.step)⟩
            · replace c7 := Bool.eq_false_iff.mpr c7
              subst c7
              have H1 : (some false) = some r := by rw [if_neg (show ¬ (false = true) by decide)] at H; exact H
              clear H
              have H := H1
              clear H1
              obtain rfl := Option.some.inj H
              have p5 : 0 ≤ (x6_1 : Int) := of_decide_eq_true (by first | (with_reducible assumption) | assumption)
              have q5 : x6_1 < (a0.size : Int) := of_decide_eq_true (by first | (with_reducible assumption) | assumption)
              have hx5 := bt_at a0 x6_1
              replace p5 := eq_true p5
              replace q5 := eq_true q5
              go_wp2_with (first | ((with_reducible refine gate_callee (f := 109) rfl ?_); refine goesL_ (some 14) rfl rfl Try.func109 (by kernel_rfl) rfl #[.int .u8 (bt a0 x6_1), .bool (x6_1 == 0)] rfl (by (try simp only [List.map_toArray, List.map_cons, List.map_nil]); first | done | rfl | (simp only [List.length_drop, List.length_take]; rfl) | (refine congrArg (fun z_ => #[z_]) (congrArg (Value.int IntKind.u64) (Eq.symm (Go.Proofs.YtjfklfmfeghjnabAid.wrap_len _ (by omega)))))) ?_; (with_reducible refine (sig_letter.calls k1 (bt a0 x6_1) (x6_1 == 0) false _ A6.out).mono ?_); rintro e w' ⟨rfl, ⟨nd, rfl⟩⟩; refine ⟨_, rfl, ?_⟩))
              go_ret
              exact ⟨by first | rfl | (simp; done) | (simp [*]; done), by repeat (first | exact Drawn0.refl _ | apply Drawn0.step)⟩
          · rw [if_neg c4] at H
            exact absurd H (by simp)
        · rw [if_neg c3] at H
          exact absurd H (by simp)
      · rw [if_neg c2] at H
        have c2b0 : decide (x6_1 < (a0.size : Int)) = false := decide_eq_false c2
        clear c2
        by_cases c8 : (a0.size : Int) ≥ 1
        · rw [if_pos c8] at H
          have c8b0 : decide (1 ≤ (a0.size : Int)) = true := decide_eq_true c8
          have c8b1 : decide (1 ≤ a0.size) = true := decide_eq_true (by omega)
          clear c8
          obtain rfl := Option.some.inj H
          go_wp2
          go_ret
          exact ⟨by first | rfl | (simp; done) | (simp [*]; done), by repeat (first | exact Drawn0.refl _ | apply Drawn0.step)⟩
        · rw [if_neg c8] at H
          have c8b0 : decide (1 ≤ (a0.size : Int)) = false := decide_eq_false c8
          have c8b1 : decide (1 ≤ a0.size) = false := decide_eq_false (by omega)
          clear c8
          obtain rfl := Option.some.inj H
          go_wp2
          go_ret
          exact ⟨by first | rfl | (simp; done) | (simp [*]; done), by repeat (first | exact Drawn0.refl _ | apply Drawn0.step)⟩

/-! ### sig_Check: function 56 -/
section
open Go.Proofs.YtjfklfmfeghjnabAid Go.Maps
theorem sig_Check.keyOf (s : ByteArray) (hs : s.size ≤ 9223372036854775807) : Go.keyOf Try.prog 152 (.agg #[.string s]) = some (.string (keyBytes [.string s.data.toList])) := by
  have h1 : Try.prog.keyType 152 = true := by kernel_rfl
  have h2 : Try.prog.cellsOf 152 = 1 := by kernel_rfl
  have h3 : Try.prog.cellsOf 9 = 1 := by kernel_rfl
  have h4 : (Value.agg #[.string s]).formed Try.prog 152 = true := by simp [Value.formed, Try.underlying152, h2]
  have h6 : Try.prog.types.size + 1 = (Try.prog.types.size - 1) + 1 + 1 := by
    have : 0 < Try.prog.types.size := of_decide_eq_true (by kernel_rfl)
    omega
  have h5 : Try.prog.keyLits (Try.prog.types.size + 1) 152 [.string s] = some [.string s.data.toList] := by
    rw [h6]
    generalize Try.prog.types.size - 1 = m
    unfold Program.keyLits
    rw [Try.underlying152]
    simp only [h2, List.length_cons, List.length_nil]
    unfold Program.keyLits
    simp [Try.underlying9, h3, maxLen, hs]
  unfold Go.keyOf
  rw [Try.underlying152]
  simp only [h1, h4, Bool.and_self, if_true]
  show (Try.prog.keyLits (Try.prog.types.size + 1) 152 [.string s]).map _ = _
  rw [h5]
  rfl
def sig_Check.ok (s : ByteArray) : Prop := s.size ≤ 9223372036854775807
def sig_Check.kl (s : ByteArray) : Lit := .string (keyBytes [.string s.data.toList])
theorem sig_Check.keyAs : KeyAs Try.prog 152 sig_Check.ok (fun s => .agg #[.string s]) sig_Check.kl where
  K := Keyed.of_law (deep_law_gate (by kernel_rfl) (of_decide_eq_true (by kernel_rfl)) (of_decide_eq_true (by kernel_rfl)) (by kernel_rfl) (by kernel_rfl))
  key := sig_Check.keyOf
  inj := fun x y h => by
    injection h with h
    injection h with h
    injection h with h
    injection h
abbrev sig_Check.M (w : World) (b : Nat) (acc : List ByteArray) : Prop := HasKeys Try.prog 152 3 sig_Check.ok sig_Check.kl w b acc
mutual
def sig_Check.l0 : Nat → List ByteArray → List (S106) → Int → Int → Option (Int)
  | 0, _, _, _, _ => none
  | k + 1, x3, x14, x15, x16 => if x16 < x15 then (if 0 ≤ x16 then (if x16 < (x14.length : Int) then (if ((rd_T106 x14 x16).f0).size ≤ 9223372036854775807 then (if ((rd_T106 x14 x16).f0) ∈ x3 then (sig_Check.j1 k x3 x14 x15 x16 true ((rd_T106 x14 x16).f0) ((rd_T106 x14 x16).f1)) else ((sig_Name.f k ((rd_T106 x14 x16).f0)).bind fun t423 => (sig_Check.j1 k x3 x14 x15 x16 (!t423) ((rd_T106 x14 x16).f0) ((rd_T106 x14 x16).f1)))) else (none)) else (none)) else (none)) else (some 0)
def sig_Check.j1 : Nat → List ByteArray → List (S106) → Int → Int → Bool → ByteArray → List Int → Option (Int)
  | 0, _, _, _, _, _, _, _ => none
  | k + 1, x3, x14, x15, x16, x35, x423000, x423001 => if x35 = true then (some 9) else (if x3.length < 8796093022208 then (if (x423001.length : Int) > 8 then (some 6) else (sig_Check.l1 k (x3 ++ [x423000]) x14 x15 x16 x423001 (x423001.length : Int) 0)) else (none))
def sig_Check.l1 : Nat → List ByteArray → List (S106) → Int → Int → List Int → Int → Int → Option (Int)
  | 0, _, _, _, _, _, _, _ => none
  | k + 1, x3, x14, x15, x16, x46, x47, x48 => if x48 < x47 then (if 0 ≤ x48 then (if x48 < (x46.length : Int) then (if (rd x46 x48) = 1 then (sig_Check.l1 k x3 x14 x15 x16 x46 x47 (wrap64 (x48 + 1))) else (if (rd x46 x48) = 2 then (sig_Check.l1 k x3 x14 x15 x16 x46 x47 (wrap64 (x48 + 1))) else (some 7))) else (none)) else (none)) else (sig_Check.l0 k x3 x14 x15 (wrap64 (x16 + 1)))
end
def sig_Check.f (k : Nat) (l0 : List (S106)) : Option (Int) := if (l0.length : Int) > 64 then (some 6) else (sig_Check.l0 k (([] : List ByteArray)) l0 (l0.length : Int) 0)
theorem sig_Check.mono_l : ∀ k, (∀ y0 y1 y2 y3, LeO (sig_Check.l0 k y0 y1 y2 y3) (sig_Check.l0 (k + 1) y0 y1 y2 y3)) ∧ (∀ y0 y1 y2 y3 y4 y5 y6, LeO (sig_Check.j1 k y0 y1 y2 y3 y4 y5 y6) (sig_Check.j1 (k + 1) y0 y1 y2 y3 y4 y5 y6)) ∧ (∀ y0 y1 y2 y3 y4 y5 y6, LeO (sig_Check.l1 k y0 y1 y2 y3 y4 y5 y6) (sig_Check.l1 (k + 1) y0 y1 y2 y3 y4 y5 y6))
  | 0 => ⟨fun _ _ _ _ r h => by simp [sig_Check.l0] at h, fun _ _ _ _ _ _ _ r h => by simp [sig_Check.j1] at h, fun _ _ _ _ _ _ _ r h => by simp [sig_Check.l1] at h⟩
  | k + 1 => by
    obtain ⟨ih0, ih1, ih2⟩ := sig_Check.mono_l k
    refine ⟨?_, ?_, ?_⟩
    · intro y0 y1 y2 y3
      unfold sig_Check.l0
      repeat' first
      | (with_reducible exact ih0 _ _ _ _)
      | (with_reducible exact ih1 _ _ _ _ _ _ _)
      | (with_reducible exact ih2 _ _ _ _ _ _ _)
      | (with_reducible exact sig_Name.mono _ _)
      | (with_reducible exact LeO.refl _)
      | (with_reducible exact LeO.none _)
      | (with_reducible refine LeO.ite ?_ ?_)
      | (with_reducible refine LeO.bind ?_ (fun _ => ?_))
      | exact ih0 _ _ _ _
      | exact ih1 _ _ _ _ _ _ _
      | exact ih2 _ _ _ _ _ _ _
      | exact sig_Name.mono _ _
      | exact LeO.none _
      | refine LeO.ite ?_ ?_
      | refine LeO.bind ?_ (fun _ => ?_)
    · intro y0 y1 y2 y3 y4 y5 y6
      unfold sig_Check.j1
      repeat' first
      | (with_reducible exact ih0 _ _ _ _)
      | (with_reducible exact ih1 _ _ _ _ _ _ _)
      | (with_reducible exact ih2 _ _ _ _ _ _ _)
      | (with_reducible exact sig_Name.mono _ _)
      | (with_reducible exact LeO.refl _)
      | (with_reducible exact LeO.none _)
      | (with_reducible refine LeO.ite ?_ ?_)
      | (with_reducible refine LeO.bind ?_ (fun _ => ?_))
      | exact ih0 _ _ _ _
      | exact ih1 _ _ _ _ _ _ _
      | exact ih2 _ _ _ _ _ _ _
      | exact sig_Name.mono _ _
      | exact LeO.none _
      | refine LeO.ite ?_ ?_
      | refine LeO.bind ?_ (fun _ => ?_)
    · intro y0 y1 y2 y3 y4 y5 y6
      unfold sig_Check.l1
      repeat' first
      | (with_reducible exact ih0 _ _ _ _)
      | (with_reducible exact ih1 _ _ _ _ _ _ _)
      | (with_reducible exact ih2 _ _ _ _ _ _ _)
      | (with_reducible exact sig_Name.mono _ _)
      | (with_reducible exact LeO.refl _)
      | (with_reducible exact LeO.none _)
      | (with_reducible refine LeO.ite ?_ ?_)
      | (with_reducible refine LeO.bind ?_ (fun _ => ?_))
      | exact ih0 _ _ _ _
      | exact ih1 _ _ _ _ _ _ _
      | exact ih2 _ _ _ _ _ _ _
      | exact sig_Name.mono _ _
      | exact LeO.none _
      | refine LeO.ite ?_ ?_
      | refine LeO.bind ?_ (fun _ => ?_)
theorem sig_Check.mono : ∀ a0 k, LeO (sig_Check.f k a0) (sig_Check.f (k + 1) a0) := by
  intro a0 k
  obtain ⟨ih0, ih1, ih2⟩ := sig_Check.mono_l k
  unfold sig_Check.f
  repeat' first
      | (with_reducible exact ih0 _ _ _ _)
      | (with_reducible exact ih1 _ _ _ _ _ _ _)
      | (with_reducible exact ih2 _ _ _ _ _ _ _)
      | (with_reducible exact sig_Name.mono _ _)
      | (with_reducible exact LeO.refl _)
      | (with_reducible exact LeO.none _)
      | (with_reducible refine LeO.ite ?_ ?_)
      | (with_reducible refine LeO.bind ?_ (fun _ => ?_))
      | exact ih0 _ _ _ _
      | exact ih1 _ _ _ _ _ _ _
      | exact ih2 _ _ _ _ _ _ _
      | exact sig_Name.mono _ _
      | exact LeO.none _
      | refine LeO.ite ?_ ?_
      | refine LeO.bind ?_ (fun _ => ?_)
set_option maxHeartbeats 8000000 in
set_option maxRecDepth 100000 in
theorem sig_Check.calls (k : Nat) (A0 : Option Addr) (c0 : Nat) (l0 : List (S106)) (r : Int) (w : World) (hr0 : Kd.C k106 w A0 l0.length l0) (hc0 : l0.length ≤ c0) (h : sig_Check.f k l0 = some r) :
    Calls Try.prog 56 #[.slice A0 l0.length c0] w fun e w' => e = .returned (.int .i64 r) ∧ Below w.heap.size w w' := by
  have hu106 := Try.underlying106
  have HR0 := Aside0.mk hr0
  have HC0 := Aside0.mk hc0
  clear hr0 hc0
  have HB := Aside0.mk (Below.refl w.heap.size w)
  have H : (if (l0.length : Int) > 64 then (some 6) else (sig_Check.l0 k (([] : List ByteArray)) l0 (l0.length : Int) 0)) = some r := h
  clear h
  by_cases c2 : (l0.length : Int) > 64
  · rw [if_pos c2] at H
    have c2b0 : decide (64 < (l0.length : Int)) = true := decide_eq_true c2
    have c2b1 : decide (64 < l0.length) = true := decide_eq_true (by omega)
    clear c2
    obtain rfl := Option.some.inj H
    go_enter Try.func56, Try.ntmps56
    go_wp2
    go_ret
    exact ⟨by first | rfl | (simp [errW_none, errW_some] <;> rfl) | (simp [*, errW_none, errW_some] <;> rfl), by repeat (first | (with_reducible first | exact HB.out | apply below_alloc | apply pw_below_drewN | apply below_drew1) | exact HB.out)⟩
  · rw [if_neg c2] at H
    have c2b0 : decide (64 < (l0.length : Int)) = false := decide_eq_false c2
    have c2b1 : decide (64 < l0.length) = false := decide_eq_false (by omega)
    have HL := Aside0.mk (show l0.length ≤ 64 by omega)
    clear c2
    obtain ⟨y418, hy418⟩ : ∃ y_ : List ByteArray, y_ = (([] : List ByteArray)) := ⟨_, rfl⟩
    replace H : (sig_Check.l0 k y418 l0 (l0.length : Int) 0) = some r := by first | (rw [hy418]; with_reducible exact H) | (have H2_ := (Option.bind_some _ _).symm.trans H; rw [hy418]; with_reducible exact H2_) | (have H2_ := (Option.bind_some _ _).symm.trans H; with_reducible exact H2_) | with_reducible exact H | (rw [hy418]; exact H) | exact H
    have Ny418 := Aside0.mk hy418
    clear hy418
    have H' := Aside0.mk H
    clear H
    go_enter Try.func56, Try.ntmps56
    go_wp2_with (first | ((with_reducible refine gate_dst (N := 13) rfl ?_); refine map_event (k := 152) (e := 3) (ok := sig_Check.ok) (kl := sig_Check.kl) rfl (N := 13) rfl 150 rfl ?_; intro gm w3 hgm ho4 hb hg_; clear hg_; rw [← Ny418.out] at ho4; have n0_ := Aside0.mk (show sig_Check.M _ gm y418 from ho4.keys); have n1_ := Aside0.mk (below_step (by repeat (first | (with_reducible first | exact HB.out | apply below_alloc | apply pw_below_drewN | apply below_drew1) | exact HB.out)) hb); have n2_ := Aside0.mk ((by rw [hgm]; exact (below_size (by repeat (first | (with_reducible first | exact HB.out | apply below_alloc | apply pw_below_drewN | apply below_drew1) | exact HB.out)))) : w.heap.size ≤ gm); clear HB; have HO420 := n0_; have HB := n1_; have GM := n2_; clear n0_ n1_ n2_; clear hb ho4 hgm))
    go_loopg [16] k (fun kq v16 w' => ∃ (x3_1 : List ByteArray) (x16_1 : Int), v16 = .int .i64 x16_1 ∧ Aside0 (sig_Check.l0 kq x3_1 l0 (l0.length : Int) x16_1 = some r) ∧ Aside0 (kq ≤ k) ∧ Aside0 (sig_Check.M w' gm x3_1) ∧ Aside0 (Below w.heap.size w w'))
    case atStart => exact ⟨(y418), (0), (by first | rfl | (simp; done) | (simp [*]; done)), H', ⟨Nat.le_refl _⟩, ⟨(by repeat (first | (with_reducible first | exact HO420.out | apply HasKeys.alloc | apply HasKeys.drewN | apply HasKeys.drew) | exact HO420.out))⟩, ⟨by repeat (first | (with_reducible first | exact HB.out | apply below_alloc | apply pw_below_drewN | apply below_drew1) | exact HB.out)⟩⟩
    case round =>
      clear H'
      try clear c2
      try clear c2b0
      try clear c2b1
      try clear p2
      obtain ⟨x3_1, x16_1, rfl, HA, HK1, HO_3, HB⟩ := hrel
      cases gk with
      | zero => exact absurd HA.out (by simp [sig_Check.l0])
      | succ k1 =>
        have H := HA.out
        clear HA
        simp only [sig_Check.l0] at H
        by_cases c5 : x16_1 < (l0.length : Int)
        · rw [if_pos c5] at H
          have c5b0 : decide (x16_1 < (l0.length : Int)) = true := decide_eq_true c5
          clear c5
          by_cases c6 : 0 ≤ x16_1
          · rw [if_pos c6] at H
            have c6b0 : decide (0 ≤ x16_1) = true := decide_eq_true c6
            clear c6
            by_cases c7 : x16_1 < (l0.length : Int)
            · rw [if_pos c7] at H
              have c7b0 : decide (x16_1 < (l0.length : Int)) = true := decide_eq_true c7
              clear c7
              have cs : ((rd_T106 l0 x16_1).f0).size ≤ 9223372036854775807 := Decidable.byContradiction (fun hc_ => by rw [if_neg hc_] at H; exact absurd H (by simp))
              rw [if_pos cs] at H
              have CS := Aside0.mk cs
              clear cs
              have HC8 := Aside0.mk H
              clear H
              have p421 : 0 ≤ (x16_1 : Int) := of_decide_eq_true (by first | (with_reducible assumption) | assumption)
              have q421 : x16_1 < (l0.length : Int) := of_decide_eq_true (by first | (with_reducible assumption) | assumption)
              obtain ⟨ad421, A421_1, c421_1, e421, hx421_0, hx421_1, hl421_1, hi421_1⟩ := at_T106 HR0.out x16_1 p421 q421
              cases e421
              replace hx421_0 := (HB.out.cell (World.block_lt_of_cell? w _ hx421_0)).trans hx421_0
              replace hx421_1 := (HB.out.cell (World.block_lt_of_cell? w _ hx421_1)).trans hx421_1
              have HR421_1 := Aside0.mk hi421_1
              have HC421_1 := Aside0.mk hl421_1
              clear hi421_1 hl421_1
              have PX := Aside0.mk (⟨p421, q421⟩ : 0 ≤ (x16_1 : Int) ∧ (x16_1 : Int) < l0.length)
              replace p421 := eq_true p421
              replace q421 := eq_true q421
              go_upto_region 8 with (first | ((with_reducible refine gate_dst (N := 5) rfl ?_); refine box_event ?hg (N := 5) ?hd (cs := #[.string (⟨#[]⟩ : ByteArray), .slice none 0 0]) (t := 106) ?hr ?_; (case hd => rfl); (case hg => rfl); (case hr => first | (go_simp; done) | (go_simp; rfl)); intro gb422 hg w9 hbox hb; have n0_ := Aside0.mk (HasKeys.below (by repeat (first | (with_reducible first | exact HO_3.out | apply HasKeys.alloc | apply HasKeys.drewN | apply HasKeys.drew) | exact HO_3.out)) hb (Nat.le_refl _)); have n1_ := Aside0.mk (below_step (by repeat (first | (with_reducible first | exact HB.out | apply below_alloc | apply pw_below_drewN | apply below_drew1) | exact HB.out)) hb); have n2_ := Aside0.mk (hbox); have n3_ := Aside0.mk ((by rw [hg]; exact (below_size (by repeat (first | (with_reducible first | exact HB.out | apply below_alloc | apply pw_below_drewN | apply below_drew1) | exact HB.out))) : w.heap.size ≤ gb422)); have n4_ := Aside0.mk ((by rw [hg]; exact (below_size (by repeat (first | (with_reducible first | exact HB.out | apply below_alloc | apply pw_below_drewN | apply below_drew1) | exact HB.out))) : w.heap.size ≤ gb422)); clear HO_3; clear HB; have HO_3 := n0_; have HB := n1_; have BK422 := n2_; have GW422 := n3_; have GE422 := n4_; clear n0_ n1_ n2_ n3_ n4_; clear hb hbox hg; have NG422 := Aside0.mk (HasKeys.ne HO_3.out BK422.out); have hcz10_0 : w9.cell? ⟨gb422, 0, none⟩ = some (.string (⟨#[]⟩ : ByteArray)) := (blk_cell BK422.out 0).trans rfl; have hcz10_1 : w9.cell? ⟨gb422, 1, none⟩ = some (.slice none 0 0) := (blk_cell BK422.out 1).trans rfl; have hfz10_0 := blk_frozen BK422.out 0; have hfz10_1 := blk_frozen BK422.out 1) | (at_lookup; refine has_event sig_Check.keyAs rfl _ _ 150 rfl Try.underlying150 Try.underlying3 ?hz (b := gm) (acc := x3_1) rfl ?how ((rd_T106 l0 x16_1).f0) CS.out rfl ?_; (case hz => kernel_rfl); (case how => exact (by repeat (first | (with_reducible first | exact HO_3.out | apply HasKeys.alloc | apply HasKeys.drewN | apply HasKeys.drew | refine HasKeys.set ?_ NG422.out _) | exact HO_3.out))); intro cv_))
              (try simp only [Act.put, List.setIfInBounds_toArray, List.set_cons_zero, List.set_cons_succ])
              go_cut [7, 35] (fun v7 v35 wc => ∃ (kq : Nat) (x35_7 : Bool), v35 = .bool x35_7 ∧ Aside0 (sig_Check.j1 kq x3_1 l0 (l0.length : Int) x16_1 x35_7 ((rd_T106 l0 x16_1).f0) ((rd_T106 l0 x16_1).f1) = some r) ∧ Aside0 (kq ≤ k1) ∧ Aside0 (sig_Check.M wc gm x3_1) ∧ Aside0 (wc.heap[gb422]? = some (.cells #[.string ((rd_T106 l0 x16_1).f0), (.slice A421_1 ((rd_T106 l0 x16_1).f1).length c421_1)] 106 (0, 0))) ∧ Aside0 (Below w.heap.size w wc))
              case first =>
                have H := HC8.out
                clear HC8
                by_cases c11 : ((rd_T106 l0 x16_1).f0) ∈ x3_1
                · rw [if_pos c11] at H
                  have c11b0 : decide (((rd_T106 l0 x16_1).f0) ∈ x3_1) = true := decide_eq_true c11
                  clear c11
                  (first | rw [c11b0] | (simp only [i64_w, i32_w]; rw [c11b0]) | skip)
                  have H' := Aside0.mk H
                  clear H
                  go_wp2
                  go_meet
                  case rel => exact ⟨_, (true), (by first | rfl | (simp; done) | (simp [*]; done)), H', ⟨by have := HK1.out; first | omega | exact Nat.le_refl _⟩, ⟨(by repeat (first | (with_reducible first | exact HO_3.out | apply HasKeys.alloc | apply HasKeys.drewN | apply HasKeys.drew | refine HasKeys.set ?_ NG422.out _) | exact HO_3.out))⟩, ⟨by (with_reducible repeat (first | refine blk_drewN ?_ _ | refine blk_drew ?_ | refine blk_alloc ?_ _)); refine blk_put (cs := #[.string ((rd_T106 l0 x16_1).f0), .slice none 0 0]) ?_ 1 _ rfl; (with_reducible repeat (first | refine blk_drewN ?_ _ | refine blk_drew ?_ | refine blk_alloc ?_ _)); refine blk_put (cs := #[.string (⟨#[]⟩ : ByteArray), .slice none 0 0]) ?_ 0 _ rfl; (with_reducible repeat (first | refine blk_drewN ?_ _ | refine blk_drew ?_ | refine blk_alloc ?_ _)); exact BK422.out⟩, ⟨by repeat (first | (with_reducible first | exact HB.out | apply below_alloc | apply pw_below_drewN | apply below_drew1 | refine below_set ?_ GE422.out) | exact HB.out)⟩⟩
                · rw [if_neg c11] at H
                  have c11b0 : decide (((rd_T106 l0 x16_1).f0) ∈ x3_1) = false := decide_eq_false c11
                  (first | rw [c11b0] | (simp only [i64_w, i32_w]; rw [c11b0]) | skip)
                  replace H := Option.bind_eq_some_iff.mp H
                  obtain ⟨t423, A120, H⟩ := H
                  replace H : (sig_Check.j1 k1 x3_1 l0 (l0.length : Int) x16_1 (!t423) ((rd_T106 l0 x16_1).f0) ((rd_T106 l0 x16_1).f1)) = some r := H
                  have A12 := Aside0.mk A120
                  clear A120
                  have H' := Aside0.mk H
                  clear H
                  have hcz13_0 : w9.cell? ⟨gb422, 0, none⟩ = some (.string (⟨#[]⟩ : ByteArray)) := (blk_cell BK422.out 0).trans rfl
                  have hcz13_1 : w9.cell? ⟨gb422, 1, none⟩ = some (.slice none 0 0) := (blk_cell BK422.out 1).trans rfl
                  have hfz13_0 := blk_frozen BK422.out 0
                  have hfz13_1 := blk_frozen BK422.out 1
                  go_wp2_with (first | (go_at_call 88; (with_reducible refine (sig_Name.calls k1 ((rd_T106 l0 x16_1).f0) t423 _ A12.out).mono ?_); rintro e w' ⟨rfl, ⟨nd, rfl⟩⟩))
                  go_meet
                  case rel => exact ⟨_, (!t423), (by first | rfl | (simp; done) | (simp [*]; done)), H', ⟨by have := HK1.out; first | omega | exact Nat.le_refl _⟩, ⟨(by repeat (first | (with_reducible first | exact HO_3.out | apply HasKeys.alloc | apply HasKeys.drewN | apply HasKeys.drew | refine HasKeys.set ?_ NG422.out _) | exact HO_3.out))⟩, ⟨by (with_reducible repeat (first | refine blk_drewN ?_ _ | refine blk_drew ?_ | refine blk_alloc ?_ _)); refine blk_put (cs := #[.string ((rd_T106 l0 x16_1).f0), .slice none 0 0]) ?_ 1 _ rfl; (with_reducible repeat (first | refine blk_drewN ?_ _ | refine blk_drew ?_ | refine blk_alloc ?_ _)); refine blk_put (cs := #[.string (⟨#[]⟩ : ByteArray), .slice none 0 0]) ?_ 0 _ rfl; (with_reducible repeat (first | refine blk_drewN ?_ _ | refine blk_drew ?_ | refine blk_alloc ?_ _)); exact BK422.out⟩, ⟨by repeat (first | (with_reducible first | exact HB.out | apply below_alloc | apply pw_below_drewN | apply below_drew1 | refine below_set ?_ GE422.out) | exact HB.out)⟩⟩
              case rest =>
                clear HC8
                try clear c1
                try clear c2
                try clear c2b0
                try clear c2b1
                try clear p2
                try clear c4
                try clear p4
                try clear q4
                try clear hx4
                try clear c5
                try clear c5b0
                try clear c6
                try clear c6b0
                try clear c7
                try clear c7b0
                try clear c11
                try clear c11b0
                try clear c11b1
                try clear hcz10_0
                try clear hcz10_1
                try clear hcz13_0
                try clear hcz13_1
                try clear hfz10_0
                try clear hfz10_1
                try clear hfz13_0
                try clear hfz13_1
                try clear hx421_0
                try clear hx421_1
                try clear p2
                try clear p421
                try clear q421
                obtain ⟨kq, x35_7, rfl, HA, HJ7, HO_3, BK422, HB⟩ := hcut
                cases kq with
                | zero => exact absurd HA.out (by simp [sig_Check.j1])
                | succ kj7 =>
                  have H := HA.out
                  clear HA
                  simp only [sig_Check.j1] at H
                  by_cases c14 : x35_7 = true
                  · subst c14
                    have H1 : (some 9) = some r := by rw [if_pos rfl] at H; exact H
                    clear H
                    have H := H1
                    clear H1
                    obtain rfl := Option.some.inj H
                    go_wp2
                    go_ret
                    exact ⟨by first | rfl | (simp [errW_none, errW_some] <;> rfl) | (simp [*, errW_none, errW_some] <;> rfl), by repeat (first | (with_reducible first | exact HB.out | apply below_alloc | apply pw_below_drewN | apply below_drew1 | refine below_set ?_ GE422.out) | exact HB.out)⟩
                  · replace c14 := Bool.eq_false_iff.mpr c14
                    subst c14
                    have H1 : (if x3_1.length < 8796093022208 then (if (((rd_T106 l0 x16_1).f1).length : Int) > 8 then (some 6) else (sig_Check.l1 kj7 (x3_1 ++ [((rd_T106 l0 x16_1).f0)]) l0 (l0.length : Int) x16_1 ((rd_T106 l0 x16_1).f1) (((rd_T106 l0 x16_1).f1).length : Int) 0)) else (none)) = some r := by rw [if_neg (show ¬ (false = true) by decide)] at H; exact H
                    clear H
                    have H := H1
                    clear H1
                    by_cases c15 : x3_1.length < 8796093022208
                    · rw [if_pos c15] at H
                      have LMc15 := Aside0.mk c15
                      clear c15
                      obtain ⟨y424, hy424⟩ : ∃ y_ : List ByteArray, y_ = (x3_1 ++ [((rd_T106 l0 x16_1).f0)]) := ⟨_, rfl⟩
                      replace H : (if (((rd_T106 l0 x16_1).f1).length : Int) > 8 then (some 6) else (sig_Check.l1 kj7 y424 l0 (l0.length : Int) x16_1 ((rd_T106 l0 x16_1).f1) (((rd_T106 l0 x16_1).f1).length : Int) 0)) = some r := by first | (rw [hy424]; with_reducible exact H) | (have H2_ := (Option.bind_some _ _).symm.trans H; rw [hy424]; with_reducible exact H2_) | (have H2_ := (Option.bind_some _ _).symm.trans H; with_reducible exact H2_) | with_reducible exact H | (rw [hy424]; exact H) | exact H
                      have Ny424 := Aside0.mk hy424
                      clear hy424
                      by_cases c16 : (((rd_T106 l0 x16_1).f1).length : Int) > 8
                      · rw [if_pos c16] at H
                        have c16b0 : decide (8 < (((rd_T106 l0 x16_1).f1).length : Int)) = true := decide_eq_true c16
                        have c16b1 : decide (8 < ((rd_T106 l0 x16_1).f1).length) = true := decide_eq_true (by omega)
                        clear c16
                        obtain rfl := Option.some.inj H
                        have hcz17_0 : wc.cell? ⟨gb422, 0, none⟩ = some (.string ((rd_T106 l0 x16_1).f0)) := (blk_cell BK422.out 0).trans rfl
                        have hcz17_1 : wc.cell? ⟨gb422, 1, none⟩ = some (.slice A421_1 ((rd_T106 l0 x16_1).f1).length c421_1) := (blk_cell BK422.out 1).trans rfl
                        have hfz17_0 := blk_frozen BK422.out 0
                        have hfz17_1 := blk_frozen BK422.out 1
                        go_wp2_with (first | (at_mapUpdate; refine put_event sig_Check.keyAs rfl _ _ _ 150 rfl Try.underlying150 Try.underlying3 (b := gm) (acc := x3_1) rfl ?how ?hn ((rd_T106 l0 x16_1).f0) CS.out rfl x16_1 rfl ?hc ?_; (case how => exact (by repeat (first | (with_reducible first | exact HO_3.out | apply HasKeys.alloc | apply HasKeys.drewN | apply HasKeys.drew | refine HasKeys.set ?_ NG422.out _) | exact HO_3.out))); (case hn => have := LMc15.out; omega); (case hc => have := PX.out; have := HL.out; omega); intro w18 ho hg; rw [← Ny424.out] at ho; have n0_ := Aside0.mk (blk_grown (g := gb422) (o := .cells #[.string ((rd_T106 l0 x16_1).f0), .slice A421_1 ((rd_T106 l0 x16_1).f1).length c421_1] 106 (0, 0)) (by (with_reducible repeat (first | refine blk_drewN ?_ _ | refine blk_drew ?_ | refine blk_alloc ?_ _)); exact BK422.out) hg (by have := NG422.out; simpa using Ne.symm this)); have n1_ := Aside0.mk (pw_below_grown (by repeat (first | (with_reducible first | exact HB.out | apply below_alloc | apply pw_below_drewN | apply below_drew1 | refine below_set ?_ GE422.out) | exact HB.out)) (some gm) (below_size (by repeat (first | (with_reducible first | exact HB.out | apply below_alloc | apply pw_below_drewN | apply below_drew1 | refine below_set ?_ GE422.out) | exact HB.out))) hg (fun k_ hk_ => by cases hk_; exact GM.out)); have n2_ := Aside0.mk (show sig_Check.M _ gm y424 from ho); clear BK422; clear HB; clear HO_3; have BK422 := n0_; have HB := n1_; have HO426 := n2_; clear n0_ n1_ n2_; clear ho hg; have hcz19_0 : w18.cell? ⟨gb422, 0, none⟩ = some (.string ((rd_T106 l0 x16_1).f0)) := (blk_cell BK422.out 0).trans rfl; have hcz19_1 : w18.cell? ⟨gb422, 1, none⟩ = some (.slice A421_1 ((rd_T106 l0 x16_1).f1).length c421_1) := (blk_cell BK422.out 1).trans rfl; have hfz19_0 := blk_frozen BK422.out 0; have hfz19_1 := blk_frozen BK422.out 1))
                        go_ret
                        exact ⟨by first | rfl | (simp [errW_none, errW_some] <;> rfl) | (simp [*, errW_none, errW_some] <;> rfl), by repeat (first | (with_reducible first | exact HB.out | apply below_alloc | apply pw_below_drewN | apply below_drew1 | refine below_set ?_ GE422.out) | exact HB.out)⟩
                      · rw [if_neg c16] at H
                        have c16b0 : decide (8 < (((rd_T106 l0 x16_1).f1).length : Int)) = false := decide_eq_false c16
                        have c16b1 : decide (8 < ((rd_T106 l0 x16_1).f1).length) = false := decide_eq_false (by omega)
                        clear c16
                        have H' := Aside0.mk H
                        clear H
                        have hcz20_0 : wc.cell? ⟨gb422, 0, none⟩ = some (.string ((rd_T106 l0 x16_1).f0)) := (blk_cell BK422.out 0).trans rfl
                        have hcz20_1 : wc.cell? ⟨gb422, 1, none⟩ = some (.slice A421_1 ((rd_T106 l0 x16_1).f1).length c421_1) := (blk_cell BK422.out 1).trans rfl
                        have hfz20_0 := blk_frozen BK422.out 0
                        have hfz20_1 := blk_frozen BK422.out 1
                        go_wp2_with (first | (at_mapUpdate; refine put_event sig_Check.keyAs rfl _ _ _ 150 rfl Try.underlying150 Try.underlying3 (b := gm) (acc := x3_1) rfl ?how ?hn ((rd_T106 l0 x16_1).f0) CS.out rfl x16_1 rfl ?hc ?_; (case how => exact (by repeat (first | (with_reducible first | exact HO_3.out | apply HasKeys.alloc | apply HasKeys.drewN | apply HasKeys.drew | refine HasKeys.set ?_ NG422.out _) | exact HO_3.out))); (case hn => have := LMc15.out; omega); (case hc => have := PX.out; have := HL.out; omega); intro w21 ho hg; rw [← Ny424.out] at ho; have n0_ := Aside0.mk (blk_grown (g := gb422) (o := .cells #[.string ((rd_T106 l0 x16_1).f0), .slice A421_1 ((rd_T106 l0 x16_1).f1).length c421_1] 106 (0, 0)) (by (with_reducible repeat (first | refine blk_drewN ?_ _ | refine blk_drew ?_ | refine blk_alloc ?_ _)); exact BK422.out) hg (by have := NG422.out; simpa using Ne.symm this)); have n1_ := Aside0.mk (pw_below_grown (by repeat (first | (with_reducible first | exact HB.out | apply below_alloc | apply pw_below_drewN | apply below_drew1 | refine below_set ?_ GE422.out) | exact HB.out)) (some gm) (below_size (by repeat (first | (with_reducible first | exact HB.out | apply below_alloc | apply pw_below_drewN | apply below_drew1 | refine below_set ?_ GE422.out) | exact HB.out))) hg (fun k_ hk_ => by cases hk_; exact GM.out)); have n2_ := Aside0.mk (show sig_Check.M _ gm y424 from ho); clear BK422; clear HB; clear HO_3; have BK422 := n0_; have HB := n1_; have HO426 := n2_; clear n0_ n1_ n2_; clear ho hg; have hcz22_0 : w21.cell? ⟨gb422, 0, none⟩ = some (.string ((rd_T106 l0 x16_1).f0)) := (blk_cell BK422.out 0).trans rfl; have hcz22_1 : w21.cell? ⟨gb422, 1, none⟩ = some (.slice A421_1 ((rd_T106 l0 x16_1).f1).length c421_1) := (blk_cell BK422.out 1).trans rfl; have hfz22_0 := blk_frozen BK422.out 0; have hfz22_1 := blk_frozen BK422.out 1))
                        go_loopg [48] kj7 (fun kq v48 w' => ∃ (x48_3 : Int), v48 = .int .i64 x48_3 ∧ Aside0 (sig_Check.l1 kq y424 l0 (l0.length : Int) x16_1 ((rd_T106 l0 x16_1).f1) (((rd_T106 l0 x16_1).f1).length : Int) x48_3 = some r) ∧ Aside0 (kq ≤ kj7) ∧ Aside0 (sig_Check.M w' gm y424) ∧ Aside0 (w'.heap[gb422]? = some (.cells #[.string ((rd_T106 l0 x16_1).f0), (.slice A421_1 ((rd_T106 l0 x16_1).f1).length c421_1)] 106 (0, 0))) ∧ Aside0 (Below w.heap.size w w'))
                        case atStart => exact ⟨(0), (by first | rfl | (simp; done) | (simp [*]; done)), H', ⟨Nat.le_refl _⟩, ⟨(by repeat (first | (with_reducible first | exact HO426.out | apply HasKeys.alloc | apply HasKeys.drewN | apply HasKeys.drew | refine HasKeys.set ?_ NG422.out _) | exact HO426.out))⟩, ⟨by (with_reducible repeat (first | refine blk_drewN ?_ _ | refine blk_drew ?_ | refine blk_alloc ?_ _)); exact BK422.out⟩, ⟨by repeat (first | (with_reducible first | exact HB.out | apply below_alloc | apply pw_below_drewN | apply below_drew1 | refine below_set ?_ GE422.out) | exact HB.out)⟩⟩
                        case round =>
                          clear H'
                          try clear c1
                          try clear c2
                          try clear c2b0
                          try clear c2b1
                          try clear p2
                          try clear c4
                          try clear p4
                          try clear q4
                          try clear hx4
                          try clear c5
                          try clear c5b0
                          try clear c6
                          try clear c6b0
                          try clear c7
                          try clear c7b0
                          try clear c11
                          try clear c11b0
                          try clear c11b1
                          try clear c14
                          try clear c15
                          try clear c16
                          try clear c16b0
                          try clear c16b1
                          try clear hcz10_0
                          try clear hcz10_1
                          try clear hcz13_0
                          try clear hcz13_1
                          try clear hcz17_0
                          try clear hcz17_1
                          try clear hcz19_0
                          try clear hcz19_1
                          try clear hcz20_0
                          try clear hcz20_1
                          try clear hcz22_0
                          try clear hcz22_1
                          try clear hfz10_0
                          try clear hfz10_1
                          try clear hfz13_0
                          try clear hfz13_1
                          try clear hfz17_0
                          try clear hfz17_1
                          try clear hfz19_0
                          try clear hfz19_1
                          try clear hfz20_0
                          try clear hfz20_1
                          try clear hfz22_0
                          try clear hfz22_1
                          try clear hx421_0
                          try clear hx421_1
                          try clear p2
                          try clear p4
                          try clear p421
                          try clear q4
                          try clear q421
                          obtain ⟨x48_3, rfl, HA, HK3, HO_3, BK422, HB⟩ := hrel
                          cases gk with
                          | zero => exact absurd HA.out (by simp [sig_Check.l1])
                          | succ k3 =>
                            have H := HA.out
                            clear HA
                            simp only [sig_Check.l1] at H
                            by_cases c23 : x48_3 < (((rd_T106 l0 x16_1).f1).length : Int)
                            · rw [if_pos c23] at H
                              have c23b0 : decide (x48_3 < (((rd_T106 l0 x16_1).f1).length : Int)) = true := decide_eq_true c23
                              clear c23
                              by_cases c24 : 0 ≤ x48_3
                              · rw [if_pos c24] at H
                                have c24b0 : decide (0 ≤ x48_3) = true := decide_eq_true c24
                                clear c24
                                by_cases c25 : x48_3 < (((rd_T106 l0 x16_1).f1).length : Int)
                                · rw [if_pos c25] at H
                                  have c25b0 : decide (x48_3 < (((rd_T106 l0 x16_1).f1).length : Int)) = true := decide_eq_true c25
                                  clear c25
                                  by_cases c26 : (rd ((rd_T106 l0 x16_1).f1) x48_3) = 1
                                  · rw [if_pos c26] at H
                                    have c26b0 : ((rd ((rd_T106 l0 x16_1).f1) x48_3) == 1) = true := beq_iff_eq.mpr c26
                                    have c26b1 : ((rd ((rd_T106 l0 x16_1).f1) x48_3) != 1) = false := bne_eq_false_iff_eq.mpr c26
                                    clear c26
                                    have H' := Aside0.mk H
                                    clear H
                                    have p427 : 0 ≤ (x48_3 : Int) := of_decide_eq_true (by first | (with_reducible assumption) | assumption)
                                    have q427 : x48_3 < (((rd_T106 l0 x16_1).f1).length : Int) := of_decide_eq_true (by first | (with_reducible assumption) | assumption)
                                    obtain ⟨ad427, e427, hx427_0⟩ := Kd.at_int HR421_1.out x48_3 p427 q427
                                    cases e427
                                    replace hx427_0 := (HB.out.cell (World.block_lt_of_cell? w _ hx427_0)).trans hx427_0
                                    replace p427 := eq_true p427
                                    replace q427 := eq_true q427
                                    go_wp2
                                    go_roundg k3
                                    case measure => have := HK1.out; have := HJ7.out; have := HK3.out; omega
                                    case rel => exact ⟨(wrap64 (x48_3 + 1)), (by first | rfl | (simp; done) | (simp [*]; done)), H', ⟨by have := HK1.out; have := HJ7.out; have := HK3.out; omega⟩, ⟨(by repeat (first | (with_reducible first | exact HO_3.out | apply HasKeys.alloc | apply HasKeys.drewN | apply HasKeys.drew | refine HasKeys.set ?_ NG422.out _) | exact HO_3.out))⟩, ⟨by (with_reducible repeat (first | refine blk_drewN ?_ _ | refine blk_drew ?_ | refine blk_alloc ?_ _)); exact BK422.out⟩, ⟨by repeat (first | (with_reducible first | exact HB.out | apply below_alloc | apply pw_below_drewN | apply below_drew1 | refine below_set ?_ GE422.out) | exact HB.out)⟩⟩
                                  · rw [if_neg c26] at H
                                    have c26b0 : ((rd ((rd_T106 l0 x16_1).f1) x48_3) == 1) = false := beq_eq_false_iff_ne.mpr c26
                                    have c26b1 : ((rd ((rd_T106 l0 x16_1).f1) x48_3) != 1) = true := bne_iff_ne.mpr c26
                                    by_cases c27 : (rd ((rd_T106 l0 x16_1).f1) x48_3) = 2
                                    · rw [if_pos c27] at H
                                      have c27b0 : ((rd ((rd_T106 l0 x16_1).f1) x48_3) == 2) = true := beq_iff_eq.mpr c27
                                      have c27b1 : ((rd ((rd_T106 l0 x16_1).f1) x48_3) != 2) = false := bne_eq_false_iff_eq.mpr c27
                                      clear c27
                                      have H' := Aside0.mk H
                                      clear H
                                      have p427 : 0 ≤ (x48_3 : Int) := of_decide_eq_true (by first | (with_reducible assumption) | assumption)
                                      have q427 : x48_3 < (((rd_T106 l0 x16_1).f1).length : Int) := of_decide_eq_true (by first | (with_reducible assumption) | assumption)
                                      obtain ⟨ad427, e427, hx427_0⟩ := Kd.at_int HR421_1.out x48_3 p427 q427
                                      cases e427
                                      replace hx427_0 := (HB.out.cell (World.block_lt_of_cell? w _ hx427_0)).trans hx427_0
                                      replace p427 := eq_true p427
                                      replace q427 := eq_true q427
                                      go_wp2
                                      go_roundg k3
                                      case measure => have := HK1.out; have := HJ7.out; have := HK3.out; omega
                                      case rel => exact ⟨(wrap64 (x48_3 + 1)), (by first | rfl | (simp; done) | (simp [*]; done)), H', ⟨by have := HK1.out; have := HJ7.out; have := HK3.out; omega⟩, ⟨(by repeat (first | (with_reducible first | exact HO_3.out | apply HasKeys.alloc | apply HasKeys.drewN | apply HasKeys.drew | refine HasKeys.set ?_ NG422.out _) | exact HO_3.out))⟩, ⟨by (with_reducible repeat (first | refine blk_drewN ?_ _ | refine blk_drew ?_ | refine blk_alloc ?_ _)); exact BK422.out⟩, ⟨by repeat (first | (with_reducible first | exact HB.out | apply below_alloc | apply pw_below_drewN | apply below_drew1 | refine below_set ?_ GE422.out) | exact HB.out)⟩⟩
                                    · rw [if_neg c27] at H
                                      have c27b0 : ((rd ((rd_T106 l0 x16_1).f1) x48_3) == 2) = false := beq_eq_false_iff_ne.mpr c27
                                      have c27b1 : ((rd ((rd_T106 l0 x16_1).f1) x48_3) != 2) = true := bne_iff_ne.mpr c27
                                      obtain rfl := Option.some.inj H
                                      have p427 : 0 ≤ (x48_3 : Int) := of_decide_eq_true (by first | (with_reducible assumption) | assumption)
                                      have q427 : x48_3 < (((rd_T106 l0 x16_1).f1).length : Int) := of_decide_eq_true (by first | (with_reducible assumption) | assumption)
                                      obtain ⟨ad427, e427, hx427_0⟩ := Kd.at_int HR421_1.out x48_3 p427 q427
                                      cases e427
                                      replace hx427_0 := (HB.out.cell (World.block_lt_of_cell? w _ hx427_0)).trans hx427_0
                                      replace p427 := eq_true p427
                                      replace q427 := eq_true q427
                                      go_wp2
                                      go_ret
                                      exact ⟨by first | rfl | (simp [errW_none, errW_some] <;> rfl) | (simp [*, errW_none, errW_some] <;> rfl), by repeat (first | (with_reducible first | exact HB.out | apply below_alloc | apply pw_below_drewN | apply below_drew1 | refine below_set ?_ GE422.out) | exact HB.out)⟩
                                · rw [if_neg c25] at H
                                  exact absurd H (by simp)
                              · rw [if_neg c24] at H
                                exact absurd H (by simp)
                            · rw [if_neg c23] at H
                              have c23b0 : decide (x48_3 < (((rd_T106 l0 x16_1).f1).length : Int)) = false := decide_eq_false c23
                              clear c23
                              have H' := Aside0.mk H
                              clear H
                              go_wp2
                              go_roundg k3
                              case measure => have := HK1.out; have := HJ7.out; have := HK3.out; omega
                              case rel => exact ⟨(y424), (wrap64 (x16_1 + 1)), (by first | rfl | (simp; done) | (simp [*]; done)), H', ⟨by have := HK1.out; have := HJ7.out; have := HK3.out; omega⟩, ⟨(by repeat (first | (with_reducible first | exact HO_3.out | apply HasKeys.alloc | apply HasKeys.drewN | apply HasKeys.drew | refine HasKeys.set ?_ NG422.out _) | exact HO_3.out))⟩, ⟨by repeat (first | (with_reducible first | exact HB.out | apply below_alloc | apply pw_below_drewN | apply below_drew1 | refine below_set ?_ GE422.out) | exact HB.out)⟩⟩
                    · rw [if_neg c15] at H
                      exact absurd H (by simp)
            · rw [if_neg c7] at H
              exact absurd H (by simp)
          · rw [if_neg c6] at H
            exact absurd H (by simp)
        · rw [if_neg c5] at H
          have c5b0 : decide (x16_1 < (l0.length : Int)) = false := decide_eq_false c5
          clear c5
          obtain rfl := Option.some.inj H
          go_wp2
          go_ret
          exact ⟨by first | rfl | (simp [errW_none, errW_some] <;> rfl) | (simp [*, errW_none, errW_some] <;> rfl), by repeat (first | (with_reducible first | exact HB.out | apply below_alloc | apply pw_below_drewN | apply below_drew1) | exact HB.out)⟩
end

/-! ### slices_Clone_byte_byte: function 98 -/
theorem slices_Clone_byte_byte.info : (Try.prog.info? 5).map (fun i => (i.zero, i.size, i.bytes)) = some (some (.int .u8 0), 1, 1) := by kernel_rfl

set_option maxHeartbeats 8000000 in
set_option maxRecDepth 100000 in
theorem slices_Clone_byte_byte.calls0 (A0 : Option Addr) (c0 : Nat) (l0 : List Int) (w : World) (hr0 : Kd.C (Kd.int .u8) w A0 l0.length l0) (hc0 : l0.length ≤ c0) (hl : l0.length ≤ 140737488355328) :
    Calls Try.prog 98 #[.slice A0 l0.length c0] w fun e w' => ∃ v0_ : Value, e = .returned v0_ ∧ Kd.R (Kd.int .u8) 5 w' w.heap.size (fun _ => True) v0_ l0 ∧ Below w.heap.size w w' := by
  have hnil := fun (w : World) (a : Option Addr) (n c : Nat) => Lib.run_eql_slice_nil (P := Try.prog) w 71 5 a n c 0 0 Try.underlying71
  have HL := Lib.hid hl; clear hl
  cases A0 with
  | none =>
    have HR := Lib.hid hr0; clear hr0
    go_enter Try.func98, Try.ntmps98
    go_wp2
    go_ret
    have : l0 = [] := by
      cases l0 with
      | nil => rfl
      | cons x l => exfalso; obtain ⟨ad, c, e, _⟩ := Kd.C_get HR.out 0 0 (by omega) (by simp only [List.length_cons]; omega); cases e
    subst this
    exact ⟨_, rfl, Kd.R_nil _ _ _ _ _, Below.refl _ _⟩
  | some ad =>
    have HR := Lib.hid hr0; clear hr0
    have HB := Lib.hid (Below.refl w.heap.size w)
    go_enter Try.func98, Try.ntmps98
    go_wp2_with (first | ((with_reducible refine gate_dst (N := 5) rfl ?_); refine Kd.R_lit (Kd.int .u8) w.heap.size 5 ?hg (N := 5) ?hd (w0 := w) (xs := ([] : List Int)) (inner := []) (ok := fun _ => True) (okp := fun _ => True) ?hr ?hp (fun _ hk => hk) trivial (Below.refl _ _) (Nat.le_refl _) (by simp) ?_; (case hd => rfl); (case hg => rfl); (case hr => first | (go_simp; done) | (go_simp; rfl)); (case hp => exact (Reps.none _ _)); intro v1 w1 h1 h2 h3 h4; have H1 := Lib.hid h1; have H2 := Lib.hid h2; clear h1 h2 h3 h4) | ((with_reducible refine gate_dst (N := 7) rfl ?_); refine Kd.R_append_row (Value.int .u8) 0 (w0 := w) w.heap.size rfl (.tmp 5) (.tmp 6) 71 5 (.int .u8 0) 1 rfl Try.underlying71 slices_Clone_byte_byte.info rfl (by decide) _ [] l0 _ _ _ (fun _ => True) rfl rfl (fun _ _ => trivial) H1.out (Kd.C_below HR.out H2.out) H2.out H2.out.size ?hl ?_; (case hl => have := HL.out; simp; omega); intro v2 w2 h1 h2 h3 h4; have H3 := Lib.hid h1; have H4 := Lib.hid h2; clear h1 h2 h3 h4))
    go_ret
    exact ⟨_, rfl, H3.out, H4.out⟩
def slices_Clone_byte_byte.f (l0 : List Int) : Option (List Int) := if l0.length ≤ 140737488355328 then some l0 else none
theorem slices_Clone_byte_byte.calls (A0 : Option Addr) (c0 : Nat) (l0 : List Int) (r : List Int) (w : World) (hr0 : Kd.C (Kd.int .u8) w A0 l0.length l0) (hc0 : l0.length ≤ c0) (h : slices_Clone_byte_byte.f l0 = some r) :
    Calls Try.prog 98 #[.slice A0 l0.length c0] w fun e w' => ∃ v0_ : Value, e = .returned v0_ ∧ Kd.R (Kd.int .u8) 5 w' w.heap.size (fun _ => True) v0_ r ∧ Below w.heap.size w w' := by
  unfold slices_Clone_byte_byte.f at h
  split at h
  · obtain rfl := Option.some.inj h
    exact slices_Clone_byte_byte.calls0 A0 c0 l0 w hr0 hc0 (by assumption)
  · cases h

-- NOT PRINTED: function 99 (wire_groups)

end Go.Proofs.Ytjfklfmfeghjnab.PG
