-- Contracts of Go functions, each with its plain Lean function: written by wip/tools/myprint.py of this work (the kit's print, with contracts proved by hand spliced in).
import Derived.Test.YtjfklfmfeghjnacPWx0
namespace Go.Proofs.Ytjfklfmfeghjnac.PW
open Go.RowKit Go.Proofs.YtjfklfmfeghjnacW.PrintWords Go.Proofs.YtjfklfmfeghjnacW.PrintLast Go.Proofs.YtjfklfmfeghjnacW.PrintMore
attribute [local go_sem] max2_int min2_int max_two min_two max_three min_three max_four min_four   -- for this text's walks alone
set_option linter.unusedVariables false
set_option linter.unusedSimpArgs false

/-! ### tachographref25_May: function 25 -/
mutual
def tachographref25_May.l0 : Nat → Int → List (S86) → Int → Option (Bool)
  | 0, _, _, _ => none
  | k + 1, x0, x1, x5 => if x5 < (x1.length : Int) then (if 0 ≤ x5 then (if ((rd_T86 x1 x5).f0) < 0 then (tachographref25_May.j1 k x0 x1 x5 true) else (if ((rd_T86 x1 x5).f1) < 0 then (tachographref25_May.j1 k x0 x1 x5 true) else (if ((rd_T86 x1 x5).f0) > x0 then (tachographref25_May.j1 k x0 x1 x5 true) else (tachographref25_May.j1 k x0 x1 x5 (decide (((rd_T86 x1 x5).f1) > (wrap64 (x0 - ((rd_T86 x1 x5).f0))))))))) else (none)) else (some true)
def tachographref25_May.j1 : Nat → Int → List (S86) → Int → Bool → Option (Bool)
  | 0, _, _, _, _ => none
  | k + 1, x0, x1, x5, x49 => if x49 = true then (some false) else (if x5 > 0 then (if 0 ≤ x5 then (if x5 < (x1.length : Int) then (if 0 ≤ (wrap64 (x5 - 1)) then (if (wrap64 (x5 - 1)) < (x1.length : Int) then (if ((rd_T86 x1 x5).f0) < (wrap64 (((rd_T86 x1 (wrap64 (x5 - 1))).f0) + ((rd_T86 x1 (wrap64 (x5 - 1))).f1))) then (some false) else (tachographref25_May.l0 k x0 x1 (wrap64 (x5 + 1)))) else (none)) else (none)) else (none)) else (none)) else (tachographref25_May.l0 k x0 x1 (wrap64 (x5 + 1))))
end
def tachographref25_May.f (k : Nat) (a0 : Int) (l1 : List (S86)) : Option (Bool) := tachographref25_May.l0 k a0 l1 0
theorem tachographref25_May.mono_l : ∀ k, (∀ y0 y1 y2, LeO (tachographref25_May.l0 k y0 y1 y2) (tachographref25_May.l0 (k + 1) y0 y1 y2)) ∧ (∀ y0 y1 y2 y3, LeO (tachographref25_May.j1 k y0 y1 y2 y3) (tachographref25_May.j1 (k + 1) y0 y1 y2 y3))
  | 0 => ⟨fun _ _ _ r h => by simp [tachographref25_May.l0] at h, fun _ _ _ _ r h => by simp [tachographref25_May.j1] at h⟩
  | k + 1 => by
    obtain ⟨ih0, ih1⟩ := tachographref25_May.mono_l k
    refine ⟨?_, ?_⟩
    · intro y0 y1 y2
      unfold tachographref25_May.l0
      repeat' first
      | (with_reducible exact ih0 _ _ _)
      | (with_reducible exact ih1 _ _ _ _)
      | (with_reducible exact LeO.refl _)
      | (with_reducible exact LeO.none _)
      | (with_reducible refine LeO.ite ?_ ?_)
      | (with_reducible refine LeO.bind ?_ (fun _ => ?_))
      | exact ih0 _ _ _
      | exact ih1 _ _ _ _
      | exact LeO.none _
      | refine LeO.ite ?_ ?_
      | refine LeO.bind ?_ (fun _ => ?_)
    · intro y0 y1 y2 y3
      unfold tachographref25_May.j1
      repeat' first
      | (with_reducible exact ih0 _ _ _)
      | (with_reducible exact ih1 _ _ _ _)
      | (with_reducible exact LeO.refl _)
      | (with_reducible exact LeO.none _)
      | (with_reducible refine LeO.ite ?_ ?_)
      | (with_reducible refine LeO.bind ?_ (fun _ => ?_))
      | exact ih0 _ _ _
      | exact ih1 _ _ _ _
      | exact LeO.none _
      | refine LeO.ite ?_ ?_
      | refine LeO.bind ?_ (fun _ => ?_)
theorem tachographref25_May.mono : ∀ a0 a1 k, LeO (tachographref25_May.f k a0 a1) (tachographref25_May.f (k + 1) a0 a1) := by
  intro a0 a1 k
  obtain ⟨ih0, ih1⟩ := tachographref25_May.mono_l k
  unfold tachographref25_May.f
  repeat' first
      | (with_reducible exact ih0 _ _ _)
      | (with_reducible exact ih1 _ _ _ _)
      | (with_reducible exact LeO.refl _)
      | (with_reducible exact LeO.none _)
      | (with_reducible refine LeO.ite ?_ ?_)
      | (with_reducible refine LeO.bind ?_ (fun _ => ?_))
      | exact ih0 _ _ _
      | exact ih1 _ _ _ _
      | exact LeO.none _
      | refine LeO.ite ?_ ?_
      | refine LeO.bind ?_ (fun _ => ?_)
set_option maxHeartbeats 8000000 in
set_option maxRecDepth 100000 in
theorem tachographref25_May.calls (k : Nat) (a0 : Int) (A1 : Option Addr) (c1 : Nat) (l1 : List (S86)) (r : Bool) (w : World) (hr1 : Kd.C k86 w A1 l1.length l1) (hc1 : l1.length ≤ c1) (h : tachographref25_May.f k a0 l1 = some r) :
    Calls Try.prog 25 #[.int .i64 a0, .slice A1 l1.length c1] w fun e w' => e = .returned (.bool r) ∧ Drawn0 w w' := by
  have HR1 := Aside0.mk hr1
  have HC1 := Aside0.mk hc1
  clear hr1 hc1
  have H : (tachographref25_May.l0 k a0 l1 0) = some r := h
  clear h
  have H' := Aside0.mk H
  clear H
  go_enter Try.func25, Try.ntmps25
  go_wp2
  repeat (go_quiet (fail); try go_wp2)
  go_loopg [5] k (fun kq v5 w' => ∃ (x5_1 : Int), v5 = .int .i64 x5_1 ∧ Aside0 (tachographref25_May.l0 kq a0 l1 x5_1 = some r) ∧ Aside0 (kq ≤ k) ∧ Drawn0 w w')
  case atStart => exact ⟨(0), (by first | rfl | (simp; done) | (simp [*]; done)), H', ⟨Nat.le_refl _⟩, by repeat (first | exact Drawn0.refl _ | apply Drawn0.step)⟩
  case round =>
    clear H'
    try clear c1
    try clear c2
    try clear p2
    obtain ⟨x5_1, rfl, HA, HK1, ⟨m1, rfl⟩⟩ := hrel
    cases gk with
    | zero => exact absurd HA.out (by simp [tachographref25_May.l0])
    | succ k1 =>
      have H := HA.out
      clear HA
      simp only [tachographref25_May.l0] at H
      by_cases c3 : x5_1 < (l1.length : Int)
      · rw [if_pos c3] at H
        have c3b0 : decide (x5_1 < (l1.length : Int)) = true := decide_eq_true c3
        clear c3
        have HC4 := Aside0.mk H
        clear H
        go_upto_region 4 with (fail)
        repeat (go_quiet (fail); go_upto_region 4 with (fail))
        go_cut [49] (fun v49 wc => ∃ (kq : Nat) (x49_3 : Bool), v49 = .bool x49_3 ∧ Aside0 (tachographref25_May.j1 kq a0 l1 x5_1 x49_3 = some r) ∧ Aside0 (kq ≤ k1) ∧ Drawn0 w wc)
        case first =>
          have H := HC4.out
          clear HC4
          by_cases c5 : 0 ≤ x5_1
          · rw [if_pos c5] at H
            have c5b0 : decide (0 ≤ x5_1) = true := decide_eq_true c5
            clear c5
            (first | rw [c5b0] | (simp only [i64_w, i32_w]; rw [c5b0]) | skip)
            by_cases c6 : ((rd_T86 l1 x5_1).f0) < 0
            · rw [if_pos c6] at H
              have c6b0 : decide (((rd_T86 l1 x5_1).f0) < 0) = true := decide_eq_true c6
              clear c6
              have H' := Aside0.mk H
              clear H
              have p131 : 0 ≤ (x5_1 : Int) := of_decide_eq_true (by first | (with_reducible assumption) | assumption)
              have q131 : x5_1 < (l1.length : Int) := of_decide_eq_true (by first | (with_reducible assumption) | assumption)
              obtain ⟨ad131, A131_2, c131_2, e131, hx131_0, hx131_1, hx131_2, hl131_2, hi131_2⟩ := at_T86 HR1.out x5_1 p131 q131
              cases e131
              have HR131_2 := Aside0.mk hi131_2
              have HC131_2 := Aside0.mk hl131_2
              clear hi131_2 hl131_2
              replace p131 := eq_true p131
              replace q131 := eq_true q131
              go_wp2
              repeat (go_quiet (fail); try go_wp2)
              go_meet
              case rel => exact ⟨_, (true), (by first | rfl | (simp; done) | (simp [*]; done)), H', ⟨by have := HK1.out; first | omega | exact Nat.le_refl _⟩, by repeat (first | exact Drawn0.refl _ | apply Drawn0.step)⟩
            · rw [if_neg c6] at H
              have c6b0 : decide (((rd_T86 l1 x5_1).f0) < 0) = false := decide_eq_false c6
              clear c6
              by_cases c7 : ((rd_T86 l1 x5_1).f1) < 0
              · rw [if_pos c7] at H
                have c7b0 : decide (((rd_T86 l1 x5_1).f1) < 0) = true := decide_eq_true c7
                clear c7
                have H' := Aside0.mk H
                clear H
                have p131 : 0 ≤ (x5_1 : Int) := of_decide_eq_true (by first | (with_reducible assumption) | assumption)
                have q131 : x5_1 < (l1.length : Int) := of_decide_eq_true (by first | (with_reducible assumption) | assumption)
                obtain ⟨ad131, A131_2, c131_2, e131, hx131_0, hx131_1, hx131_2, hl131_2, hi131_2⟩ := at_T86 HR1.out x5_1 p131 q131
                cases e131
                have HR131_2 := Aside0.mk hi131_2
                have HC131_2 := Aside0.mk hl131_2
                clear hi131_2 hl131_2
                replace p131 := eq_true p131
                replace q131 := eq_true q131
                have p132 : 0 ≤ (x5_1 : Int) := of_decide_eq_true (by first | (with_reducible assumption) | assumption)
                have q132 : x5_1 < (l1.length : Int) := of_decide_eq_true (by first | (with_reducible assumption) | assumption)
                obtain ⟨ad132, A132_2, c132_2, e132, hx132_0, hx132_1, hx132_2, hl132_2, hi132_2⟩ := at_T86 HR1.out x5_1 p132 q132
                obtain rfl : ad131 = ad132 := (by injection e132)
                have HR132_2 := Aside0.mk hi132_2
                have HC132_2 := Aside0.mk hl132_2
                clear hi132_2 hl132_2
                replace p132 := eq_true p132
                replace q132 := eq_true q132
                have ea_ := Option.some.inj (hx131_2.symm.trans hx132_2)
                injection ea_ with ea_ en_ ec_
                subst ea_
                subst ec_
                clear en_
                go_wp2
                repeat (go_quiet (fail); try go_wp2)
                go_meet
                case rel => exact ⟨_, (true), (by first | rfl | (simp; done) | (simp [*]; done)), H', ⟨by have := HK1.out; first | omega | exact Nat.le_refl _⟩, by repeat (first | exact Drawn0.refl _ | apply Drawn0.step)⟩
              · rw [if_neg c7] at H
                have c7b0 : decide (((rd_T86 l1 x5_1).f1) < 0) = false := decide_eq_false c7
                clear c7
                by_cases c8 : ((rd_T86 l1 x5_1).f0) > a0
                · rw [if_pos c8] at H
                  have c8b0 : decide (a0 < ((rd_T86 l1 x5_1).f0)) = true := decide_eq_true c8
                  clear c8
                  have H' := Aside0.mk H
                  clear H
                  have p131 : 0 ≤ (x5_1 : Int) := of_decide_eq_true (by first | (with_reducible assumption) | assumption)
                  have q131 : x5_1 < (l1.length : Int) := of_decide_eq_true (by first | (with_reducible assumption) | assumption)
                  obtain ⟨ad131, A131_2, c131_2, e131, hx131_0, hx131_1, hx131_2, hl131_2, hi131_2⟩ := at_T86 HR1.out x5_1 p131 q131
                  cases e131
                  have HR131_2 := Aside0.mk hi131_2
                  have HC131_2 := Aside0.mk hl131_2
                  clear hi131_2 hl131_2
                  replace p131 := eq_true p131
                  replace q131 := eq_true q131
                  have p132 : 0 ≤ (x5_1 : Int) := of_decide_eq_true (by first | (with_reducible assumption) | assumption)
                  have q132 : x5_1 < (l1.length : Int) := of_decide_eq_true (by first | (with_reducible assumption) | assumption)
                  obtain ⟨ad132, A132_2, c132_2, e132, hx132_0, hx132_1, hx132_2, hl132_2, hi132_2⟩ := at_T86 HR1.out x5_1 p132 q132
                  obtain rfl : ad131 = ad132 := (by injection e132)
                  have HR132_2 := Aside0.mk hi132_2
                  have HC132_2 := Aside0.mk hl132_2
                  clear hi132_2 hl132_2
                  replace p132 := eq_true p132
                  replace q132 := eq_true q132
                  have ea_ := Option.some.inj (hx131_2.symm.trans hx132_2)
                  injection ea_ with ea_ en_ ec_
                  subst ea_
                  subst ec_
                  clear en_
                  have p133 : 0 ≤ (x5_1 : Int) := of_decide_eq_true (by first | (with_reducible assumption) | assumption)
                  have q133 : x5_1 < (l1.length : Int) := of_decide_eq_true (by first | (with_reducible assumption) | assumption)
                  obtain ⟨ad133, A133_2, c133_2, e133, hx133_0, hx133_1, hx133_2, hl133_2, hi133_2⟩ := at_T86 HR1.out x5_1 p133 q133
                  obtain rfl : ad131 = ad133 := (by injection e133)
                  have HR133_2 := Aside0.mk hi133_2
                  have HC133_2 := Aside0.mk hl133_2
                  clear hi133_2 hl133_2
                  replace p133 := eq_true p133
                  replace q133 := eq_true q133
                  have ea_ := Option.some.inj (hx131_2.symm.trans hx133_2)
                  injection ea_ with ea_ en_ ec_
                  subst ea_
                  subst ec_
                  clear en_
                  go_wp2
                  repeat (go_quiet (fail); try go_wp2)
                  go_meet
                  case rel => exact ⟨_, (true), (by first | rfl | (simp; done) | (simp [*]; done)), H', ⟨by have := HK1.out; first | omega | exact Nat.le_refl _⟩, by repeat (first | exact Drawn0.refl _ | apply Drawn0.step)⟩
                · rw [if_neg c8] at H
                  have c8b0 : decide (a0 < ((rd_T86 l1 x5_1).f0)) = false := decide_eq_false c8
                  clear c8
                  have H' := Aside0.mk H
                  clear H
                  have p131 : 0 ≤ (x5_1 : Int) := of_decide_eq_true (by first | (with_reducible assumption) | assumption)
                  have q131 : x5_1 < (l1.length : Int) := of_decide_eq_true (by first | (with_reducible assumption) | assumption)
                  obtain ⟨ad131, A131_2, c131_2, e131, hx131_0, hx131_1, hx131_2, hl131_2, hi131_2⟩ := at_T86 HR1.out x5_1 p131 q131
                  cases e131
                  have HR131_2 := Aside0.mk hi131_2
                  have HC131_2 := Aside0.mk hl131_2
                  clear hi131_2 hl131_2
                  replace p131 := eq_true p131
                  replace q131 := eq_true q131
                  have p132 : 0 ≤ (x5_1 : Int) := of_decide_eq_true (by first | (with_reducible assumption) | assumption)
                  have q132 : x5_1 < (l1.length : Int) := of_decide_eq_true (by first | (with_reducible assumption) | assumption)
                  obtain ⟨ad132, A132_2, c132_2, e132, hx132_0, hx132_1, hx132_2, hl132_2, hi132_2⟩ := at_T86 HR1.out x5_1 p132 q132
                  obtain rfl : ad131 = ad132 := (by injection e132)
                  have HR132_2 := Aside0.mk hi132_2
                  have HC132_2 := Aside0.mk hl132_2
                  clear hi132_2 hl132_2
                  replace p132 := eq_true p132
                  replace q132 := eq_true q132
                  have ea_ := Option.some.inj (hx131_2.symm.trans hx132_2)
                  injection ea_ with ea_ en_ ec_
                  subst ea_
                  subst ec_
                  clear en_
                  have p133 : 0 ≤ (x5_1 : Int) := of_decide_eq_true (by first | (with_reducible assumption) | assumption)
                  have q133 : x5_1 < (l1.length : Int) := of_decide_eq_true (by first | (with_reducible assumption) | assumption)
                  obtain ⟨ad133, A133_2, c133_2, e133, hx133_0, hx133_1, hx133_2, hl133_2, hi133_2⟩ := at_T86 HR1.out x5_1 p133 q133
                  obtain rfl : ad131 = ad133 := (by injection e133)
                  have HR133_2 := Aside0.mk hi133_2
                  have HC133_2 := Aside0.mk hl133_2
                  clear hi133_2 hl133_2
                  replace p133 := eq_true p133
                  replace q133 := eq_true q133
                  have ea_ := Option.some.inj (hx131_2.symm.trans hx133_2)
                  injection ea_ with ea_ en_ ec_
                  subst ea_
                  subst ec_
                  clear en_
                  have p134 : 0 ≤ (x5_1 : Int) := of_decide_eq_true (by first | (with_reducible assumption) | assumption)
                  have q134 : x5_1 < (l1.length : Int) := of_decide_eq_true (by first | (with_reducible assumption) | assumption)
                  obtain ⟨ad134, A134_2, c134_2, e134, hx134_0, hx134_1, hx134_2, hl134_2, hi134_2⟩ := at_T86 HR1.out x5_1 p134 q134
                  obtain rfl : ad131 = ad134 := (by injection e134)
                  have HR134_2 := Aside0.mk hi134_2
                  have HC134_2 := Aside0.mk hl134_2
                  clear hi134_2 hl134_2
                  replace p134 := eq_true p134
                  replace q134 := eq_true q134
                  have ea_ := Option.some.inj (hx131_2.symm.trans hx134_2)
                  injection ea_ with ea_ en_ ec_
                  subst ea_
                  subst ec_
                  clear en_
                  have p135 : 0 ≤ (x5_1 : Int) := of_decide_eq_true (by first | (with_reducible assumption) | assumption)
                  have q135 : x5_1 < (l1.length : Int) := of_decide_eq_true (by first | (with_reducible assumption) | assumption)
                  obtain ⟨ad135, A135_2, c135_2, e135, hx135_0, hx135_1, hx135_2, hl135_2, hi135_2⟩ := at_T86 HR1.out x5_1 p135 q135
                  obtain rfl : ad131 = ad135 := (by injection e135)
                  have HR135_2 := Aside0.mk hi135_2
                  have HC135_2 := Aside0.mk hl135_2
                  clear hi135_2 hl135_2
                  replace p135 := eq_true p135
                  replace q135 := eq_true q135
                  have ea_ := Option.some.inj (hx131_2.symm.trans hx135_2)
                  injection ea_ with ea_ en_ ec_
                  subst ea_
                  subst ec_
                  clear en_
                  go_wp2
                  repeat (go_quiet (fail); try go_wp2)
                  go_meet
                  case rel => exact ⟨_, (decide (((rd_T86 l1 x5_1).f1) > (wrap64 (a0 - ((rd_T86 l1 x5_1).f0))))), (by first | rfl | (simp; done) | (simp [*]; done)), H', ⟨by have := HK1.out; first | omega | exact Nat.le_refl _⟩, by repeat (first | exact Drawn0.refl _ | apply Drawn0.step)⟩
          · rw [if_neg c5] at H
            exact absurd H (by simp)
        case rest =>
          clear HC4
          try clear c1
          try clear p1
          try clear q1
          try clear hx1
          try clear c2
          try clear p2
          try clear c3
          try clear c3b0
          try clear c5
          try clear c5b0
          try clear c6
          try clear c6b0
          try clear p6
          try clear c7
          try clear c7b0
          try clear c8
          try clear c8b0
          try clear hx131_0
          try clear hx131_1
          try clear hx131_2
          try clear hx132_0
          try clear hx132_1
          try clear hx132_2
          try clear hx133_0
          try clear hx133_1
          try clear hx133_2
          try clear hx134_0
          try clear hx134_1
          try clear hx134_2
          try clear hx135_0
          try clear hx135_1
          try clear hx135_2
          try clear p131
          try clear p132
          try clear p133
          try clear p134
          try clear p135
          try clear p2
          try clear q131
          try clear q132
          try clear q133
          try clear q134
          try clear q135
          obtain ⟨kq, x49_3, rfl, HA, HJ3, ⟨mc3, rfl⟩⟩ := hcut
          cases kq with
          | zero => exact absurd HA.out (by simp [tachographref25_May.j1])
          | succ kj3 =>
            have H := HA.out
            clear HA
            simp only [tachographref25_May.j1] at H
            by_cases c9 : x49_3 = true
            · subst c9
              have H1 : (some false) = some r := by rw [if_pos rfl] at H; exact H
              clear H
              have H := H1
              clear H1
              obtain rfl := Option.some.inj H
              go_wp2
              repeat (go_quiet (fail); try go_wp2)
              go_ret
              exact ⟨by first | rfl | (simp; done) | (simp [*]; done), by repeat (first | exact Drawn0.refl _ | apply Drawn0.step)⟩
            · replace c9 := Bool.eq_false_iff.mpr c9
              subst c9
              have H1 : (if x5_1 > 0 then (if 0 ≤ x5_1 then (if x5_1 < (l1.length : Int) then (if 0 ≤ (wrap64 (x5_1 - 1)) then (if (wrap64 (x5_1 - 1)) < (l1.length : Int) then (if ((rd_T86 l1 x5_1).f0) < (wrap64 (((rd_T86 l1 (wrap64 (x5_1 - 1))).f0) + ((rd_T86 l1 (wrap64 (x5_1 - 1))).f1))) then (some false) else (tachographref25_May.l0 kj3 a0 l1 (wrap64 (x5_1 + 1)))) else (none)) else (none)) else (none)) else (none)) else (tachographref25_May.l0 kj3 a0 l1 (wrap64 (x5_1 + 1)))) = some r := by rw [if_neg (show ¬ (false = true) by decide)] at H; exact H
              clear H
              have H := H1
              clear H1
              by_cases c10 : x5_1 > 0
              · rw [if_pos c10] at H
                have c10b0 : decide (0 < x5_1) = true := decide_eq_true c10
                clear c10
                by_cases c11 : 0 ≤ x5_1
                · rw [if_pos c11] at H
                  have c11b0 : decide (0 ≤ x5_1) = true := decide_eq_true c11
                  clear c11
                  by_cases c12 : x5_1 < (l1.length : Int)
                  · rw [if_pos c12] at H
                    have c12b0 : decide (x5_1 < (l1.length : Int)) = true := decide_eq_true c12
                    clear c12
                    obtain ⟨ji13, hji13⟩ : ∃ j_ : Int, (wrap64 (x5_1 - 1)) = j_ := ⟨_, rfl⟩
                    replace H : (if 0 ≤ (ji13) then (if (ji13) < (l1.length : Int) then (if ((rd_T86 l1 x5_1).f0) < (wrap64 (((rd_T86 l1 (ji13)).f0) + ((rd_T86 l1 (ji13)).f1))) then (some false) else (tachographref25_May.l0 kj3 a0 l1 (wrap64 (x5_1 + 1)))) else (none)) else (none)) = some r := by first | (rw [hji13] at H; exact H) | (simp only [hji13] at H ⊢; exact H)
                    have hji13w : (IntKind.i64.wrap (x5_1 - 1)) = ji13 := (i64_w _).trans hji13
                    by_cases c14 : 0 ≤ (ji13)
                    · rw [if_pos c14] at H
                      have c14b0 : decide (0 ≤ (ji13)) = true := decide_eq_true c14
                      clear c14
                      by_cases c15 : (ji13) < (l1.length : Int)
                      · rw [if_pos c15] at H
                        have c15b0 : decide ((ji13) < (l1.length : Int)) = true := decide_eq_true c15
                        clear c15
                        by_cases c16 : ((rd_T86 l1 x5_1).f0) < (wrap64 (((rd_T86 l1 (ji13)).f0) + ((rd_T86 l1 (ji13)).f1)))
                        · rw [if_pos c16] at H
                          have c16b0 : decide (((rd_T86 l1 x5_1).f0) < (wrap64 (((rd_T86 l1 (ji13)).f0) + ((rd_T86 l1 (ji13)).f1)))) = true := decide_eq_true c16
                          clear c16
                          obtain rfl := Option.some.inj H
                          have p136 : 0 ≤ (x5_1 : Int) := of_decide_eq_true (by first | (with_reducible assumption) | assumption)
                          have q136 : x5_1 < (l1.length : Int) := of_decide_eq_true (by first | (with_reducible assumption) | assumption)
                          obtain ⟨ad136, A136_2, c136_2, e136, hx136_0, hx136_1, hx136_2, hl136_2, hi136_2⟩ := at_T86 HR1.out x5_1 p136 q136
                          cases e136
                          have HR136_2 := Aside0.mk hi136_2
                          have HC136_2 := Aside0.mk hl136_2
                          clear hi136_2 hl136_2
                          replace p136 := eq_true p136
                          replace q136 := eq_true q136
                          have p137 : 0 ≤ ((ji13) : Int) := of_decide_eq_true (by first | (with_reducible assumption) | assumption)
                          have q137 : (ji13) < (l1.length : Int) := of_decide_eq_true (by first | (with_reducible assumption) | assumption)
                          obtain ⟨ad137, A137_2, c137_2, e137, hx137_0, hx137_1, hx137_2, hl137_2, hi137_2⟩ := at_T86 HR1.out (ji13) p137 q137
                          obtain rfl : ad136 = ad137 := (by injection e137)
                          have HR137_2 := Aside0.mk hi137_2
                          have HC137_2 := Aside0.mk hl137_2
                          clear hi137_2 hl137_2
                          replace p137 := eq_true p137
                          replace q137 := eq_true q137
                          have p138 : 0 ≤ ((ji13) : Int) := of_decide_eq_true (by first | (with_reducible assumption) | assumption)
                          have q138 : (ji13) < (l1.length : Int) := of_decide_eq_true (by first | (with_reducible assumption) | assumption)
                          obtain ⟨ad138, A138_2, c138_2, e138, hx138_0, hx138_1, hx138_2, hl138_2, hi138_2⟩ := at_T86 HR1.out (ji13) p138 q138
                          obtain rfl : ad136 = ad138 := (by injection e138)
                          have HR138_2 := Aside0.mk hi138_2
                          have HC138_2 := Aside0.mk hl138_2
                          clear hi138_2 hl138_2
                          replace p138 := eq_true p138
                          replace q138 := eq_true q138
                          have ea_ := Option.some.inj (hx137_2.symm.trans hx138_2)
                          injection ea_ with ea_ en_ ec_
                          subst ea_
                          subst ec_
                          clear en_
                          go_wp2
                          repeat (go_quiet (fail); try go_wp2)
                          go_ret
                          exact ⟨by first | rfl | (simp; done) | (simp only [← hji13] <;> (first | rfl | simp)) | (simp [*]; done), by repeat (first | exact Drawn0.refl _ | apply Drawn0.step)⟩
                        · rw [if_neg c16] at H
                          have c16b0 : decide (((rd_T86 l1 x5_1).f0) < (wrap64 (((rd_T86 l1 (ji13)).f0) + ((rd_T86 l1 (ji13)).f1)))) = false := decide_eq_false c16
                          clear c16
                          have H' := Aside0.mk H
                          clear H
                          have p136 : 0 ≤ (x5_1 : Int) := of_decide_eq_true (by first | (with_reducible assumption) | assumption)
                          have q136 : x5_1 < (l1.length : Int) := of_decide_eq_true (by first | (with_reducible assumption) | assumption)
                          obtain ⟨ad136, A136_2, c136_2, e136, hx136_0, hx136_1, hx136_2, hl136_2, hi136_2⟩ := at_T86 HR1.out x5_1 p136 q136
                          cases e136
                          have HR136_2 := Aside0.mk hi136_2
                          have HC136_2 := Aside0.mk hl136_2
                          clear hi136_2 hl136_2
                          replace p136 := eq_true p136
                          replace q136 := eq_true q136
                          have p137 : 0 ≤ ((ji13) : Int) := of_decide_eq_true (by first | (with_reducible assumption) | assumption)
                          have q137 : (ji13) < (l1.length : Int) := of_decide_eq_true (by first | (with_reducible assumption) | assumption)
                          obtain ⟨ad137, A137_2, c137_2, e137, hx137_0, hx137_1, hx137_2, hl137_2, hi137_2⟩ := at_T86 HR1.out (ji13) p137 q137
                          obtain rfl : ad136 = ad137 := (by injection e137)
                          have HR137_2 := Aside0.mk hi137_2
                          have HC137_2 := Aside0.mk hl137_2
                          clear hi137_2 hl137_2
                          replace p137 := eq_true p137
                          replace q137 := eq_true q137
                          have p138 : 0 ≤ ((ji13) : Int) := of_decide_eq_true (by first | (with_reducible assumption) | assumption)
                          have q138 : (ji13) < (l1.length : Int) := of_decide_eq_true (by first | (with_reducible assumption) | assumption)
                          obtain ⟨ad138, A138_2, c138_2, e138, hx138_0, hx138_1, hx138_2, hl138_2, hi138_2⟩ := at_T86 HR1.out (ji13) p138 q138
                          obtain rfl : ad136 = ad138 := (by injection e138)
                          have HR138_2 := Aside0.mk hi138_2
                          have HC138_2 := Aside0.mk hl138_2
                          clear hi138_2 hl138_2
                          replace p138 := eq_true p138
                          replace q138 := eq_true q138
                          have ea_ := Option.some.inj (hx137_2.symm.trans hx138_2)
                          injection ea_ with ea_ en_ ec_
                          subst ea_
                          subst ec_
                          clear en_
                          go_wp2
                          repeat (go_quiet (fail); try go_wp2)
                          go_roundg kj3
                          case measure => have := HK1.out; have := HJ3.out; omega
                          case rel => exact ⟨(wrap64 (x5_1 + 1)), (by first | rfl | (simp; done) | (simp [*]; done)), H', ⟨by have := HK1.out; have := HJ3.out; omega⟩, by repeat (first | exact Drawn0.refl _ | apply Drawn0.step)⟩
                      · rw [if_neg c15] at H
                        exact absurd H (by simp)
                    · rw [if_neg c14] at H
                      exact absurd H (by simp)
                  · rw [if_neg c12] at H
                    exact absurd H (by simp)
                · rw [if_neg c11] at H
                  exact absurd H (by simp)
              · rw [if_neg c10] at H
                have c10b0 : decide (0 < x5_1) = false := decide_eq_false c10
                clear c10
                have H' := Aside0.mk H
                clear H
                go_wp2
                repeat (go_quiet (fail); try go_wp2)
                go_roundg kj3
                case measure => have := HK1.out; have := HJ3.out; omega
                case rel => exact ⟨(wrap64 (x5_1 + 1)), (by first | rfl | (simp; done) | (simp [*]; done)), H', ⟨by have := HK1.out; have := HJ3.out; omega⟩, by repeat (first | exact Drawn0.refl _ | apply Drawn0.step)⟩
      · rw [if_neg c3] at H
        have c3b0 : decide (x5_1 < (l1.length : Int)) = false := decide_eq_false c3
        clear c3
        obtain rfl := Option.some.inj H
        go_wp2
        repeat (go_quiet (fail); try go_wp2)
        go_ret
        exact ⟨by first | rfl | (simp; done) | (simp [*]; done), by repeat (first | exact Drawn0.refl _ | apply Drawn0.step)⟩

/-! ### tachographref25_Apply: function 27 -/
def tachographref25_Apply.l0 : Nat → ByteArray → List (S86) → Int → Option (ByteArray)
  | 0, _, _, _ => none
  | k + 1, x0, x1, x5 => if x5 ≥ 0 then (if 0 ≤ x5 then (if x5 < (x1.length : Int) then (if 0 ≤ ((rd_T86 x1 x5).f0) then (if ((rd_T86 x1 x5).f0) ≤ (x0.size : Int) then (if (x0.extract 0 (((rd_T86 x1 x5).f0) : Int).toNat).size + (strOfNums ((rd_T86 x1 x5).f2)).size ≤ 9223372036854775807 then (if 0 ≤ (wrap64 (((rd_T86 x1 x5).f0) + ((rd_T86 x1 x5).f1))) then (if (wrap64 (((rd_T86 x1 x5).f0) + ((rd_T86 x1 x5).f1))) ≤ (x0.size : Int) then (if ((x0.extract 0 (((rd_T86 x1 x5).f0) : Int).toNat) ++ (strOfNums ((rd_T86 x1 x5).f2))).size + (x0.extract ((wrap64 (((rd_T86 x1 x5).f0) + ((rd_T86 x1 x5).f1))) : Int).toNat x0.size).size ≤ 9223372036854775807 then (tachographref25_Apply.l0 k (((x0.extract 0 (((rd_T86 x1 x5).f0) : Int).toNat) ++ (strOfNums ((rd_T86 x1 x5).f2))) ++ (x0.extract ((wrap64 (((rd_T86 x1 x5).f0) + ((rd_T86 x1 x5).f1))) : Int).toNat x0.size)) x1 (wrap64 (x5 - 1))) else (none)) else (none)) else (none)) else (none)) else (none)) else (none)) else (none)) else (none)) else (some x0)
def tachographref25_Apply.f (k : Nat) (a0 : ByteArray) (l1 : List (S86)) : Option (ByteArray) := tachographref25_Apply.l0 k a0 l1 (wrap64 ((l1.length : Int) - 1))
theorem tachographref25_Apply.mono_l : ∀ k, (∀ y0 y1 y2, LeO (tachographref25_Apply.l0 k y0 y1 y2) (tachographref25_Apply.l0 (k + 1) y0 y1 y2))
  | 0 => fun _ _ _ r h => by simp [tachographref25_Apply.l0] at h
  | k + 1 => by
    have ih0 := tachographref25_Apply.mono_l k
    · intro y0 y1 y2
      unfold tachographref25_Apply.l0
      repeat' first
      | (with_reducible exact ih0 _ _ _)
      | (with_reducible exact LeO.refl _)
      | (with_reducible exact LeO.none _)
      | (with_reducible refine LeO.ite ?_ ?_)
      | (with_reducible refine LeO.bind ?_ (fun _ => ?_))
      | exact ih0 _ _ _
      | exact LeO.none _
      | refine LeO.ite ?_ ?_
      | refine LeO.bind ?_ (fun _ => ?_)
theorem tachographref25_Apply.mono : ∀ a0 a1 k, LeO (tachographref25_Apply.f k a0 a1) (tachographref25_Apply.f (k + 1) a0 a1) := by
  intro a0 a1 k
  have ih0 := tachographref25_Apply.mono_l k
  unfold tachographref25_Apply.f
  repeat' first
      | (with_reducible exact ih0 _ _ _)
      | (with_reducible exact LeO.refl _)
      | (with_reducible exact LeO.none _)
      | (with_reducible refine LeO.ite ?_ ?_)
      | (with_reducible refine LeO.bind ?_ (fun _ => ?_))
      | exact ih0 _ _ _
      | exact LeO.none _
      | refine LeO.ite ?_ ?_
      | refine LeO.bind ?_ (fun _ => ?_)
set_option maxHeartbeats 8000000 in
set_option maxRecDepth 100000 in
theorem tachographref25_Apply.calls (k : Nat) (a0 : ByteArray) (A1 : Option Addr) (c1 : Nat) (l1 : List (S86)) (r : ByteArray) (w : World) (hr1 : Kd.C k86 w A1 l1.length l1) (hc1 : l1.length ≤ c1) (h : tachographref25_Apply.f k a0 l1 = some r) :
    Calls Try.prog 27 #[.string a0, .slice A1 l1.length c1] w fun e w' => e = .returned (.string r) ∧ Drawn0 w w' := by
  have HR1 := Aside0.mk hr1
  have HC1 := Aside0.mk hc1
  clear hr1 hc1
  have H : (tachographref25_Apply.l0 k a0 l1 (wrap64 ((l1.length : Int) - 1))) = some r := h
  clear h
  have H' := Aside0.mk H
  clear H
  go_enter Try.func27, Try.ntmps27
  go_wp2
  repeat (go_quiet (fail); try go_wp2)
  go_loopg [0, 5] k (fun kq v0 v5 w' => ∃ (x0_1 : ByteArray) (x5_1 : Int), v0 = .string x0_1 ∧ v5 = .int .i64 x5_1 ∧ Aside0 (tachographref25_Apply.l0 kq x0_1 l1 x5_1 = some r) ∧ Aside0 (kq ≤ k) ∧ Drawn0 w w')
  case atStart => exact ⟨(a0), (wrap64 ((l1.length : Int) - 1)), (by first | rfl | (simp; done) | (simp [*]; done)), (by first | rfl | (simp; done) | (simp [*]; done)), H', ⟨Nat.le_refl _⟩, by repeat (first | exact Drawn0.refl _ | apply Drawn0.step)⟩
  case round =>
    clear H'
    try clear c1
    try clear c2
    try clear p2
    obtain ⟨x0_1, x5_1, rfl, rfl, HA, HK1, ⟨m1, rfl⟩⟩ := hrel
    cases gk with
    | zero => exact absurd HA.out (by simp [tachographref25_Apply.l0])
    | succ k1 =>
      have H := HA.out
      clear HA
      simp only [tachographref25_Apply.l0] at H
      by_cases c3 : x5_1 ≥ 0
      · rw [if_pos c3] at H
        have c3b0 : decide (0 ≤ x5_1) = true := decide_eq_true c3
        clear c3
        by_cases c4 : 0 ≤ x5_1
        · rw [if_pos c4] at H
          have c4b0 : decide (0 ≤ x5_1) = true := decide_eq_true c4
          clear c4
          by_cases c5 : x5_1 < (l1.length : Int)
          · rw [if_pos c5] at H
            have c5b0 : decide (x5_1 < (l1.length : Int)) = true := decide_eq_true c5
            clear c5
            by_cases c6 : 0 ≤ ((rd_T86 l1 x5_1).f0)
            · rw [if_pos c6] at H
              have c6b0 := eq_true c6
              have c6b1 : decide (0 ≤ ((rd_T86 l1 x5_1).f0)) = true := decide_eq_true c6
              clear c6
              by_cases c7 : ((rd_T86 l1 x5_1).f0) ≤ (x0_1.size : Int)
              · rw [if_pos c7] at H
                have c7b0 := eq_true c7
                have c7b1 : decide (((rd_T86 l1 x5_1).f0) ≤ (x0_1.size : Int)) = true := decide_eq_true c7
                clear c7
                by_cases c8 : (x0_1.extract 0 (((rd_T86 l1 x5_1).f0) : Int).toNat).size + (strOfNums ((rd_T86 l1 x5_1).f2)).size ≤ 9223372036854775807
                · rw [if_pos c8] at H
                  have c8b0 := eq_true c8
                  have c8b1 : decide ((x0_1.extract 0 (((rd_T86 l1 x5_1).f0) : Int).toNat).size + (strOfNums ((rd_T86 l1 x5_1).f2)).size ≤ 9223372036854775807) = true := decide_eq_true c8
                  try have c8b2 : (9223372036854775807 < (x0_1.extract 0 (((rd_T86 l1 x5_1).f0) : Int).toNat).size + (strOfNums ((rd_T86 l1 x5_1).f2)).size) = False := eq_false (Nat.not_lt.2 c8)
                  obtain ⟨ji9, hji9⟩ : ∃ j_ : Int, (wrap64 (((rd_T86 l1 x5_1).f0) + ((rd_T86 l1 x5_1).f1))) = j_ := ⟨_, rfl⟩
                  replace H : (if 0 ≤ (ji9) then (if (ji9) ≤ (x0_1.size : Int) then (if ((x0_1.extract 0 (((rd_T86 l1 x5_1).f0) : Int).toNat) ++ (strOfNums ((rd_T86 l1 x5_1).f2))).size + (x0_1.extract ((ji9) : Int).toNat x0_1.size).size ≤ 9223372036854775807 then (tachographref25_Apply.l0 k1 (((x0_1.extract 0 (((rd_T86 l1 x5_1).f0) : Int).toNat) ++ (strOfNums ((rd_T86 l1 x5_1).f2))) ++ (x0_1.extract ((ji9) : Int).toNat x0_1.size)) l1 (wrap64 (x5_1 - 1))) else (none)) else (none)) else (none)) = some r := by first | (rw [hji9] at H; exact H) | (simp only [hji9] at H ⊢; exact H)
                  have hji9w : (IntKind.i64.wrap (((rd_T86 l1 x5_1).f0) + ((rd_T86 l1 x5_1).f1))) = ji9 := (i64_w _).trans hji9
                  by_cases c10 : 0 ≤ (ji9)
                  · rw [if_pos c10] at H
                    have c10b0 := eq_true c10
                    have c10b1 : decide (0 ≤ (ji9)) = true := decide_eq_true c10
                    clear c10
                    by_cases c11 : (ji9) ≤ (x0_1.size : Int)
                    · rw [if_pos c11] at H
                      have c11b0 := eq_true c11
                      have c11b1 : decide ((ji9) ≤ (x0_1.size : Int)) = true := decide_eq_true c11
                      clear c11
                      by_cases c12 : ((x0_1.extract 0 (((rd_T86 l1 x5_1).f0) : Int).toNat) ++ (strOfNums ((rd_T86 l1 x5_1).f2))).size + (x0_1.extract ((ji9) : Int).toNat x0_1.size).size ≤ 9223372036854775807
                      · rw [if_pos c12] at H
                        have c12b0 := eq_true c12
                        have c12b1 : decide (((x0_1.extract 0 (((rd_T86 l1 x5_1).f0) : Int).toNat) ++ (strOfNums ((rd_T86 l1 x5_1).f2))).size + (x0_1.extract ((ji9) : Int).toNat x0_1.size).size ≤ 9223372036854775807) = true := decide_eq_true c12
                        try have c12b2 : (9223372036854775807 < ((x0_1.extract 0 (((rd_T86 l1 x5_1).f0) : Int).toNat) ++ (strOfNums ((rd_T86 l1 x5_1).f2))).size + (x0_1.extract ((ji9) : Int).toNat x0_1.size).size) = False := eq_false (Nat.not_lt.2 c12)
                        have H' := Aside0.mk H
                        clear H
                        have p139 : 0 ≤ (x5_1 : Int) := of_decide_eq_true (by first | (with_reducible assumption) | assumption)
                        have q139 : x5_1 < (l1.length : Int) := of_decide_eq_true (by first | (with_reducible assumption) | assumption)
                        obtain ⟨ad139, A139_2, c139_2, e139, hx139_0, hx139_1, hx139_2, hl139_2, hi139_2⟩ := at_T86 HR1.out x5_1 p139 q139
                        cases e139
                        have HR139_2 := Aside0.mk hi139_2
                        have HC139_2 := Aside0.mk hl139_2
                        clear hi139_2 hl139_2
                        replace p139 := eq_true p139
                        replace q139 := eq_true q139
                        have p140 : 0 ≤ (x5_1 : Int) := of_decide_eq_true (by first | (with_reducible assumption) | assumption)
                        have q140 : x5_1 < (l1.length : Int) := of_decide_eq_true (by first | (with_reducible assumption) | assumption)
                        obtain ⟨ad140, A140_2, c140_2, e140, hx140_0, hx140_1, hx140_2, hl140_2, hi140_2⟩ := at_T86 HR1.out x5_1 p140 q140
                        obtain rfl : ad139 = ad140 := (by injection e140)
                        have HR140_2 := Aside0.mk hi140_2
                        have HC140_2 := Aside0.mk hl140_2
                        clear hi140_2 hl140_2
                        replace p140 := eq_true p140
                        replace q140 := eq_true q140
                        have ea_ := Option.some.inj (hx139_2.symm.trans hx140_2)
                        injection ea_ with ea_ en_ ec_
                        subst ea_
                        subst ec_
                        clear en_
                        have hcv13 := Kd.C_string (P := Try.prog) (A := A139_2) (c := c139_2) Try.underlying49 Try.underlying5 Try.underlying9 HR140_2.out
                        have hcv15 := fun m_ : Nat => Kd.C_string (P := Try.prog) (A := A139_2) (c := c139_2) Try.underlying49 Try.underlying5 Try.underlying9 (Kd.C_drewN HR140_2.out m_)
                        have p141 : 0 ≤ (x5_1 : Int) := of_decide_eq_true (by first | (with_reducible assumption) | assumption)
                        have q141 : x5_1 < (l1.length : Int) := of_decide_eq_true (by first | (with_reducible assumption) | assumption)
                        obtain ⟨ad141, A141_2, c141_2, e141, hx141_0, hx141_1, hx141_2, hl141_2, hi141_2⟩ := at_T86 HR1.out x5_1 p141 q141
                        obtain rfl : ad139 = ad141 := (by injection e141)
                        have HR141_2 := Aside0.mk hi141_2
                        have HC141_2 := Aside0.mk hl141_2
                        clear hi141_2 hl141_2
                        replace p141 := eq_true p141
                        replace q141 := eq_true q141
                        have ea_ := Option.some.inj (hx139_2.symm.trans hx141_2)
                        injection ea_ with ea_ en_ ec_
                        subst ea_
                        subst ec_
                        clear en_
                        have p142 : 0 ≤ (x5_1 : Int) := of_decide_eq_true (by first | (with_reducible assumption) | assumption)
                        have q142 : x5_1 < (l1.length : Int) := of_decide_eq_true (by first | (with_reducible assumption) | assumption)
                        obtain ⟨ad142, A142_2, c142_2, e142, hx142_0, hx142_1, hx142_2, hl142_2, hi142_2⟩ := at_T86 HR1.out x5_1 p142 q142
                        obtain rfl : ad139 = ad142 := (by injection e142)
                        have HR142_2 := Aside0.mk hi142_2
                        have HC142_2 := Aside0.mk hl142_2
                        clear hi142_2 hl142_2
                        replace p142 := eq_true p142
                        replace q142 := eq_true q142
                        have ea_ := Option.some.inj (hx139_2.symm.trans hx142_2)
                        injection ea_ with ea_ en_ ec_
                        subst ea_
                        subst ec_
                        clear en_
                        go_wp2
                        repeat (go_quiet (fail); try go_wp2)
                        go_roundg k1
                        case measure => have := HK1.out; omega
                        case rel => exact ⟨(((x0_1.extract 0 (((rd_T86 l1 x5_1).f0) : Int).toNat) ++ (strOfNums ((rd_T86 l1 x5_1).f2))) ++ (x0_1.extract ((ji9) : Int).toNat x0_1.size)), (wrap64 (x5_1 - 1)), (by first | rfl | (simp; done) | (simp only [← hji9] <;> (first | rfl | simp)) | (simp [*]; done)), (by first | rfl | (simp; done) | (simp [*]; done)), H', ⟨by have := HK1.out; omega⟩, by repeat (first | exact Drawn0.refl _ | apply Drawn0.step)⟩
                      · rw [if_neg c12] at H
                        exact absurd H (by simp)
                    · rw [if_neg c11] at H
                      exact absurd H (by simp)
                  · rw [if_neg c10] at H
                    exact absurd H (by simp)
                · rw [if_neg c8] at H
                  exact absurd H (by simp)
              · rw [if_neg c7] at H
                exact absurd H (by simp)
            · rw [if_neg c6] at H
              exact absurd H (by simp)
          · rw [if_neg c5] at H
            exact absurd H (by simp)
        · rw [if_neg c4] at H
          exact absurd H (by simp)
      · rw [if_neg c3] at H
        have c3b0 : decide (0 ≤ x5_1) = false := decide_eq_false c3
        clear c3
        obtain rfl := Option.some.inj H
        go_wp2
        repeat (go_quiet (fail); try go_wp2)
        go_ret
        exact ⟨by first | rfl | (simp; done) | (simp [*]; done), by repeat (first | exact Drawn0.refl _ | apply Drawn0.step)⟩

end Go.Proofs.Ytjfklfmfeghjnac.PW
