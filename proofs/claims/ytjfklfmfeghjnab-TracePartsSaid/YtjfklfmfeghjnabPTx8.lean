-- Contracts of Go functions, each with its plain Lean function: written by wip/tools/myprint.py of this work (the kit's print, with contracts proved by hand spliced in).
import Derived.Test.YtjfklfmfeghjnabPTx0
import Derived.Test.YtjfklfmfeghjnabPTx7
namespace Go.Proofs.Ytjfklfmfeghjnab.PT
open Go.RowKit Go.Proofs.YtjfklfmfeghjnabW.PrintWords Go.Proofs.YtjfklfmfeghjnabW.PrintLast Go.Proofs.YtjfklfmfeghjnabW.PrintMore
attribute [local go_sem] max2_int min2_int max_two min_two max_three min_three max_four min_four   -- for this text's walks alone
set_option linter.unusedVariables false
set_option linter.unusedSimpArgs false

/-! ### tachographref09_Check: function 58 -/
mutual
def tachographref09_Check.l0 : Nat → List (S106) → Int → Option (Int)
  | 0, _, _ => none
  | k + 1, x0, x3 => if x3 < (x0.length : Int) then (if 0 ≤ x3 then ((tachographref09_Name.f k ((rd_T106 x0 x3).f0)).bind fun t136 => (if t136 = true then ((tachographref09_Find.f k x0 ((rd_T106 x0 x3).f0)).bind fun t138 => (tachographref09_Check.j1 k x0 x3 (decide (t138 < x3)))) else (tachographref09_Check.j1 k x0 x3 true))) else (none)) else (some 0)
def tachographref09_Check.j1 : Nat → List (S106) → Int → Bool → Option (Int)
  | 0, _, _, _ => none
  | k + 1, x0, x3, x31 => if x31 = true then (some 9) else (if 0 ≤ x3 then (if x3 < (x0.length : Int) then (if (((rd_T106 x0 x3).f1).length : Int) > 8 then (some 6) else (tachographref09_Check.l1 k x0 x3 0)) else (none)) else (none))
def tachographref09_Check.l1 : Nat → List (S106) → Int → Int → Option (Int)
  | 0, _, _, _ => none
  | k + 1, x0, x3, x4 => if 0 ≤ x3 then (if x3 < (x0.length : Int) then (if x4 < (((rd_T106 x0 x3).f1).length : Int) then (if 0 ≤ x4 then (if (rd ((rd_T106 x0 x3).f1) x4) < 1 then (some 7) else (if (rd ((rd_T106 x0 x3).f1) x4) > 2 then (some 7) else (tachographref09_Check.l1 k x0 x3 (wrap64 (x4 + 1))))) else (none)) else (tachographref09_Check.l0 k x0 (wrap64 (x3 + 1)))) else (none)) else (none)
end
def tachographref09_Check.f (k : Nat) (l0 : List (S106)) : Option (Int) := if (l0.length : Int) > 64 then (some 6) else (tachographref09_Check.l0 k l0 0)
theorem tachographref09_Check.mono_l : ∀ k, (∀ y0 y1, LeO (tachographref09_Check.l0 k y0 y1) (tachographref09_Check.l0 (k + 1) y0 y1)) ∧ (∀ y0 y1 y2, LeO (tachographref09_Check.j1 k y0 y1 y2) (tachographref09_Check.j1 (k + 1) y0 y1 y2)) ∧ (∀ y0 y1 y2, LeO (tachographref09_Check.l1 k y0 y1 y2) (tachographref09_Check.l1 (k + 1) y0 y1 y2))
  | 0 => ⟨fun _ _ r h => by simp [tachographref09_Check.l0] at h, fun _ _ _ r h => by simp [tachographref09_Check.j1] at h, fun _ _ _ r h => by simp [tachographref09_Check.l1] at h⟩
  | k + 1 => by
    obtain ⟨ih0, ih1, ih2⟩ := tachographref09_Check.mono_l k
    refine ⟨?_, ?_, ?_⟩
    · intro y0 y1
      unfold tachographref09_Check.l0
      repeat' first
      | (with_reducible exact ih0 _ _)
      | (with_reducible exact ih1 _ _ _)
      | (with_reducible exact ih2 _ _ _)
      | (with_reducible exact tachographref09_Find.mono _ _ _)
      | (with_reducible exact tachographref09_Name.mono _ _)
      | (with_reducible exact LeO.refl _)
      | (with_reducible exact LeO.none _)
      | (with_reducible refine LeO.ite ?_ ?_)
      | (with_reducible refine LeO.bind ?_ (fun _ => ?_))
      | exact ih0 _ _
      | exact ih1 _ _ _
      | exact ih2 _ _ _
      | exact tachographref09_Find.mono _ _ _
      | exact tachographref09_Name.mono _ _
      | exact LeO.none _
      | refine LeO.ite ?_ ?_
      | refine LeO.bind ?_ (fun _ => ?_)
    · intro y0 y1 y2
      unfold tachographref09_Check.j1
      repeat' first
      | (with_reducible exact ih0 _ _)
      | (with_reducible exact ih1 _ _ _)
      | (with_reducible exact ih2 _ _ _)
      | (with_reducible exact tachographref09_Find.mono _ _ _)
      | (with_reducible exact tachographref09_Name.mono _ _)
      | (with_reducible exact LeO.refl _)
      | (with_reducible exact LeO.none _)
      | (with_reducible refine LeO.ite ?_ ?_)
      | (with_reducible refine LeO.bind ?_ (fun _ => ?_))
      | exact ih0 _ _
      | exact ih1 _ _ _
      | exact ih2 _ _ _
      | exact tachographref09_Find.mono _ _ _
      | exact tachographref09_Name.mono _ _
      | exact LeO.none _
      | refine LeO.ite ?_ ?_
      | refine LeO.bind ?_ (fun _ => ?_)
    · intro y0 y1 y2
      unfold tachographref09_Check.l1
      repeat' first
      | (with_reducible exact ih0 _ _)
      | (with_reducible exact ih1 _ _ _)
      | (with_reducible exact ih2 _ _ _)
      | (with_reducible exact tachographref09_Find.mono _ _ _)
      | (with_reducible exact tachographref09_Name.mono _ _)
      | (with_reducible exact LeO.refl _)
      | (with_reducible exact LeO.none _)
      | (with_reducible refine LeO.ite ?_ ?_)
      | (with_reducible refine LeO.bind ?_ (fun _ => ?_))
      | exact ih0 _ _
      | exact ih1 _ _ _
      | exact ih2 _ _ _
      | exact tachographref09_Find.mono _ _ _
      | exact tachographref09_Name.mono _ _
      | exact LeO.none _
      | refine LeO.ite ?_ ?_
      | refine LeO.bind ?_ (fun _ => ?_)
theorem tachographref09_Check.mono : ∀ a0 k, LeO (tachographref09_Check.f k a0) (tachographref09_Check.f (k + 1) a0) := by
  intro a0 k
  obtain ⟨ih0, ih1, ih2⟩ := tachographref09_Check.mono_l k
  unfold tachographref09_Check.f
  repeat' first
      | (with_reducible exact ih0 _ _)
      | (with_reducible exact ih1 _ _ _)
      | (with_reducible exact ih2 _ _ _)
      | (with_reducible exact tachographref09_Find.mono _ _ _)
      | (with_reducible exact tachographref09_Name.mono _ _)
      | (with_reducible exact LeO.refl _)
      | (with_reducible exact LeO.none _)
      | (with_reducible refine LeO.ite ?_ ?_)
      | (with_reducible refine LeO.bind ?_ (fun _ => ?_))
      | exact ih0 _ _
      | exact ih1 _ _ _
      | exact ih2 _ _ _
      | exact tachographref09_Find.mono _ _ _
      | exact tachographref09_Name.mono _ _
      | exact LeO.none _
      | refine LeO.ite ?_ ?_
      | refine LeO.bind ?_ (fun _ => ?_)
set_option maxHeartbeats 8000000 in
set_option maxRecDepth 100000 in
theorem tachographref09_Check.calls (k : Nat) (A0 : Option Addr) (c0 : Nat) (l0 : List (S106)) (r : Int) (w : World) (hr0 : Kd.C k106 w A0 l0.length l0) (hc0 : l0.length ≤ c0) (h : tachographref09_Check.f k l0 = some r) :
    Calls Try.prog 58 #[.slice A0 l0.length c0] w fun e w' => e = .returned (.int .i64 r) ∧ Drawn0 w w' := by
  have HR0 := Aside0.mk hr0
  have HC0 := Aside0.mk hc0
  clear hr0 hc0
  have H : (if (l0.length : Int) > 64 then (some 6) else (tachographref09_Check.l0 k l0 0)) = some r := h
  clear h
  by_cases c2 : (l0.length : Int) > 64
  · rw [if_pos c2] at H
    have c2b0 : decide (64 < (l0.length : Int)) = true := decide_eq_true c2
    have c2b1 : decide (64 < l0.length) = true := decide_eq_true (by omega)
    clear c2
    obtain rfl := Option.some.inj H
    go_enter Try.func58, Try.ntmps58
    go_wp2
    go_ret
    exact ⟨by first | rfl | (simp; done) | (simp [*]; done), by repeat (first | exact Drawn0.refl _ | apply Drawn0.step)⟩
  · rw [if_neg c2] at H
    have c2b0 : decide (64 < (l0.length : Int)) = false := decide_eq_false c2
    have c2b1 : decide (64 < l0.length) = false := decide_eq_false (by omega)
    clear c2
    have H' := Aside0.mk H
    clear H
    go_enter Try.func58, Try.ntmps58
    go_wp2
    go_loopg [3] k (fun kq v3 w' => ∃ (x3_1 : Int), v3 = .int .i64 x3_1 ∧ Aside0 (tachographref09_Check.l0 kq l0 x3_1 = some r) ∧ Aside0 (kq ≤ k) ∧ Drawn0 w w')
    case atStart => exact ⟨(0), (by first | rfl | (simp; done) | (simp [*]; done)), H', ⟨Nat.le_refl _⟩, by repeat (first | exact Drawn0.refl _ | apply Drawn0.step)⟩
    case round =>
      clear H'
      try clear c2
      try clear c2b0
      try clear c2b1
      try clear p2
      obtain ⟨x3_1, rfl, HA, HK1, ⟨m1, rfl⟩⟩ := hrel
      cases gk with
      | zero => exact absurd HA.out (by simp [tachographref09_Check.l0])
      | succ k1 =>
        have H := HA.out
        clear HA
        simp only [tachographref09_Check.l0] at H
        by_cases c3 : x3_1 < (l0.length : Int)
        · rw [if_pos c3] at H
          have c3b0 : decide (x3_1 < (l0.length : Int)) = true := decide_eq_true c3
          clear c3
          have HC4 := Aside0.mk H
          clear H
          go_upto_region 6 with (fail)
          go_cut [31] (fun v31 wc => ∃ (kq : Nat) (x31_3 : Bool), v31 = .bool x31_3 ∧ Aside0 (tachographref09_Check.j1 kq l0 x3_1 x31_3 = some r) ∧ Aside0 (kq ≤ k1) ∧ Drawn0 w wc)
          case first =>
            have H := HC4.out
            clear HC4
            by_cases c5 : 0 ≤ x3_1
            · rw [if_pos c5] at H
              have c5b0 : decide (0 ≤ x3_1) = true := decide_eq_true c5
              clear c5
              (first | rw [c5b0] | (simp only [i64_w, i32_w]; rw [c5b0]) | skip)
              replace H := Option.bind_eq_some_iff.mp H
              obtain ⟨t136, A60, H⟩ := H
              replace H : (if t136 = true then ((tachographref09_Find.f k1 l0 ((rd_T106 l0 x3_1).f0)).bind fun t138 => (tachographref09_Check.j1 k1 l0 x3_1 (decide (t138 < x3_1)))) else (tachographref09_Check.j1 k1 l0 x3_1 true)) = some r := H
              have A6 := Aside0.mk A60
              clear A60
              by_cases c7 : t136 = true
              · subst c7
                have H1 : ((tachographref09_Find.f k1 l0 ((rd_T106 l0 x3_1).f0)).bind fun t138 => (tachographref09_Check.j1 k1 l0 x3_1 (decide (t138 < x3_1)))) = some r := by rw [if_pos rfl] at H; exact H
                clear H
                have H := H1
                clear H1
                replace H := Option.bind_eq_some_iff.mp H
                obtain ⟨t138, A80, H⟩ := H
                replace H : (tachographref09_Check.j1 k1 l0 x3_1 (decide (t138 < x3_1))) = some r := H
                have A8 := Aside0.mk A80
                clear A80
                have H' := Aside0.mk H
                clear H
                have p135 : 0 ≤ (x3_1 : Int) := of_decide_eq_true (by first | (with_reducible assumption) | assumption)
                have q135 : x3_1 < (l0.length : Int) := of_decide_eq_true (by first | (with_reducible assumption) | assumption)
                obtain ⟨ad135, A135_1, c135_1, e135, hx135_0, hx135_1, hl135_1, hi135_1⟩ := at_T106 HR0.out x3_1 p135 q135
                cases e135
                have HR135_1 := Aside0.mk hi135_1
                have HC135_1 := Aside0.mk hl135_1
                clear hi135_1 hl135_1
                replace p135 := eq_true p135
                replace q135 := eq_true q135
                go_wp2_with (first | ((with_reducible refine gate_callee (f := 89) rfl ?_); refine goesL_ (some 19) rfl rfl Try.func89 (by kernel_rfl) rfl #[.string ((rd_T106 l0 x3_1).f0)] rfl (by (try simp only [List.map_toArray, List.map_cons, List.map_nil]); first | done | rfl | (simp only [List.length_drop, List.length_take]; rfl) | (refine congrArg (fun z_ => #[z_]) (congrArg (Value.int IntKind.u64) (Eq.symm (Go.Proofs.YtjfklfmfeghjnabAid.wrap_len _ (by omega)))))) ?_; (with_reducible refine (tachographref09_Name.calls k1 ((rd_T106 l0 x3_1).f0) true _ A6.out).mono ?_); rintro e w' ⟨rfl, ⟨nd, rfl⟩⟩; refine ⟨_, rfl, ?_⟩; have p137 : 0 ≤ (x3_1 : Int) := of_decide_eq_true (by first | (with_reducible assumption) | assumption); have q137 : x3_1 < (l0.length : Int) := of_decide_eq_true (by first | (with_reducible assumption) | assumption); obtain ⟨ad137, A137_1, c137_1, e137, hx137_0, hx137_1, hl137_1, hi137_1⟩ := at_T106 HR0.out x3_1 p137 q137; obtain rfl : ad135 = ad137 := (by injection e137); have HR137_1 := Aside0.mk hi137_1; have HC137_1 := Aside0.mk hl137_1; clear hi137_1 hl137_1; replace p137 := eq_true p137; replace q137 := eq_true q137; have ea_ := Option.some.inj (hx135_1.symm.trans hx137_1); injection ea_ with ea_ en_ ec_; subst ea_; subst ec_; clear en_) | (go_at_call 90; (with_reducible refine (tachographref09_Find.calls k1 _ _ l0 ((rd_T106 l0 x3_1).f0) t138 _ ?side1 ?side2 A8.out).mono ?_); (case side1 => repeat (first | exact HR0.out | (with_reducible refine Kd.C_alloc ?_ _) | (with_reducible refine Kd.C_drewN ?_ _) | (with_reducible refine Kd.C_drew ?_))); (case side2 => exact HC0.out); rintro e w' ⟨rfl, ⟨nd, rfl⟩⟩))
                go_meet
                case rel => exact ⟨_, (decide (t138 < x3_1)), (by first | rfl | (simp; done) | (simp [*]; done)), H', ⟨by have := HK1.out; first | omega | exact Nat.le_refl _⟩, by repeat (first | exact Drawn0.refl _ | apply Drawn0.step)⟩
              · replace c7 := Bool.eq_false_iff.mpr c7
                subst c7
                have H1 : (tachographref09_Check.j1 k1 l0 x3_1 true) = some r := by rw [if_neg (show ¬ (false = true) by decide)] at H; exact H
                clear H
                have H := H1
                clear H1
                have H' := Aside0.mk H
                clear H
                have p135 : 0 ≤ (x3_1 : Int) := of_decide_eq_true (by first | (with_reducible assumption) | assumption)
                have q135 : x3_1 < (l0.length : Int) := of_decide_eq_true (by first | (with_reducible assumption) | assumption)
                obtain ⟨ad135, A135_1, c135_1, e135, hx135_0, hx135_1, hl135_1, hi135_1⟩ := at_T106 HR0.out x3_1 p135 q135
                cases e135
                have HR135_1 := Aside0.mk hi135_1
                have HC135_1 := Aside0.mk hl135_1
                clear hi135_1 hl135_1
                replace p135 := eq_true p135
                replace q135 := eq_true q135
                go_wp2_with (first | ((with_reducible refine gate_callee (f := 89) rfl ?_); refine goesL_ (some 19) rfl rfl Try.func89 (by kernel_rfl) rfl #[.string ((rd_T106 l0 x3_1).f0)] rfl (by (try simp only [List.map_toArray, List.map_cons, List.map_nil]); first | done | rfl | (simp only [List.length_drop, List.length_take]; rfl) | (refine congrArg (fun z_ => #[z_]) (congrArg (Value.int IntKind.u64) (Eq.symm (Go.Proofs.YtjfklfmfeghjnabAid.wrap_len _ (by omega)))))) ?_; (with_reducible refine (tachographref09_Name.calls k1 ((rd_T106 l0 x3_1).f0) false _ A6.out).mono ?_); rintro e w' ⟨rfl, ⟨nd, rfl⟩⟩; refine ⟨_, rfl, ?_⟩))
                go_meet
                case rel => exact ⟨_, (true), (by first | rfl | (simp; done) | (simp [*]; done)), H', ⟨by have := HK1.out; first | omega | exact Nat.le_refl _⟩, by repeat (first | exact Drawn0.refl _ | apply Drawn0.step)⟩
            · rw [if_neg c5] at H
              exact absurd H (by simp)
          case rest =>
            clear HC4
            try clear c1
            try clear p1
            try clear q1
            try clear hx1
            try clear c2
            try clear c2b0
            try clear c2b1
            try clear p2
            try clear c3
            try clear c3b0
            try clear c5
            try clear c5b0
            try clear c7
            try clear c8
            try clear hx135_0
            try clear hx135_1
            try clear hx137_0
            try clear hx137_1
            try clear p135
            try clear p137
            try clear p2
            try clear q135
            try clear q137
            obtain ⟨kq, x31_3, rfl, HA, HJ3, ⟨mc3, rfl⟩⟩ := hcut
            cases kq with
            | zero => exact absurd HA.out (by simp [tachographref09_Check.j1])
            | succ kj3 =>
              have H := HA.out
              clear HA
              simp only [tachographref09_Check.j1] at H
              by_cases c9 : x31_3 = true
              · subst c9
                have H1 : (some 9) = some r := by rw [if_pos rfl] at H; exact H
                clear H
                have H := H1
                clear H1
                obtain rfl := Option.some.inj H
                go_wp2
                go_ret
                exact ⟨by first | rfl | (simp; done) | (simp [*]; done), by repeat (first | exact Drawn0.refl _ | apply Drawn0.step)⟩
              · replace c9 := Bool.eq_false_iff.mpr c9
                subst c9
                have H1 : (if 0 ≤ x3_1 then (if x3_1 < (l0.length : Int) then (if (((rd_T106 l0 x3_1).f1).length : Int) > 8 then (some 6) else (tachographref09_Check.l1 kj3 l0 x3_1 0)) else (none)) else (none)) = some r := by rw [if_neg (show ¬ (false = true) by decide)] at H; exact H
                clear H
                have H := H1
                clear H1
                by_cases c10 : 0 ≤ x3_1
                · rw [if_pos c10] at H
                  have c10b0 : decide (0 ≤ x3_1) = true := decide_eq_true c10
                  clear c10
                  by_cases c11 : x3_1 < (l0.length : Int)
                  · rw [if_pos c11] at H
                    have c11b0 : decide (x3_1 < (l0.length : Int)) = true := decide_eq_true c11
                    clear c11
                    by_cases c12 : (((rd_T106 l0 x3_1).f1).length : Int) > 8
                    · rw [if_pos c12] at H
                      have c12b0 : decide (8 < (((rd_T106 l0 x3_1).f1).length : Int)) = true := decide_eq_true c12
                      have c12b1 : decide (8 < ((rd_T106 l0 x3_1).f1).length) = true := decide_eq_true (by omega)
                      clear c12
                      obtain rfl := Option.some.inj H
                      have p139 : 0 ≤ (x3_1 : Int) := of_decide_eq_true (by first | (with_reducible assumption) | assumption)
                      have q139 : x3_1 < (l0.length : Int) := of_decide_eq_true (by first | (with_reducible assumption) | assumption)
                      obtain ⟨ad139, A139_1, c139_1, e139, hx139_0, hx139_1, hl139_1, hi139_1⟩ := at_T106 HR0.out x3_1 p139 q139
                      cases e139
                      have HR139_1 := Aside0.mk hi139_1
                      have HC139_1 := Aside0.mk hl139_1
                      clear hi139_1 hl139_1
                      replace p139 := eq_true p139
                      replace q139 := eq_true q139
                      go_wp2
                      go_ret
                      exact ⟨by first | rfl | (simp; done) | (simp [*]; done), by repeat (first | exact Drawn0.refl _ | apply Drawn0.step)⟩
                    · rw [if_neg c12] at H
                      have c12b0 : decide (8 < (((rd_T106 l0 x3_1).f1).length : Int)) = false := decide_eq_false c12
                      have c12b1 : decide (8 < ((rd_T106 l0 x3_1).f1).length) = false := decide_eq_false (by omega)
                      clear c12
                      have H' := Aside0.mk H
                      clear H
                      have p139 : 0 ≤ (x3_1 : Int) := of_decide_eq_true (by first | (with_reducible assumption) | assumption)
                      have q139 : x3_1 < (l0.length : Int) := of_decide_eq_true (by first | (with_reducible assumption) | assumption)
                      obtain ⟨ad139, A139_1, c139_1, e139, hx139_0, hx139_1, hl139_1, hi139_1⟩ := at_T106 HR0.out x3_1 p139 q139
                      cases e139
                      have HR139_1 := Aside0.mk hi139_1
                      have HC139_1 := Aside0.mk hl139_1
                      clear hi139_1 hl139_1
                      replace p139 := eq_true p139
                      replace q139 := eq_true q139
                      go_wp2
                      go_loopg [4] kj3 (fun kq v4 w' => ∃ (x4_3 : Int), v4 = .int .i64 x4_3 ∧ Aside0 (tachographref09_Check.l1 kq l0 x3_1 x4_3 = some r) ∧ Aside0 (kq ≤ kj3) ∧ Drawn0 w w')
                      case atStart => exact ⟨(0), (by first | rfl | (simp; done) | (simp [*]; done)), H', ⟨Nat.le_refl _⟩, by repeat (first | exact Drawn0.refl _ | apply Drawn0.step)⟩
                      case round =>
                        clear H'
                        try clear c1
                        try clear p1
                        try clear q1
                        try clear hx1
                        try clear c2
                        try clear c2b0
                        try clear c2b1
                        try clear p2
                        try clear c3
                        try clear c3b0
                        try clear c5
                        try clear c5b0
                        try clear c7
                        try clear c8
                        try clear c9
                        try clear c10
                        try clear c10b0
                        try clear c11
                        try clear c11b0
                        try clear c12
                        try clear c12b0
                        try clear c12b1
                        try clear hx135_0
                        try clear hx135_1
                        try clear hx137_0
                        try clear hx137_1
                        try clear hx139_0
                        try clear hx139_1
                        try clear p1
                        try clear p135
                        try clear p137
                        try clear p139
                        try clear p2
                        try clear q1
                        try clear q135
                        try clear q137
                        try clear q139
                        obtain ⟨x4_3, rfl, HA, HK3, ⟨m3, rfl⟩⟩ := hrel
                        cases gk with
                        | zero => exact absurd HA.out (by simp [tachographref09_Check.l1])
                        | succ k3 =>
                          have H := HA.out
                          clear HA
                          simp only [tachographref09_Check.l1] at H
                          by_cases c13 : 0 ≤ x3_1
                          · rw [if_pos c13] at H
                            have c13b0 : decide (0 ≤ x3_1) = true := decide_eq_true c13
                            clear c13
                            by_cases c14 : x3_1 < (l0.length : Int)
                            · rw [if_pos c14] at H
                              have c14b0 : decide (x3_1 < (l0.length : Int)) = true := decide_eq_true c14
                              clear c14
                              by_cases c15 : x4_3 < (((rd_T106 l0 x3_1).f1).length : Int)
                              · rw [if_pos c15] at H
                                have c15b0 : decide (x4_3 < (((rd_T106 l0 x3_1).f1).length : Int)) = true := decide_eq_true c15
                                clear c15
                                by_cases c16 : 0 ≤ x4_3
                                · rw [if_pos c16] at H
                                  have c16b0 : decide (0 ≤ x4_3) = true := decide_eq_true c16
                                  clear c16
                                  by_cases c17 : (rd ((rd_T106 l0 x3_1).f1) x4_3) < 1
                                  · rw [if_pos c17] at H
                                    have c17b0 : decide ((rd ((rd_T106 l0 x3_1).f1) x4_3) < 1) = true := decide_eq_true c17
                                    clear c17
                                    obtain rfl := Option.some.inj H
                                    have p140 : 0 ≤ (x3_1 : Int) := of_decide_eq_true (by first | (with_reducible assumption) | assumption)
                                    have q140 : x3_1 < (l0.length : Int) := of_decide_eq_true (by first | (with_reducible assumption) | assumption)
                                    obtain ⟨ad140, A140_1, c140_1, e140, hx140_0, hx140_1, hl140_1, hi140_1⟩ := at_T106 HR0.out x3_1 p140 q140
                                    obtain rfl : ad139 = ad140 := (by injection e140)
                                    have HR140_1 := Aside0.mk hi140_1
                                    have HC140_1 := Aside0.mk hl140_1
                                    clear hi140_1 hl140_1
                                    replace p140 := eq_true p140
                                    replace q140 := eq_true q140
                                    have p141 : 0 ≤ (x3_1 : Int) := of_decide_eq_true (by first | (with_reducible assumption) | assumption)
                                    have q141 : x3_1 < (l0.length : Int) := of_decide_eq_true (by first | (with_reducible assumption) | assumption)
                                    obtain ⟨ad141, A141_1, c141_1, e141, hx141_0, hx141_1, hl141_1, hi141_1⟩ := at_T106 HR0.out x3_1 p141 q141
                                    obtain rfl : ad139 = ad141 := (by injection e141)
                                    have HR141_1 := Aside0.mk hi141_1
                                    have HC141_1 := Aside0.mk hl141_1
                                    clear hi141_1 hl141_1
                                    replace p141 := eq_true p141
                                    replace q141 := eq_true q141
                                    have ea_ := Option.some.inj (hx140_1.symm.trans hx141_1)
                                    injection ea_ with ea_ en_ ec_
                                    subst ea_
                                    subst ec_
                                    clear en_
                                    have p142 : 0 ≤ (x4_3 : Int) := of_decide_eq_true (by first | (with_reducible assumption) | assumption)
                                    have q142 : x4_3 < (((rd_T106 l0 x3_1).f1).length : Int) := of_decide_eq_true (by first | (with_reducible assumption) | assumption)
                                    obtain ⟨ad142, e142, hx142_0⟩ := Kd.at_int HR141_1.out x4_3 p142 q142
                                    cases e142
                                    replace p142 := eq_true p142
                                    replace q142 := eq_true q142
                                    go_wp2
                                    go_ret
                                    exact ⟨by first | rfl | (simp; done) | (simp [*]; done), by repeat (first | exact Drawn0.refl _ | apply Drawn0.step)⟩
                                  · rw [if_neg c17] at H
                                    have c17b0 : decide ((rd ((rd_T106 l0 x3_1).f1) x4_3) < 1) = false := decide_eq_false c17
                                    clear c17
                                    by_cases c18 : (rd ((rd_T106 l0 x3_1).f1) x4_3) > 2
                                    · rw [if_pos c18] at H
                                      have c18b0 : decide (2 < (rd ((rd_T106 l0 x3_1).f1) x4_3)) = true := decide_eq_true c18
                                      clear c18
                                      obtain rfl := Option.some.inj H
                                      have p140 : 0 ≤ (x3_1 : Int) := of_decide_eq_true (by first | (with_reducible assumption) | assumption)
                                      have q140 : x3_1 < (l0.length : Int) := of_decide_eq_true (by first | (with_reducible assumption) | assumption)
                                      obtain ⟨ad140, A140_1, c140_1, e140, hx140_0, hx140_1, hl140_1, hi140_1⟩ := at_T106 HR0.out x3_1 p140 q140
                                      obtain rfl : ad139 = ad140 := (by injection e140)
                                      have HR140_1 := Aside0.mk hi140_1
                                      have HC140_1 := Aside0.mk hl140_1
                                      clear hi140_1 hl140_1
                                      replace p140 := eq_true p140
                                      replace q140 := eq_true q140
                                      have p141 : 0 ≤ (x3_1 : Int) := of_decide_eq_true (by first | (with_reducible assumption) | assumption)
                                      have q141 : x3_1 < (l0.length : Int) := of_decide_eq_true (by first | (with_reducible assumption) | assumption)
                                      obtain ⟨ad141, A141_1, c141_1, e141, hx141_0, hx141_1, hl141_1, hi141_1⟩ := at_T106 HR0.out x3_1 p141 q141
                                      obtain rfl : ad139 = ad141 := (by injection e141)
                                      have HR141_1 := Aside0.mk hi141_1
                                      have HC141_1 := Aside0.mk hl141_1
                                      clear hi141_1 hl141_1
                                      replace p141 := eq_true p141
                                      replace q141 := eq_true q141
                                      have ea_ := Option.some.inj (hx140_1.symm.trans hx141_1)
                                      injection ea_ with ea_ en_ ec_
                                      subst ea_
                                      subst ec_
                                      clear en_
                                      have p142 : 0 ≤ (x4_3 : Int) := of_decide_eq_true (by first | (with_reducible assumption) | assumption)
                                      have q142 : x4_3 < (((rd_T106 l0 x3_1).f1).length : Int) := of_decide_eq_true (by first | (with_reducible assumption) | assumption)
                                      obtain ⟨ad142, e142, hx142_0⟩ := Kd.at_int HR141_1.out x4_3 p142 q142
                                      cases e142
                                      replace p142 := eq_true p142
                                      replace q142 := eq_true q142
                                      have p143 : 0 ≤ (x3_1 : Int) := of_decide_eq_true (by first | (with_reducible assumption) | assumption)
                                      have q143 : x3_1 < (l0.length : Int) := of_decide_eq_true (by first | (with_reducible assumption) | assumption)
                                      obtain ⟨ad143, A143_1, c143_1, e143, hx143_0, hx143_1, hl143_1, hi143_1⟩ := at_T106 HR0.out x3_1 p143 q143
                                      obtain rfl : ad139 = ad143 := (by injection e143)
                                      have HR143_1 := Aside0.mk hi143_1
                                      have HC143_1 := Aside0.mk hl143_1
                                      clear hi143_1 hl143_1
                                      replace p143 := eq_true p143
                                      replace q143 := eq_true q143
                                      have ea_ := Option.some.inj (hx140_1.symm.trans hx143_1)
                                      injection ea_ with ea_ en_ ec_
                                      subst ea_
                                      subst ec_
                                      clear en_
                                      have p144 : 0 ≤ (x4_3 : Int) := of_decide_eq_true (by first | (with_reducible assumption) | assumption)
                                      have q144 : x4_3 < (((rd_T106 l0 x3_1).f1).length : Int) := of_decide_eq_true (by first | (with_reducible assumption) | assumption)
                                      obtain ⟨ad144, e144, hx144_0⟩ := Kd.at_int HR143_1.out x4_3 p144 q144
                                      cases e144
                                      replace p144 := eq_true p144
                                      replace q144 := eq_true q144
                                      go_wp2
                                      go_ret
                                      exact ⟨by first | rfl | (simp; done) | (simp [*]; done), by repeat (first | exact Drawn0.refl _ | apply Drawn0.step)⟩
                                    · rw [if_neg c18] at H
                                      have c18b0 : decide (2 < (rd ((rd_T106 l0 x3_1).f1) x4_3)) = false := decide_eq_false c18
                                      clear c18
                                      have H' := Aside0.mk H
                                      clear H
                                      have p140 : 0 ≤ (x3_1 : Int) := of_decide_eq_true (by first | (with_reducible assumption) | assumption)
                                      have q140 : x3_1 < (l0.length : Int) := of_decide_eq_true (by first | (with_reducible assumption) | assumption)
                                      obtain ⟨ad140, A140_1, c140_1, e140, hx140_0, hx140_1, hl140_1, hi140_1⟩ := at_T106 HR0.out x3_1 p140 q140
                                      obtain rfl : ad139 = ad140 := (by injection e140)
                                      have HR140_1 := Aside0.mk hi140_1
                                      have HC140_1 := Aside0.mk hl140_1
                                      clear hi140_1 hl140_1
                                      replace p140 := eq_true p140
                                      replace q140 := eq_true q140
                                      have p141 : 0 ≤ (x3_1 : Int) := of_decide_eq_true (by first | (with_reducible assumption) | assumption)
                                      have q141 : x3_1 < (l0.length : Int) := of_decide_eq_true (by first | (with_reducible assumption) | assumption)
                                      obtain ⟨ad141, A141_1, c141_1, e141, hx141_0, hx141_1, hl141_1, hi141_1⟩ := at_T106 HR0.out x3_1 p141 q141
                                      obtain rfl : ad139 = ad141 := (by injection e141)
                                      have HR141_1 := Aside0.mk hi141_1
                                      have HC141_1 := Aside0.mk hl141_1
                                      clear hi141_1 hl141_1
                                      replace p141 := eq_true p141
                                      replace q141 := eq_true q141
                                      have ea_ := Option.some.inj (hx140_1.symm.trans hx141_1)
                                      injection ea_ with ea_ en_ ec_
                                      subst ea_
                                      subst ec_
                                      clear en_
                                      have p142 : 0 ≤ (x4_3 : Int) := of_decide_eq_true (by first | (with_reducible assumption) | assumption)
                                      have q142 : x4_3 < (((rd_T106 l0 x3_1).f1).length : Int) := of_decide_eq_true (by first | (with_reducible assumption) | assumption)
                                      obtain ⟨ad142, e142, hx142_0⟩ := Kd.at_int HR141_1.out x4_3 p142 q142
                                      cases e142
                                      replace p142 := eq_true p142
                                      replace q142 := eq_true q142
                                      have p143 : 0 ≤ (x3_1 : Int) := of_decide_eq_true (by first | (with_reducible assumption) | assumption)
                                      have q143 : x3_1 < (l0.length : Int) := of_decide_eq_true (by first | (with_reducible assumption) | assumption)
                                      obtain ⟨ad143, A143_1, c143_1, e143, hx143_0, hx143_1, hl143_1, hi143_1⟩ := at_T106 HR0.out x3_1 p143 q143
                                      obtain rfl : ad139 = ad143 := (by injection e143)
                                      have HR143_1 := Aside0.mk hi143_1
                                      have HC143_1 := Aside0.mk hl143_1
                                      clear hi143_1 hl143_1
                                      replace p143 := eq_true p143
                                      replace q143 := eq_true q143
                                      have ea_ := Option.some.inj (hx140_1.symm.trans hx143_1)
                                      injection ea_ with ea_ en_ ec_
                                      subst ea_
                                      subst ec_
                                      clear en_
                                      have p144 : 0 ≤ (x4_3 : Int) := of_decide_eq_true (by first | (with_reducible assumption) | assumption)
                                      have q144 : x4_3 < (((rd_T106 l0 x3_1).f1).length : Int) := of_decide_eq_true (by first | (with_reducible assumption) | assumption)
                                      obtain ⟨ad144, e144, hx144_0⟩ := Kd.at_int HR143_1.out x4_3 p144 q144
                                      cases e144
                                      replace p144 := eq_true p144
                                      replace q144 := eq_true q144
                                      go_wp2
                                      go_roundg k3
                                      case measure => have := HK1.out; have := HJ3.out; have := HK3.out; omega
                                      case rel => exact ⟨(wrap64 (x4_3 + 1)), (by first | rfl | (simp; done) | (simp [*]; done)), H', ⟨by have := HK1.out; have := HJ3.out; have := HK3.out; omega⟩, by repeat (first | exact Drawn0.refl _ | apply Drawn0.step)⟩
                                · rw [if_neg c16] at H
                                  exact absurd H (by simp)
                              · rw [if_neg c15] at H
                                have c15b0 : decide (x4_3 < (((rd_T106 l0 x3_1).f1).length : Int)) = false := decide_eq_false c15
                                clear c15
                                have H' := Aside0.mk H
                                clear H
                                have p140 : 0 ≤ (x3_1 : Int) := of_decide_eq_true (by first | (with_reducible assumption) | assumption)
                                have q140 : x3_1 < (l0.length : Int) := of_decide_eq_true (by first | (with_reducible assumption) | assumption)
                                obtain ⟨ad140, A140_1, c140_1, e140, hx140_0, hx140_1, hl140_1, hi140_1⟩ := at_T106 HR0.out x3_1 p140 q140
                                obtain rfl : ad139 = ad140 := (by injection e140)
                                have HR140_1 := Aside0.mk hi140_1
                                have HC140_1 := Aside0.mk hl140_1
                                clear hi140_1 hl140_1
                                replace p140 := eq_true p140
                                replace q140 := eq_true q140
                                go_wp2
                                go_roundg k3
                                case measure => have := HK1.out; have := HJ3.out; have := HK3.out; omega
                                case rel => exact ⟨(wrap64 (x3_1 + 1)), (by first | rfl | (simp; done) | (simp [*]; done)), H', ⟨by have := HK1.out; have := HJ3.out; have := HK3.out; omega⟩, by repeat (first | exact Drawn0.refl _ | apply Drawn0.step)⟩
                            · rw [if_neg c14] at H
                              exact absurd H (by simp)
                          · rw [if_neg c13] at H
                            exact absurd H (by simp)
                  · rw [if_neg c11] at H
                    exact absurd H (by simp)
                · rw [if_neg c10] at H
                  exact absurd H (by simp)
        · rw [if_neg c3] at H
          have c3b0 : decide (x3_1 < (l0.length : Int)) = false := decide_eq_false c3
          clear c3
          obtain rfl := Option.some.inj H
          go_wp2
          go_ret
          exact ⟨by first | rfl | (simp; done) | (simp [*]; done), by repeat (first | exact Drawn0.refl _ | apply Drawn0.step)⟩

end Go.Proofs.Ytjfklfmfeghjnab.PT
