-- Contracts of Go functions, each with its plain Lean function: written by wip/tools/myprint.py of this work (the kit's print, with contracts proved by hand spliced in).
import Derived.Test.YtjfklfmfeghjnacPLx0
import Derived.Test.YtjfklfmfeghjnacPLx3
namespace Go.Proofs.Ytjfklfmfeghjnac.PL
open Go.RowKit Go.Proofs.YtjfklfmfeghjnacW.PrintWords Go.Proofs.YtjfklfmfeghjnacW.PrintLast Go.Proofs.YtjfklfmfeghjnacW.PrintMore
attribute [local go_sem] max2_int min2_int max_two min_two max_three min_three max_four min_four   -- for this text's walks alone
set_option linter.unusedVariables false
set_option linter.unusedSimpArgs false

/-! ### lex_many: function 58 -/
def lex_many.l0 (is : Int → Option Bool) : Nat → ByteArray → Int → Option Int
  | 0, _, _ => none
  | k + 1, x0, x5 => if x5 < (x0.size : Int) then (if 0 ≤ x5 then ((is (bt x0 x5)).bind fun t110 => (if t110 = true then (lex_many.l0 is k x0 (wrap64 (x5 + 1))) else (some x5))) else (none)) else (some x5)
/-- (The function of a byte, by its number.) -/
def lex_many.f (k : Nat) (a0 : ByteArray) (a1 : Int) : Option Int := if a1 = 60 then lex_many.l0 lex_digit.f k a0 0 else if a1 = 61 then lex_many.l0 lex_letter.f k a0 0 else none
theorem lex_many.mono_l (is : Int → Option Bool) : ∀ k, (∀ y0 y1, LeO (lex_many.l0 is k y0 y1) (lex_many.l0 is (k + 1) y0 y1))
  | 0 => fun _ _ r h => by simp [lex_many.l0] at h
  | k + 1 => by
    have ih0 := lex_many.mono_l is k
    intro y0 y1
    unfold lex_many.l0
    repeat' first
      | (with_reducible exact ih0 _ _)
      | (with_reducible exact LeO.refl _)
      | (with_reducible exact LeO.none _)
      | (with_reducible refine LeO.ite ?_ ?_)
      | (with_reducible refine LeO.bind ?_ (fun _ => ?_))
theorem lex_many.mono : ∀ a0 a1 k, LeO (lex_many.f k a0 a1) (lex_many.f (k + 1) a0 a1) := by
  intro a0 a1 k
  unfold lex_many.f
  exact LeO.ite (lex_many.mono_l _ k a0 0) (LeO.ite (lex_many.mono_l _ k a0 0) (LeO.refl _))
set_option maxHeartbeats 8000000 in
set_option maxRecDepth 100000 in
theorem lex_many.gen (is : Int → Option Bool) (G : FuncId) (fnG : Func) (hfG : Try.prog.funcs[G]? = some fnG) (hnG : (fnG.name == "runtime.NumGoroutine") = false) (hbG : fnG.body.isSome = true) (caps : Array Value) (w : World)
    (his : ∀ (c : Int) (t : Bool) (m : Nat), 0 ≤ c → c ≤ 255 → is c = some t → Calls Try.prog G (#[.int .u8 c] ++ caps) (w.drewN m) fun e w' => e = .returned (.bool t) ∧ Drawn0 (w.drewN m) w')
    (k : Nat) (a0 : ByteArray) (r : Int) (h : lex_many.l0 is k a0 0 = some r) :
    Calls Try.prog 58 #[.string a0, .func (.func G) #[] caps] w fun e w' => e = .returned (.int .i64 r) ∧ Drawn0 w w' := by
  have eG : ∀ args w, (callFunc G args).run Try.prog w = .ok (.enter G args) w := Go.Proofs.YtjfklfmfeghjnacW.PrintLast.enters_ hfG hnG hbG
  have H' := Aside0.mk h
  clear h
  go_enter Try.func58, Try.ntmps58
  go_wp2
  go_loopg [5] k (fun kq v5 w' => ∃ (x5_1 : Int), v5 = .int .i64 x5_1 ∧ Aside0 (lex_many.l0 is kq a0 x5_1 = some r) ∧ Aside0 (kq ≤ k) ∧ Drawn0 w w')
  case atStart => exact ⟨(0), (by first | rfl | (simp; done) | (simp [*]; done)), H', ⟨Nat.le_refl _⟩, by repeat (first | exact Drawn0.refl _ | apply Drawn0.step)⟩
  case round =>
    clear H'
    try clear p2
    obtain ⟨x5_1, rfl, HA, HK1, ⟨m1, rfl⟩⟩ := hrel
    cases gk with
    | zero => exact absurd HA.out (by simp [lex_many.l0])
    | succ k1 =>
      have H := HA.out
      clear HA
      simp only [lex_many.l0] at H
      by_cases c3 : x5_1 < (a0.size : Int)
      · rw [if_pos c3] at H
        have c3b0 : decide (x5_1 < (a0.size : Int)) = true := decide_eq_true c3
        clear c3
        by_cases c4 : 0 ≤ x5_1
        · rw [if_pos c4] at H
          have c4b0 : decide (0 ≤ x5_1) = true := decide_eq_true c4
          clear c4
          replace H := Option.bind_eq_some_iff.mp H
          obtain ⟨t110, A60, H⟩ := H
          replace H : (if t110 = true then (lex_many.l0 is k1 a0 (wrap64 (x5_1 + 1))) else (some x5_1)) = some r := H
          have A6 := Aside0.mk A60
          clear A60
          have hbt := bt_range a0 x5_1
          have p5 : 0 ≤ (x5_1 : Int) := of_decide_eq_true (by first | (with_reducible assumption) | assumption)
          have q5 : x5_1 < (a0.size : Int) := of_decide_eq_true (by first | (with_reducible assumption) | assumption)
          have hx5 := bt_at a0 x5_1
          replace p5 := eq_true p5
          replace q5 := eq_true q5
          by_cases c7 : t110 = true
          · subst c7
            have H1 : (lex_many.l0 is k1 a0 (wrap64 (x5_1 + 1))) = some r := by rw [if_pos rfl] at H; exact H
            clear H
            have H := H1
            clear H1
            have H' := Aside0.mk H
            clear H
            go_wp2_with (first | (go_at_fn G; (with_reducible refine (his (bt a0 x5_1) true _ hbt.1 hbt.2 A6.out).mono ?_); rintro e w' ⟨rfl, ⟨nd, rfl⟩⟩))
            go_roundg k1
            case measure => have := HK1.out; omega
            case rel => exact ⟨(wrap64 (x5_1 + 1)), (by first | rfl | (simp; done) | (simp [*]; done)), H', ⟨by have := HK1.out; omega⟩, by repeat (first | exact Drawn0.refl _ | apply Drawn0.step)⟩
          · replace c7 := Bool.eq_false_iff.mpr c7
            subst c7
            have H1 : (some x5_1) = some r := by rw [if_neg (show ¬ (false = true) by decide)] at H; exact H
            clear H
            have H := H1
            clear H1
            obtain rfl := Option.some.inj H
            go_wp2_with (first | (go_at_fn G; (with_reducible refine (his (bt a0 x5_1) false _ hbt.1 hbt.2 A6.out).mono ?_); rintro e w' ⟨rfl, ⟨nd, rfl⟩⟩))
            go_ret
            exact ⟨by first | rfl | (simp; done) | (simp [*]; done), by repeat (first | exact Drawn0.refl _ | apply Drawn0.step)⟩
        · rw [if_neg c4] at H
          exact absurd H (by simp)
      · rw [if_neg c3] at H
        have c3b0 : decide (x5_1 < (a0.size : Int)) = false := decide_eq_false c3
        clear c3
        obtain rfl := Option.some.inj H
        go_wp2
        go_ret
        exact ⟨by first | rfl | (simp; done) | (simp [*]; done), by repeat (first | exact Drawn0.refl _ | apply Drawn0.step)⟩
theorem lex_many.callsD (k : Nat) (a0 : ByteArray) (r : Int) (w : World) (h : lex_many.f k a0 60 = some r) :
    Calls Try.prog 58 #[.string a0, .func (.func 60) #[] #[]] w fun e w' => e = .returned (.int .i64 r) ∧ Drawn0 w w' := by
  rw [lex_many.f, if_pos rfl] at h
  exact lex_many.gen _ 60 _ Try.func60 (by kernel_rfl) rfl #[] w (fun c t m _ _ hc => lex_digit.calls c t _ hc) k a0 r h
theorem lex_many.callsL (k : Nat) (a0 : ByteArray) (r : Int) (w : World) (h : lex_many.f k a0 61 = some r) :
    Calls Try.prog 58 #[.string a0, .func (.func 61) #[] #[]] w fun e w' => e = .returned (.int .i64 r) ∧ Drawn0 w w' := by
  rw [lex_many.f, if_neg (by decide), if_pos rfl] at h
  exact lex_many.gen _ 61 _ Try.func61 (by kernel_rfl) rfl #[] w (fun c t m _ _ hc => lex_letter.calls c t _ hc) k a0 r h

/-! ### lex_word: function 47 -/
def lex_word.f (k : Nat) (a0 : ByteArray) : Option (Int) := if a0.toList = ([] : List UInt8) then (some 0) else (if 0 < (a0.size : Int) then ((lex_digit.f (bt a0 0)).bind fun t112 => (if t112 = true then (some 0) else ((lex_many.f k a0 61).bind fun t113 => (some t113)))) else (none))
theorem lex_word.mono : ∀ a0 k, LeO (lex_word.f k a0) (lex_word.f (k + 1) a0) := by
 intro a0 k
 unfold lex_word.f
 repeat' first
   | (with_reducible exact lex_many.mono _ _ _)
   | (with_reducible exact LeO.refl _)
   | (with_reducible exact LeO.none _)
   | (with_reducible refine LeO.ite ?_ ?_)
   | (with_reducible refine LeO.bind ?_ (fun _ => ?_))
   | exact lex_many.mono _ _ _
   | exact LeO.none _
   | refine LeO.ite ?_ ?_
   | refine LeO.bind ?_ (fun _ => ?_)
set_option maxHeartbeats 8000000 in
set_option maxRecDepth 100000 in
theorem lex_word.calls (k : Nat) (a0 : ByteArray) (r : Int) (w : World) (h : lex_word.f k a0 = some r) :
  Calls Try.prog 47 #[.string a0] w fun e w' => e = .returned (.int .i64 r) ∧ Drawn0 w w':=by
 have H : (if a0.toList = ([] : List UInt8) then (some 0) else (if 0 < (a0.size : Int) then ((lex_digit.f (bt a0 0)).bind fun t112 => (if t112 = true then (some 0) else ((lex_many.f k a0 61).bind fun t113 => (some t113)))) else (none))) = some r:=h
 clear h
 by_cases c2 : a0.toList = ([] : List UInt8)
 ·rw [if_pos c2] at H
  have c2b0 : (a0.toList == ([] : List UInt8)) = true:=beq_iff_eq.mpr c2
  have c2b1 : (a0.toList != ([] : List UInt8)) = false:=bne_eq_false_iff_eq.mpr c2
  clear c2
  obtain rfl:=Option.some.inj H
  go_enter Try.func47,Try.ntmps47
  go_wp2
  go_ret
  exact ⟨by first | rfl | (simp;done) | (simp [*];done),by repeat (first | exact Drawn0.refl _ | apply Drawn0.step)⟩
 ·rw [if_neg c2] at H
  have c2b0 : (a0.toList == ([] : List UInt8)) = false:=beq_eq_false_iff_ne.mpr c2
  have c2b1 : (a0.toList != ([] : List UInt8)) = true:=bne_iff_ne.mpr c2
  by_cases c3 : 0 < (a0.size : Int)
  ·rw [if_pos c3] at H
   have c3b0 : decide (0 < (a0.size : Int)) = true:=decide_eq_true c3
   have c3b1 : decide (0 < a0.size) = true:=decide_eq_true (by omega)
   clear c3
   replace H:=Option.bind_eq_some_iff.mp H
   obtain ⟨t112,A50,H⟩:=H
   replace H : (if t112 = true then (some 0) else ((lex_many.f k a0 61).bind fun t113 => (some t113))) = some r:=H
   have A5:=Aside0.mk A50
   clear A50
   by_cases c6 : t112 = true
   ·subst c6
    have H1 : (some 0) = some r:=by rw [if_pos rfl] at H;exact H
    clear H
    have H:=H1
    clear H1
    obtain rfl:=Option.some.inj H
    have p4 : 0 ≤ (0 : Int):=(by omega)
    have q4 : 0 < a0.size:=(by have : (0 : Int) < (a0.size : Int):=of_decide_eq_true (by first | (with_reducible assumption) | assumption);omega)
    have hx4 : ∀ h : 0 < a0.size,((a0[0]'h).toNat : Int) = bt a0 0:=bt_at a0 0
    clear p4
    have qi4 : (0 < (a0.size : Int)) = True:=eq_true (of_decide_eq_true (by first | (with_reducible assumption) | assumption))
    replace q4:=eq_true q4
    go_enter Try.func47,Try.ntmps47
    go_wp2_with (first | (go_at_call 60;(with_reducible refine (lex_digit.calls (bt a0 0) true _ A5.out).mono ?_);rintro e w' ⟨rfl,⟨nd,rfl⟩⟩))
    go_ret
    exact ⟨by first | rfl | (simp;done) | (simp [*];done),by repeat (first | exact Drawn0.refl _ | apply Drawn0.step)⟩
   ·replace c6:=Bool.eq_false_iff.mpr c6
    subst c6
    have H1 : ((lex_many.f k a0 61).bind fun t113 => (some t113)) = some r:=by rw [if_neg (show ¬ (false = true) by decide)] at H;exact H
    clear H
    have H:=H1
    clear H1
    replace H:=Option.bind_eq_some_iff.mp H
    obtain ⟨t113,A70,H⟩:=H
    replace H : (some t113) = some r:=H
    have A7:=Aside0.mk A70
    clear A70
    obtain rfl:=Option.some.inj H
    have p4 : 0 ≤ (0 : Int):=(by omega)
    have q4 : 0 < a0.size:=(by have : (0 : Int) < (a0.size : Int):=of_decide_eq_true (by first | (with_reducible assumption) | assumption);omega)
    have hx4 : ∀ h : 0 < a0.size,((a0[0]'h).toNat : Int) = bt a0 0:=bt_at a0 0
    clear p4
    have qi4 : (0 < (a0.size : Int)) = True:=eq_true (of_decide_eq_true (by first | (with_reducible assumption) | assumption))
    replace q4:=eq_true q4
    go_enter Try.func47,Try.ntmps47
    go_wp2_with (first | (go_at_call 60;(with_reducible refine (lex_digit.calls (bt a0 0) false _ A5.out).mono ?_);rintro e w' ⟨rfl,⟨nd,rfl⟩⟩) | ((with_reducible refine gate_callee (f:=58) rfl ?_);refine goesL_ (some 11) rfl rfl Try.func58 (by kernel_rfl) rfl #[.string a0,.func (.func 61) #[] #[]] rfl (by (try simp only [List.map_toArray,List.map_cons,List.map_nil]);first | done | rfl | (simp only [List.length_drop,List.length_take];rfl)) ?_;(with_reducible refine (lex_many.callsL k a0 t113 _ A7.out).mono ?_);rintro e w' ⟨rfl,⟨nd,rfl⟩⟩;refine ⟨_,rfl,?_⟩))
    go_ret
    exact ⟨by first | rfl | (simp;done) | (simp [*];done),by repeat (first | exact Drawn0.refl _ | apply Drawn0.step)⟩
  ·rw [if_neg c3] at H
   exact absurd H (by simp)

-- NOT PRINTED: function 73 (stringslite_HasPrefix)

-- NOT PRINTED: function 70 (stringslite_CutPrefix)

/-! ### strings_CutPrefix: function 62 -/
def strings_CutPrefix.f (a0 a1 : ByteArray) : Option (ByteArray × Bool) := some (⟨(Lib.trimPrefix a0.data.toList a1.data.toList).toArray⟩, Lib.hasPrefix a0.data.toList a1.data.toList)
theorem strings_CutPrefix.calls (a0 a1 : ByteArray) (r1 : ByteArray) (r2 : Bool) (w : World) (h : strings_CutPrefix.f a0 a1 = some (r1, r2)) :
    Calls Try.prog 62 #[.string a0, .string a1] w fun e w' => e = .returned (.tuple #[.string r1, .bool r2]) ∧ Drawn0 w w' := by
  unfold strings_CutPrefix.f at h
  simp only [Option.some.injEq, Prod.mk.injEq] at h
  obtain ⟨rfl, rfl⟩ := h
  refine (Go.Proofs.Try.strings_CutPrefix a0 a1 w).mono ?_
  rintro e w' ⟨rfl, rfl⟩
  exact ⟨rfl, 0, rfl⟩

/-! ### lex_number: function 48 -/
def lex_number.f (k : Nat) (a0 : ByteArray) : Option (Int) := (strings_CutPrefix.f a0 (⟨#[45]⟩ : ByteArray)).bind fun bt114 => ((lex_many.f k bt114.1 60).bind fun t116 => (if t116 = 0 then (some 0) else (some (wrap64 ((wrap64 ((a0.size : Int) - (bt114.1.size : Int))) + t116)))))
theorem lex_number.mono : ∀ a0 k, LeO (lex_number.f k a0) (lex_number.f (k + 1) a0) := by
 intro a0 k
 unfold lex_number.f
 repeat' first
   | (with_reducible exact lex_many.mono _ _ _)
   | (with_reducible exact LeO.refl _)
   | (with_reducible exact LeO.none _)
   | (with_reducible refine LeO.ite ?_ ?_)
   | (with_reducible refine LeO.bind ?_ (fun _ => ?_))
   | exact lex_many.mono _ _ _
   | exact LeO.none _
   | refine LeO.ite ?_ ?_
   | refine LeO.bind ?_ (fun _ => ?_)
set_option maxHeartbeats 8000000 in
set_option maxRecDepth 100000 in
theorem lex_number.calls (k : Nat) (a0 : ByteArray) (r : Int) (w : World) (h : lex_number.f k a0 = some r) :
  Calls Try.prog 48 #[.string a0] w fun e w' => e = .returned (.int .i64 r) ∧ Drawn0 w w':=by
 have H : ((strings_CutPrefix.f a0 (⟨#[45]⟩ : ByteArray)).bind fun bt114 => ((lex_many.f k bt114.1 60).bind fun t116 => (if t116 = 0 then (some 0) else (some (wrap64 ((wrap64 ((a0.size : Int) - (bt114.1.size : Int))) + t116)))))) = some r:=h
 clear h
 replace H:=Option.bind_eq_some_iff.mp H
 obtain ⟨⟨t114,t115⟩,A20,H⟩:=H
 replace H : ((lex_many.f k t114 60).bind fun t116 => (if t116 = 0 then (some 0) else (some (wrap64 ((wrap64 ((a0.size : Int) - (t114.size : Int))) + t116))))) = some r:=H
 have A2:=Aside0.mk A20
 clear A20
 replace H:=Option.bind_eq_some_iff.mp H
 obtain ⟨t116,A30,H⟩:=H
 replace H : (if t116 = 0 then (some 0) else (some (wrap64 ((wrap64 ((a0.size : Int) - (t114.size : Int))) + t116)))) = some r:=H
 have A3:=Aside0.mk A30
 clear A30
 by_cases c4 : t116 = 0
 ·rw [if_pos c4] at H
  have c4b0 : (t116 == 0) = true:=beq_iff_eq.mpr c4
  have c4b1 : (t116 != 0) = false:=bne_eq_false_iff_eq.mpr c4
  clear c4
  obtain rfl:=Option.some.inj H
  go_enter Try.func48,Try.ntmps48
  go_wp2_with (first | ((with_reducible refine gate_callee (f:=62) rfl ?_);refine goesL_ (some 8) rfl rfl Try.func62 (by kernel_rfl) rfl #[.string a0,.string (⟨#[45]⟩ : ByteArray)] rfl (by (try simp only [List.map_toArray,List.map_cons,List.map_nil]);first | done | rfl | (simp only [List.length_drop,List.length_take];rfl)) ?_;(with_reducible refine (strings_CutPrefix.calls a0 (⟨#[45]⟩ : ByteArray) t114 t115 _ A2.out).mono ?_);rintro e w' ⟨rfl,⟨nd,rfl⟩⟩;refine ⟨_,rfl,?_⟩) | ((with_reducible refine gate_callee (f:=58) rfl ?_);refine goesL_ (some 12) rfl rfl Try.func58 (by kernel_rfl) rfl #[.string t114,.func (.func 60) #[] #[]] rfl (by (try simp only [List.map_toArray,List.map_cons,List.map_nil]);first | done | rfl | (simp only [List.length_drop,List.length_take];rfl)) ?_;(with_reducible refine (lex_many.callsD k t114 t116 _ A3.out).mono ?_);rintro e w' ⟨rfl,⟨nd,rfl⟩⟩;refine ⟨_,rfl,?_⟩))
  go_ret
  exact ⟨by first | rfl | (simp;done) | (simp [*];done),by repeat (first | exact Drawn0.refl _ | apply Drawn0.step)⟩
 ·rw [if_neg c4] at H
  have c4b0 : (t116 == 0) = false:=beq_eq_false_iff_ne.mpr c4
  have c4b1 : (t116 != 0) = true:=bne_iff_ne.mpr c4
  obtain rfl:=Option.some.inj H
  go_enter Try.func48,Try.ntmps48
  go_wp2_with (first | ((with_reducible refine gate_callee (f:=62) rfl ?_);refine goesL_ (some 8) rfl rfl Try.func62 (by kernel_rfl) rfl #[.string a0,.string (⟨#[45]⟩ : ByteArray)] rfl (by (try simp only [List.map_toArray,List.map_cons,List.map_nil]);first | done | rfl | (simp only [List.length_drop,List.length_take];rfl)) ?_;(with_reducible refine (strings_CutPrefix.calls a0 (⟨#[45]⟩ : ByteArray) t114 t115 _ A2.out).mono ?_);rintro e w' ⟨rfl,⟨nd,rfl⟩⟩;refine ⟨_,rfl,?_⟩) | ((with_reducible refine gate_callee (f:=58) rfl ?_);refine goesL_ (some 12) rfl rfl Try.func58 (by kernel_rfl) rfl #[.string t114,.func (.func 60) #[] #[]] rfl (by (try simp only [List.map_toArray,List.map_cons,List.map_nil]);first | done | rfl | (simp only [List.length_drop,List.length_take];rfl)) ?_;(with_reducible refine (lex_many.callsD k t114 t116 _ A3.out).mono ?_);rintro e w' ⟨rfl,⟨nd,rfl⟩⟩;refine ⟨_,rfl,?_⟩))
  go_ret
  exact ⟨by first | rfl | (simp;done) | (simp [*];done),by repeat (first | exact Drawn0.refl _ | apply Drawn0.step)⟩

/-! #### struct type 76: the boxes that the shapes of signs lead to -/
def IsS76 (w0 W : World) (g : Nat) (f0 : Int) : Prop := (W.heap[g]? = some (.cells #[.int .u8 64] 5 (0, 0)) ∧ W.heap[g + 1]? = some (.cells #[.int .u8 40] 5 (0, 0)) ∧ W.heap[g + 2]? = some (.cells #[.int .u8 41] 5 (0, 0)) ∧ W.heap[g + 3]? = some (.cells #[.int .u8 44] 5 (0, 0))) ∧ w0.heap.size ≤ g
def Ne4 (g a : Nat) : Prop := g ≠ a ∧ g + 1 ≠ a ∧ g + 2 ≠ a ∧ g + 3 ≠ a
theorem Ne4.of_lt {g a : Nat} (h : g + 3 < a) : Ne4 g a := ⟨by omega, by omega, by omega, by omega⟩
theorem IsS76.grown {w0 W : World} {g : Nat} {f0 : Int} {W1 : World} {row : Option Nat} (h : IsS76 w0 W g f0) (hw : W.grownBy W1 row) (hne : (some g ≠ row ∧ some (g + 1) ≠ row ∧ some (g + 2) ≠ row ∧ some (g + 3) ≠ row)) : IsS76 w0 W1 g f0 := by
  obtain ⟨⟨h0, h1, h2, h3⟩, hg⟩ := h
  exact ⟨⟨blk_grown h0 hw hne.1, blk_grown h1 hw hne.2.1, blk_grown h2 hw hne.2.2.1, blk_grown h3 hw hne.2.2.2⟩, hg⟩
theorem IsS76.below {w0 W : World} {g : Nat} {f0 : Int} {W1 : World} (h : IsS76 w0 W g f0) (hw : Below W.heap.size W W1) : IsS76 w0 W1 g f0 := h.grown (grown_of_below hw none) (by simp)
theorem IsS76.alloc {w0 W : World} {g : Nat} {f0 : Int} (h : IsS76 w0 W g f0) (o : Obj) : IsS76 w0 (W.alloc o) g f0 := h.below (below_alloc (Below.refl _ _) o)
theorem IsS76.drewN {w0 W : World} {g : Nat} {f0 : Int} (h : IsS76 w0 W g f0) (m : Nat) : IsS76 w0 (W.drewN m) g f0 := h
theorem IsS76.drew {w0 W : World} {g : Nat} {f0 : Int} (h : IsS76 w0 W g f0) : IsS76 w0 W.drew g f0 := h
theorem IsS76.at_ {w0 W : World} {g : Nat} {f0 : Int} {w' : World} {m : Nat} (hq : W.drewN m = w') (h : IsS76 w0 W g f0) : IsS76 w0 w' g f0 := by subst hq; exact IsS76.drewN h m
theorem IsS76.apart {w0 W : World} {g : Nat} {f0 : Int} {α : Type} {d : Kd α} {e : Nat} {base : Nat} {ok : Nat → Prop} {v : Value} {xs : List α} (h : IsS76 w0 W g f0) (ho : d.R e W base ok v xs) (ht : ∀ q, q ∈ e :: d.E → q ≠ 5) : d.R e W base (fun k => ok k ∧ k ≠ g) v xs := Kd.R_types ho h.1.1 ht
theorem IsS76.own_ne {w0 W : World} {g : Nat} {f0 : Int} {α : Type} {d : Kd α} {e : Nat} {base : Nat} {ok : Nat → Prop} {v : Value} {xs : List α} (h : IsS76 w0 W g f0) (ho : d.R e W base ok v xs) (ht : e ≠ 5) : (some g ≠ v.ownBlock ∧ some (g + 1) ≠ v.ownBlock ∧ some (g + 2) ≠ v.ownBlock ∧ some (g + 3) ≠ v.ownBlock) := ⟨Kd.R_ne ho h.1.1 ht, Kd.R_ne ho h.1.2.1 ht, Kd.R_ne ho h.1.2.2.1 ht, Kd.R_ne ho h.1.2.2.2 ht⟩
theorem IsS76.lt4 {w0 W : World} {g : Nat} {f0 : Int} (h : IsS76 w0 W g f0) : g + 3 < W.heap.size := blk_lt h.1.2.2.2
theorem IsS76.lt {w0 W : World} {g : Nat} {f0 : Int} (h : IsS76 w0 W g f0) : g < W.heap.size := blk_lt h.1.1
theorem IsS76.ge {w0 W : World} {g : Nat} {f0 : Int} (h : IsS76 w0 W g f0) : w0.heap.size ≤ g := h.2
theorem shp_ne {W : World} {a b : Nat} {cs cs2 : Array Value} {t t2 : TypeId} {fr fr2 : Nat × Nat} (hb : W.heap[a]? = some (.cells cs t fr)) (hb2 : W.heap[b]? = some (.cells cs2 t2 fr2)) (ht : t2 ≠ t) : a ≠ b := by
  rintro rfl
  rw [hb] at hb2
  injection hb2 with hb2
  injection hb2 with _ ht2
  exact ht ht2.symm
theorem IsS76.ne_blk {w0 W : World} {g : Nat} {f0 : Int} {a : Nat} {cs : Array Value} {t : TypeId} {fr : Nat × Nat} (h : IsS76 w0 W g f0) (hb2 : W.heap[a]? = some (.cells cs t fr)) (ht : t ≠ 5) : Ne4 g a := ⟨shp_ne h.1.1 hb2 ht, shp_ne h.1.2.1 hb2 ht, shp_ne h.1.2.2.1 hb2 ht, shp_ne h.1.2.2.2 hb2 ht⟩
theorem IsS76.ne_blkS {w0 W : World} {g : Nat} {f0 : Int} {a : Nat} {cs : Array Value} {t : TypeId} {fr : Nat × Nat} (h : IsS76 w0 W g f0) (hb2 : W.heap[a]? = some (.cells cs t fr)) (ht : t ≠ 5) : a ≠ g := Ne.symm (h.ne_blk hb2 ht).1
theorem IsS76.far {w0 W : World} {g : Nat} {f0 : Int} {p : Addr} (h : IsS76 w0 W g f0) (hne : Ne4 g p.block) (u : Value) : IsS76 w0 (W.setCell p u) g f0 := by
  obtain ⟨⟨h0, h1, h2, h3⟩, hg⟩ := h
  exact ⟨⟨blk_far h0 hne.1 u, blk_far h1 hne.2.1 u, blk_far h2 hne.2.2.1 u, blk_far h3 hne.2.2.2 u⟩, hg⟩

/-! ### lex_shapes: function 35 -/
/-- A function value is stored as one cell. -/
theorem lex_store_fn (W : World) (ad : Addr) (fn : Fn) (x y : Array Value) : (store ad (.func fn x y)).run Try.prog W = stored Try.prog W ad (.func fn x y) .plain := run_store Try.prog W ad _ _ rfl
theorem lex_sign_1_1.calls (gb : Nat) (c x : Int) (t : Bool) (w : World) (hc : w.cell? ⟨gb, 0, none⟩ = some (.int .u8 c)) (h : some (decide (x = c)) = some t) :
    Calls Try.prog 59 #[.int .u8 x, .pointer (some ⟨gb, 0, none⟩)] w fun e w' => e = .returned (.bool t) ∧ Drawn0 w w' := by
  obtain rfl := Option.some.inj h
  go_enter Try.func59, Try.ntmps59
  go_wp2
  go_ret
  exact ⟨by first | rfl | (simp; done) | (by_cases e_ : x = c <;> simp [e_]), by repeat (first | exact Drawn0.refl _ | apply Drawn0.step)⟩
set_option maxHeartbeats 8000000 in
set_option maxRecDepth 100000 in
theorem lex_sign_1.calls (k : Nat) (gb : Nat) (c : Int) (a0 : ByteArray) (r : Int) (w : World) (hc : w.cell? ⟨gb, 0, none⟩ = some (.int .u8 c)) (hl_ : lex_many.l0 (fun x => some (decide (x = c))) k (a0.extract 0 (min 1 a0.size)) 0 = some r) :
    Calls Try.prog 57 #[.string a0, .pointer (some ⟨gb, 0, none⟩)] w fun e w' => e = .returned (.int .i64 r) ∧ Drawn0 w w' := by
  have hm : (if (a0.size : Int) < 1 then (a0.size : Int) else 1).toNat = min 1 a0.size := by split <;> omega
  have his_ : ∀ (x : Int) (t : Bool) (m : Nat), 0 ≤ x → x ≤ 255 → some (decide (x = c)) = some t → Calls Try.prog 59 (#[.int .u8 x] ++ #[.pointer (some ⟨gb, 0, none⟩)]) (w.drewN m) fun e w' => e = .returned (.bool t) ∧ Drawn0 (w.drewN m) w' := fun x t m _ _ hx => lex_sign_1_1.calls gb c x t (w.drewN m) hc hx
  go_enter Try.func57, Try.ntmps57
  go_wp2_with (first | (go_at_call 58; (try rw [hm]); (with_reducible refine (lex_many.gen (fun x => some (decide (x = c))) 59 _ Try.func59 (by kernel_rfl) rfl #[.pointer (some ⟨gb, 0, none⟩)] w his_ k _ r hl_).mono ?_); rintro e w' ⟨rfl, ⟨nd, rfl⟩⟩))
  all_goals go_ret
  all_goals exact ⟨rfl, by repeat (first | exact Drawn0.refl _ | apply Drawn0.step)⟩
theorem lex_sign.calls (c : Int) (w : World) :
    Calls Try.prog 46 #[.int .u8 c] w fun e w' => ∃ g, g = w.heap.size ∧ e = .returned (.func (.func 57) #[] #[.pointer (some ⟨g, 0, none⟩)]) ∧ w'.heap[g]? = some (.cells #[.int .u8 c] 5 (0, 0)) ∧ w'.heap.size = w.heap.size + 1 ∧ Below w.heap.size w w' := by
  go_enter Try.func46, Try.ntmps46
  go_wp2
  go_ret
  exact ⟨_, rfl, rfl, by simpa using heap_alloc_new w _, (by show (w.heap.push _).size = _; simp), below_alloc (Below.refl _ _) _⟩
def lex_shapes.f : Option Int := some 0
set_option maxHeartbeats 8000000 in
set_option maxRecDepth 100000 in
theorem lex_shapes.calls (r1 : Int) (w0 w : World) (hB : Below w0.heap.size w0 w) (h : lex_shapes.f = some r1) :
    Calls Try.prog 35 #[] w fun e w' => ∃ g : Nat, e = .returned (.agg #[.func (.func 45) #[] #[], .func (.func 57) #[] #[.pointer (some ⟨g, 0, none⟩)], .func (.func 57) #[] #[.pointer (some ⟨g + 1, 0, none⟩)], .func (.func 57) #[] #[.pointer (some ⟨g + 2, 0, none⟩)], .func (.func 57) #[] #[.pointer (some ⟨g + 3, 0, none⟩)], .func (.func 47) #[] #[], .func (.func 48) #[] #[]]) ∧ IsS76 w0 w' g r1 ∧ Below w0.heap.size w0 w' ∧ Below w.heap.size w w' := by
  have hu77 := Try.underlying77
  have hst_ := lex_store_fn
  have HBW := Aside0.mk (Below.refl w.heap.size w)
  go_enter Try.func35, Try.ntmps35
  go_wp2_with (first | ((with_reducible refine gate_dst (N := 0) rfl ?_); refine box_event ?hg (N := 0) ?hd (cs := #[.nilFunc, .nilFunc, .nilFunc, .nilFunc, .nilFunc, .nilFunc, .nilFunc]) (t := 77) ?hr ?_; (case hd => rfl); (case hg => rfl); (case hr => first | (go_simp; done) | (go_simp; rfl)); intro gb hgb w1 BK1 HB1; have hgw : w.heap.size ≤ gb := (by rw [hgb]; exact Nat.le_refl _); clear hgb) | (go_at_call 46; (with_reducible refine (lex_sign.calls 64 _).mono ?_); rintro e wa ⟨ga, hg, rfl, hka, hs, hba⟩; have hga := And.intro (Nat.le_of_eq hg) (Nat.le_of_eq hg.symm); have hsa := And.intro (Nat.le_of_eq hs) (Nat.le_of_eq hs.symm); clear hg hs; have BKa := blk_below BK1 hba) | (go_at_call 46; (with_reducible refine (lex_sign.calls 40 _).mono ?_); rintro e wb ⟨gB, hg, rfl, hkb, hs, hbb⟩; have hgb := And.intro (Nat.le_of_eq hg) (Nat.le_of_eq hg.symm); have hsb := And.intro (Nat.le_of_eq hs) (Nat.le_of_eq hs.symm); clear hg hs; have BKb := blk_below BKa hbb; have hka := blk_below hka hbb) | (go_at_call 46; (with_reducible refine (lex_sign.calls 41 _).mono ?_); rintro e wc ⟨gc, hg, rfl, hkc, hs, hbc⟩; have hgc := And.intro (Nat.le_of_eq hg) (Nat.le_of_eq hg.symm); have hsc := And.intro (Nat.le_of_eq hs) (Nat.le_of_eq hs.symm); clear hg hs; have BKc := blk_below BKb hbc; have hka := blk_below hka hbc; have hkb := blk_below hkb hbc) | (go_at_call 46; (with_reducible refine (lex_sign.calls 44 _).mono ?_); rintro e wd ⟨gd, hg, rfl, hkd, hs, hbd⟩; have hgd := And.intro (Nat.le_of_eq hg) (Nat.le_of_eq hg.symm); have hsd := And.intro (Nat.le_of_eq hs) (Nat.le_of_eq hs.symm); clear hg hs; have BKd := blk_below BKc hbd; have hka := blk_below hka hbd; have hkb := blk_below hkb hbd; have hkc := blk_below hkc hbd; have hcz_0 : wd.cell? ⟨gb, 0, none⟩ = some (.nilFunc) := (blk_cell BKd 0).trans rfl; have hfz_0 := blk_frozen BKd 0; have hcz_1 : wd.cell? ⟨gb, 1, none⟩ = some (.nilFunc) := (blk_cell BKd 1).trans rfl; have hfz_1 := blk_frozen BKd 1; have hcz_2 : wd.cell? ⟨gb, 2, none⟩ = some (.nilFunc) := (blk_cell BKd 2).trans rfl; have hfz_2 := blk_frozen BKd 2; have hcz_3 : wd.cell? ⟨gb, 3, none⟩ = some (.nilFunc) := (blk_cell BKd 3).trans rfl; have hfz_3 := blk_frozen BKd 3; have hcz_4 : wd.cell? ⟨gb, 4, none⟩ = some (.nilFunc) := (blk_cell BKd 4).trans rfl; have hfz_4 := blk_frozen BKd 4; have hcz_5 : wd.cell? ⟨gb, 5, none⟩ = some (.nilFunc) := (blk_cell BKd 5).trans rfl; have hfz_5 := blk_frozen BKd 5; have hcz_6 : wd.cell? ⟨gb, 6, none⟩ = some (.nilFunc) := (blk_cell BKd 6).trans rfl; have hfz_6 := blk_frozen BKd 6))
  have z1 : w1.heap.size ≤ ga := by omega
  have hlt : gb < w1.heap.size := blk_lt BK1
  obtain rfl : gB = ga + 1 := by omega
  obtain rfl : gc = ga + 2 := by omega
  obtain rfl : gd = ga + 3 := by omega
  refine bodyPost_ret (results_cell_row rfl _ _ gb 77 #[.func (.func 45) #[] #[], .func (.func 57) #[] #[.pointer (some ⟨ga, 0, none⟩)], .func (.func 57) #[] #[.pointer (some ⟨(ga + 1), 0, none⟩)], .func (.func 57) #[] #[.pointer (some ⟨ga + 2, 0, none⟩)], .func (.func 57) #[] #[.pointer (some ⟨ga + 3, 0, none⟩)], .func (.func 47) #[] #[], .func (.func 48) #[] #[]] (0, 0) _ rfl (by (with_reducible repeat (first | refine blk_drewN ?_ _ | refine blk_drew ?_ | refine blk_alloc ?_ _)); refine blk_put (cs := #[.func (.func 45) #[] #[], .func (.func 57) #[] #[.pointer (some ⟨ga, 0, none⟩)], .func (.func 57) #[] #[.pointer (some ⟨ga + 1, 0, none⟩)], .func (.func 57) #[] #[.pointer (some ⟨ga + 2, 0, none⟩)], .func (.func 57) #[] #[.pointer (some ⟨ga + 3, 0, none⟩)], .func (.func 47) #[] #[], .nilFunc]) ?_ 6 _ rfl; (with_reducible repeat (first | refine blk_drewN ?_ _ | refine blk_drew ?_ | refine blk_alloc ?_ _)); refine blk_put (cs := #[.func (.func 45) #[] #[], .func (.func 57) #[] #[.pointer (some ⟨ga, 0, none⟩)], .func (.func 57) #[] #[.pointer (some ⟨ga + 1, 0, none⟩)], .func (.func 57) #[] #[.pointer (some ⟨ga + 2, 0, none⟩)], .func (.func 57) #[] #[.pointer (some ⟨ga + 3, 0, none⟩)], .nilFunc, .nilFunc]) ?_ 5 _ rfl; (with_reducible repeat (first | refine blk_drewN ?_ _ | refine blk_drew ?_ | refine blk_alloc ?_ _)); refine blk_put (cs := #[.func (.func 45) #[] #[], .func (.func 57) #[] #[.pointer (some ⟨ga, 0, none⟩)], .func (.func 57) #[] #[.pointer (some ⟨ga + 1, 0, none⟩)], .func (.func 57) #[] #[.pointer (some ⟨ga + 2, 0, none⟩)], .nilFunc, .nilFunc, .nilFunc]) ?_ 4 _ rfl; (with_reducible repeat (first | refine blk_drewN ?_ _ | refine blk_drew ?_ | refine blk_alloc ?_ _)); refine blk_put (cs := #[.func (.func 45) #[] #[], .func (.func 57) #[] #[.pointer (some ⟨ga, 0, none⟩)], .func (.func 57) #[] #[.pointer (some ⟨ga + 1, 0, none⟩)], .nilFunc, .nilFunc, .nilFunc, .nilFunc]) ?_ 3 _ rfl; (with_reducible repeat (first | refine blk_drewN ?_ _ | refine blk_drew ?_ | refine blk_alloc ?_ _)); refine blk_put (cs := #[.func (.func 45) #[] #[], .func (.func 57) #[] #[.pointer (some ⟨ga, 0, none⟩)], .nilFunc, .nilFunc, .nilFunc, .nilFunc, .nilFunc]) ?_ 2 _ rfl; (with_reducible repeat (first | refine blk_drewN ?_ _ | refine blk_drew ?_ | refine blk_alloc ?_ _)); refine blk_put (cs := #[.func (.func 45) #[] #[], .nilFunc, .nilFunc, .nilFunc, .nilFunc, .nilFunc, .nilFunc]) ?_ 1 _ rfl; (with_reducible repeat (first | refine blk_drewN ?_ _ | refine blk_drew ?_ | refine blk_alloc ?_ _)); refine blk_put (cs := #[.nilFunc, .nilFunc, .nilFunc, .nilFunc, .nilFunc, .nilFunc, .nilFunc]) ?_ 0 _ rfl; (with_reducible repeat (first | refine blk_drewN ?_ _ | refine blk_drew ?_ | refine blk_alloc ?_ _)); exact BKd) Try.underlying77 rfl (by kernel_rfl)) rfl ?_
  have hBd : Below w.heap.size w wd := below_step (below_step (below_step (below_step HB1 hba) hbb) hbc) hbd
  have hne : ∀ {x : Nat}, ga ≤ x → x ≠ gb := fun h_ => by omega
  exact ⟨ga, rfl, ⟨⟨by repeat (first | refine blk_far ?_ (hne (by omega)) _ | exact hka), by repeat (first | refine blk_far ?_ (hne (by omega)) _ | exact hkb), by repeat (first | refine blk_far ?_ (hne (by omega)) _ | exact hkc), by repeat (first | refine blk_far ?_ (hne (by omega)) _ | exact hkd)⟩, Nat.le_trans hB.size (Nat.le_trans HB1.size z1)⟩, by repeat (first | refine below_set ?_ (show w0.heap.size ≤ gb by have := hB.size; omega) | exact below_then hB hB.size hBd), by repeat (first | refine below_set ?_ (show w.heap.size ≤ gb by omega) | exact hBd)⟩

/-! ### strings_IndexByte: function 36 -/
def strings_IndexByte.f (a0 : ByteArray) (a1 : Int) : Option Int := some (Lib.indexByte a0.data.toList a1.toNat.toUInt8)
theorem strings_IndexByte.calls (a0 : ByteArray) (a1 : Int) (r : Int) (w : World) (h : strings_IndexByte.f a0 a1 = some r) :
    Calls Try.prog 36 #[.string a0, .int .u8 a1] w fun e w' => e = .returned (.int .i64 r) ∧ Drawn0 w w' := by
  unfold strings_IndexByte.f at h
  obtain rfl := Option.some.inj h
  refine (Go.Proofs.Try.strings_IndexByte a0 a1 w).mono ?_
  rintro e w' ⟨rfl, rfl⟩
  exact ⟨rfl, 0, rfl⟩

end Go.Proofs.Ytjfklfmfeghjnac.PL
