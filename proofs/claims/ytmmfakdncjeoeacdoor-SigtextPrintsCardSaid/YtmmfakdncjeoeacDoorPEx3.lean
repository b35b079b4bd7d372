-- Contracts of Go functions, each with its plain Lean function: written by wip/tools/myprint.py of this work (the kit's print, with contracts proved by hand spliced in).
import Derived.Test.YtmmfakdncjeoeacDoorPEx0
namespace Go.Proofs.YtmmfakdncjeoeacDoor.PE
open Go.RowKit Go.Proofs.YtmmfakdncjeoeacDoorW.PrintWords Go.Proofs.YtmmfakdncjeoeacDoorW.PrintLast Go.Proofs.YtmmfakdncjeoeacDoorW.PrintMore
attribute [local go_sem] max2_int min2_int max_two min_two max_three min_three max_four min_four   -- for this text's walks alone
set_option linter.unusedVariables false
set_option linter.unusedSimpArgs false

-- NOT PRINTED: function 50 (bytealg_IndexByteString)

-- NOT PRINTED: function 41 (stringslite_IndexByte)

-- NOT PRINTED: function 42 (bytealg_IndexString)

-- NOT PRINTED: function 43 (bytealg_Cutover)

-- NOT PRINTED: function 51 (bytealg_hashStr_string)

-- NOT PRINTED: function 44 (bytealg_IndexRabinKarp_string)

-- NOT PRINTED: function 35 (stringslite_Index)

-- NOT PRINTED: function 27 (stringslite_Cut)

/-! ### strings_Cut: function 16 -/
def strings_Cut.f (a0 a1 : ByteArray) : Option (ByteArray × ByteArray × Bool) := if a0.size < 4294967281 then some (⟨(Lib.cut a0.data.toList a1.data.toList).1.toArray⟩, ⟨(Lib.cut a0.data.toList a1.data.toList).2.1.toArray⟩, (Lib.cut a0.data.toList a1.data.toList).2.2) else none
theorem strings_Cut.callsG (a0 a1 : ByteArray) (r1 r2 : ByteArray) (r3 : Bool) (w : World) (h : strings_Cut.f a0 a1 = some (r1, r2, r3)) (hg : Go.Proofs.YtmmfakdncjeoeacDoorAid.Glob w) :
    Calls Tryd.prog 16 #[.string a0, .string a1] w fun e w' => e = .returned (.tuple #[.string r1, .string r2, .bool r3]) ∧ Drawn0 w w' := by
  unfold strings_Cut.f at h
  split at h
  · injection h with h
    injection h with h1 h
    injection h with h2 h3
    subst h1 h2 h3
    obtain ⟨m, hm⟩ := hg.1
    exact (Go.Proofs.Tryd.strings_Cut a0 a1 m w (by assumption) hm).mono fun _ _ ⟨he, n, hw⟩ => ⟨he, ⟨n, hw⟩⟩
  · cases h

/-! ### stringslite_HasSuffix: function 45 -/
def stringslite_HasSuffix.f (a0 : ByteArray) (a1 : ByteArray) : Option (Bool) := if (a0.size : Int) ≥ (a1.size : Int) then (if 0 ≤ (wrap64 ((a0.size : Int) - (a1.size : Int))) then (if (wrap64 ((a0.size : Int) - (a1.size : Int))) ≤ (a0.size : Int) then (some ((a0.extract ((wrap64 ((a0.size : Int) - (a1.size : Int))) : Int).toNat a0.size).toList == a1.toList)) else (none)) else (none)) else (some false)
set_option maxHeartbeats 8000000 in
set_option maxRecDepth 100000 in
theorem stringslite_HasSuffix.calls (a0 : ByteArray) (a1 : ByteArray) (r : Bool) (w : World) (h : stringslite_HasSuffix.f a0 a1 = some r) :
  Calls Tryd.prog 45 #[.string a0,.string a1] w fun e w' => e = .returned (.bool r) ∧ Drawn0 w w':=by
 have H : (if (a0.size : Int) ≥ (a1.size : Int) then (if 0 ≤ (wrap64 ((a0.size : Int) - (a1.size : Int))) then (if (wrap64 ((a0.size : Int) - (a1.size : Int))) ≤ (a0.size : Int) then (some ((a0.extract ((wrap64 ((a0.size : Int) - (a1.size : Int))) : Int).toNat a0.size).toList == a1.toList)) else (none)) else (none)) else (some false)) = some r:=h
 clear h
 by_cases c3 : (a0.size : Int) ≥ (a1.size : Int)
 ·rw [if_pos c3] at H
  have c3b0 : decide ((a1.size : Int) ≤ (a0.size : Int)) = true:=decide_eq_true c3
  have c3b1 : decide (a1.size ≤ a0.size) = true:=decide_eq_true (Int.ofNat_le.mp c3)
  clear c3
  obtain ⟨ji4,hji4⟩ : ∃ j_ : Int,(wrap64 ((a0.size : Int) - (a1.size : Int))) = j_:=⟨_,rfl⟩
  replace H : (if 0 ≤ (ji4) then (if (ji4) ≤ (a0.size : Int) then (some ((a0.extract ((ji4) : Int).toNat a0.size).toList == a1.toList)) else (none)) else (none)) = some r:=by first | (rw [hji4] at H;exact H) | (simp only [hji4] at H ⊢;exact H)
  have hji4w : (IntKind.i64.wrap ((a0.size : Int) - (a1.size : Int))) = ji4:=(i64_w _).trans hji4
  by_cases c5 : 0 ≤ (ji4)
  ·rw [if_pos c5] at H
   have c5b0:=eq_true c5
   have c5b1 : decide (0 ≤ (ji4)) = true:=decide_eq_true c5
   clear c5
   by_cases c6 : (ji4) ≤ (a0.size : Int)
   ·rw [if_pos c6] at H
    have c6b0:=eq_true c6
    have c6b1 : decide ((ji4) ≤ (a0.size : Int)) = true:=decide_eq_true c6
    clear c6
    obtain rfl:=Option.some.inj H
    go_enter Tryd.func45,Tryd.ntmps45
    go_wp2
    go_ret
    exact ⟨by first | rfl | (simp;done) | (simp only [← hji4] <;> (first | rfl | simp)) | (simp [*];done),by repeat (first | exact Drawn0.refl _ | apply Drawn0.step)⟩
   ·rw [if_neg c6] at H
    exact absurd H (by simp)
  ·rw [if_neg c5] at H
   exact absurd H (by simp)
 ·rw [if_neg c3] at H
  have c3b0 : decide ((a1.size : Int) ≤ (a0.size : Int)) = false:=decide_eq_false c3
  have c3b1 : decide (a1.size ≤ a0.size) = false:=decide_eq_false (fun h => c3 (Int.ofNat_le.mpr h))
  clear c3
  obtain rfl:=Option.some.inj H
  go_enter Tryd.func45,Tryd.ntmps45
  go_wp2
  go_ret
  exact ⟨by first | rfl | (simp;done) | (simp [*];done),by repeat (first | exact Drawn0.refl _ | apply Drawn0.step)⟩

/-! ### stringslite_CutSuffix: function 36 -/
def stringslite_CutSuffix.f (a0 : ByteArray) (a1 : ByteArray) : Option (ByteArray × Bool) := (stringslite_HasSuffix.f a0 a1).bind fun t101 => (if t101 = true then (if 0 ≤ (wrap64 ((a0.size : Int) - (a1.size : Int))) then (if (wrap64 ((a0.size : Int) - (a1.size : Int))) ≤ (a0.size : Int) then (some (a0.extract 0 ((wrap64 ((a0.size : Int) - (a1.size : Int))) : Int).toNat, true)) else (none)) else (none)) else (some (a0, false)))
set_option maxHeartbeats 8000000 in
set_option maxRecDepth 100000 in
theorem stringslite_CutSuffix.calls (a0 : ByteArray) (a1 : ByteArray) (r1 : ByteArray) (r2 : Bool) (w : World) (h : stringslite_CutSuffix.f a0 a1 = some (r1,r2)) :
  Calls Tryd.prog 36 #[.string a0,.string a1] w fun e w' => e = .returned (.tuple #[.string r1,.bool r2]) ∧ Drawn0 w w':=by
 have H : ((stringslite_HasSuffix.f a0 a1).bind fun t101 => (if t101 = true then (if 0 ≤ (wrap64 ((a0.size : Int) - (a1.size : Int))) then (if (wrap64 ((a0.size : Int) - (a1.size : Int))) ≤ (a0.size : Int) then (some (a0.extract 0 ((wrap64 ((a0.size : Int) - (a1.size : Int))) : Int).toNat,true)) else (none)) else (none)) else (some (a0,false)))) = some (r1,r2):=h
 clear h
 replace H:=Option.bind_eq_some_iff.mp H
 obtain ⟨t101,A30,H⟩:=H
 replace H : (if t101 = true then (if 0 ≤ (wrap64 ((a0.size : Int) - (a1.size : Int))) then (if (wrap64 ((a0.size : Int) - (a1.size : Int))) ≤ (a0.size : Int) then (some (a0.extract 0 ((wrap64 ((a0.size : Int) - (a1.size : Int))) : Int).toNat,true)) else (none)) else (none)) else (some (a0,false))) = some (r1,r2):=H
 have A3:=Aside0.mk A30
 clear A30
 by_cases c4 : t101 = true
 ·subst c4
  have H1 : (if 0 ≤ (wrap64 ((a0.size : Int) - (a1.size : Int))) then (if (wrap64 ((a0.size : Int) - (a1.size : Int))) ≤ (a0.size : Int) then (some (a0.extract 0 ((wrap64 ((a0.size : Int) - (a1.size : Int))) : Int).toNat,true)) else (none)) else (none)) = some (r1,r2):=by rw [if_pos rfl] at H;exact H
  clear H
  have H:=H1
  clear H1
  obtain ⟨ji5,hji5⟩ : ∃ j_ : Int,(wrap64 ((a0.size : Int) - (a1.size : Int))) = j_:=⟨_,rfl⟩
  replace H : (if 0 ≤ (ji5) then (if (ji5) ≤ (a0.size : Int) then (some (a0.extract 0 ((ji5) : Int).toNat,true)) else (none)) else (none)) = some (r1,r2):=by first | (rw [hji5] at H;exact H) | (simp only [hji5] at H ⊢;exact H)
  (try rw [hji5] at A3)
  have hji5w : (IntKind.i64.wrap ((a0.size : Int) - (a1.size : Int))) = ji5:=(i64_w _).trans hji5
  by_cases c6 : 0 ≤ (ji5)
  ·rw [if_pos c6] at H
   have c6b0:=eq_true c6
   have c6b1 : decide (0 ≤ (ji5)) = true:=decide_eq_true c6
   clear c6
   by_cases c7 : (ji5) ≤ (a0.size : Int)
   ·rw [if_pos c7] at H
    have c7b0:=eq_true c7
    have c7b1 : decide ((ji5) ≤ (a0.size : Int)) = true:=decide_eq_true c7
    clear c7
    simp only [Option.some.injEq,Prod.mk.injEq] at H
    obtain ⟨rfl,rfl⟩:=H
    go_enter Tryd.func36,Tryd.ntmps36
    go_wp2_with (first | ((with_reducible refine gate_callee (f:=45) rfl ?_);refine goesL_ (some 8) rfl rfl Tryd.func45 (by kernel_rfl) rfl #[.string a0,.string a1] rfl (by (try simp only [List.map_toArray,List.map_cons,List.map_nil]);first | done | rfl | (simp only [List.length_drop,List.length_take];rfl)) ?_;(with_reducible refine (stringslite_HasSuffix.calls a0 a1 true _ A3.out).mono ?_);rintro e w' ⟨rfl,⟨nd,rfl⟩⟩;refine ⟨_,rfl,?_⟩))
    go_ret2
    exact ⟨by first | rfl | (simp;done) | (simp only [← hji5] <;> (first | rfl | simp)) | (simp [*];done),by repeat (first | exact Drawn0.refl _ | apply Drawn0.step)⟩
   ·rw [if_neg c7] at H
    exact absurd H (by simp)
  ·rw [if_neg c6] at H
   exact absurd H (by simp)
 ·replace c4:=Bool.eq_false_iff.mpr c4
  subst c4
  have H1 : (some (a0,false)) = some (r1,r2):=by rw [if_neg (show ¬ (false = true) by decide)] at H;exact H
  clear H
  have H:=H1
  clear H1
  simp only [Option.some.injEq,Prod.mk.injEq] at H
  obtain ⟨rfl,rfl⟩:=H
  go_enter Tryd.func36,Tryd.ntmps36
  go_wp2_with (first | ((with_reducible refine gate_callee (f:=45) rfl ?_);refine goesL_ (some 8) rfl rfl Tryd.func45 (by kernel_rfl) rfl #[.string a0,.string a1] rfl (by (try simp only [List.map_toArray,List.map_cons,List.map_nil]);first | done | rfl | (simp only [List.length_drop,List.length_take];rfl)) ?_;(with_reducible refine (stringslite_HasSuffix.calls a0 a1 false _ A3.out).mono ?_);rintro e w' ⟨rfl,⟨nd,rfl⟩⟩;refine ⟨_,rfl,?_⟩))
  go_ret2
  exact ⟨by first | rfl | (simp;done) | (simp [*];done),by repeat (first | exact Drawn0.refl _ | apply Drawn0.step)⟩

/-! ### strings_CutSuffix: function 28 -/
def strings_CutSuffix.f (a0 : ByteArray) (a1 : ByteArray) : Option (ByteArray × Bool) := (stringslite_CutSuffix.f a0 a1).bind fun bt102 => (some (bt102.1, bt102.2))
set_option maxHeartbeats 8000000 in
set_option maxRecDepth 100000 in
theorem strings_CutSuffix.calls (a0 : ByteArray) (a1 : ByteArray) (r1 : ByteArray) (r2 : Bool) (w : World) (h : strings_CutSuffix.f a0 a1 = some (r1, r2)) :
    Calls Tryd.prog 28 #[.string a0, .string a1] w fun e w' => e = .returned (.tuple #[.string r1, .bool r2]) ∧ Drawn0 w w' := by
  have H : ((stringslite_CutSuffix.f a0 a1).bind fun bt102 => (some (bt102.1, bt102.2))) = some (r1, r2) := h
  clear h
  replace H := Option.bind_eq_some_iff.mp H
  obtain ⟨⟨t102, t103⟩, A30, H⟩ := H
  replace H : (some (t102, t103)) = some (r1, r2) := H
  have A3 := Aside0.mk A30
  clear A30
  simp only [Option.some.injEq, Prod.mk.injEq] at H
  obtain ⟨rfl, rfl⟩ := H
  go_enter Tryd.func28, Tryd.ntmps28
  go_wp2_with (first | ((with_reducible refine gate_callee (f := 36) rfl ?_); refine goesL_ (some 8) rfl rfl Tryd.func36 (by kernel_rfl) rfl #[.string a0, .string a1] rfl (by (try simp only [List.map_toArray, List.map_cons, List.map_nil]); first | done | rfl | (simp only [List.length_drop, List.length_take]; rfl) | (refine congrArg (fun z_ => #[z_]) (congrArg (Value.int IntKind.u64) (Eq.symm (Go.Proofs.YtmmfakdncjeoeacDoorAid.wrap_len _ (by omega)))))) ?_; (with_reducible refine (stringslite_CutSuffix.calls a0 a1 t102 t103 _ A3.out).mono ?_); rintro e w' ⟨rfl, ⟨nd, rfl⟩⟩; refine ⟨_, rfl, ?_⟩))
  go_ret2
  exact ⟨by first | rfl | (simp; done) | (simp [*]; done), by repeat (first | exact Drawn0.refl _ | apply Drawn0.step)⟩

/-! ### sig_letter: function 37 -/
mutual
def sig_letter.j0 : Nat → Int → Bool → Bool → Option (Bool)
 | 0, _, _, _ => none
 | k + 1, x0, x1, x5 => if x5 = true then (some true) else (if x0 ≥ 97 then (sig_letter.j1 k x0 x1 (decide (x0 ≤ 122))) else (sig_letter.j1 k x0 x1 false))
def sig_letter.j1 : Nat → Int → Bool → Bool → Option (Bool)
 | 0, _, _, _ => none
 | k + 1, x0, x1, x5 => if x5 = true then (some true) else (if x0 = 95 then (some true) else (if x1 = true then (some false) else (if x0 ≥ 48 then (some (decide (x0 ≤ 57))) else (some false))))
end
def sig_letter.f (k : Nat) (a0 : Int) (a1 : Bool) : Option (Bool) := if a0 ≥ 65 then (sig_letter.j0 k a0 a1 (decide (a0 ≤ 90))) else (sig_letter.j0 k a0 a1 false)
theorem sig_letter.mono_l : ∀ k, (∀ y0 y1 y2, LeO (sig_letter.j0 k y0 y1 y2) (sig_letter.j0 (k + 1) y0 y1 y2)) ∧ (∀ y0 y1 y2, LeO (sig_letter.j1 k y0 y1 y2) (sig_letter.j1 (k + 1) y0 y1 y2))
 | 0 => ⟨fun _ _ _ r h => by simp [sig_letter.j0] at h, fun _ _ _ r h => by simp [sig_letter.j1] at h⟩
 | k + 1 => by
  obtain ⟨ih0, ih1⟩ := sig_letter.mono_l k
  refine ⟨?_, ?_⟩
  ·intro y0 y1 y2
   unfold sig_letter.j0
   repeat' first
   | (with_reducible exact ih0 _ _ _)
   | (with_reducible exact ih1 _ _ _)
   | (with_reducible exact LeO.refl _)
   | (with_reducible exact LeO.none _)
   | (with_reducible refine LeO.ite ?_ ?_)
   | (with_reducible refine LeO.bind ?_ (fun _ => ?_))
   | exact ih0 _ _ _
   | exact ih1 _ _ _
   | exact LeO.none _
   | refine LeO.ite ?_ ?_
   | refine LeO.bind ?_ (fun _ => ?_)
  ·intro y0 y1 y2
   unfold sig_letter.j1
   repeat' first
   | (with_reducible exact ih0 _ _ _)
   | (with_reducible exact ih1 _ _ _)
   | (with_reducible exact LeO.refl _)
   | (with_reducible exact LeO.none _)
   | (with_reducible refine LeO.ite ?_ ?_)
   | (with_reducible refine LeO.bind ?_ (fun _ => ?_))
   | exact ih0 _ _ _
   | exact ih1 _ _ _
   | exact LeO.none _
   | refine LeO.ite ?_ ?_
   | refine LeO.bind ?_ (fun _ => ?_)
theorem sig_letter.mono : ∀ a0 a1 k, LeO (sig_letter.f k a0 a1) (sig_letter.f (k + 1) a0 a1) := by
 intro a0 a1 k
 obtain ⟨ih0, ih1⟩ := sig_letter.mono_l k
 unfold sig_letter.f
 repeat' first
   | (with_reducible exact ih0 _ _ _)
   | (with_reducible exact ih1 _ _ _)
   | (with_reducible exact LeO.refl _)
   | (with_reducible exact LeO.none _)
   | (with_reducible refine LeO.ite ?_ ?_)
   | (with_reducible refine LeO.bind ?_ (fun _ => ?_))
   | exact ih0 _ _ _
   | exact ih1 _ _ _
   | exact LeO.none _
   | refine LeO.ite ?_ ?_
   | refine LeO.bind ?_ (fun _ => ?_)
set_option maxHeartbeats 8000000 in
set_option maxRecDepth 100000 in
theorem sig_letter.calls (k : Nat) (a0 : Int) (a1 : Bool) (r : Bool) (w : World) (h : sig_letter.f k a0 a1 = some r) :
  Calls Tryd.prog 37 #[.int .u8 a0,.bool a1] w fun e w' => e = .returned (.bool r) ∧ Drawn0 w w':=by
 have H : (if a0 ≥ 65 then (sig_letter.j0 k a0 a1 (decide (a0 ≤ 90))) else (sig_letter.j0 k a0 a1 false)) = some r:=h
 clear h
 have HC3:=Aside0.mk H
 clear H
 go_enter Tryd.func37,Tryd.ntmps37
 go_upto_region 1 with (fail)
 go_cut [5] (fun v5 wc => ∃ (kq : Nat) (x5_2 : Bool),v5 = .bool x5_2 ∧ Aside0 (sig_letter.j0 kq a0 a1 x5_2 = some r) ∧ Aside0 (kq ≤ k) ∧ Drawn0 w wc)
 case first =>
  have H:=HC3.out
  clear HC3
  by_cases c4 : a0 ≥ 65
  ·rw [if_pos c4] at H
   have c4b0 : decide (65 ≤ a0) = true:=decide_eq_true c4
   clear c4
   (first | rw [c4b0] | (simp only [i64_w,i32_w];rw [c4b0]) | skip)
   have H':=Aside0.mk H
   clear H
   go_wp2
   go_meet
   case rel => exact ⟨_,(decide (a0 ≤ 90)),(by first | rfl | (simp;done) | (simp [*];done)),H',⟨by first | omega | exact Nat.le_refl _⟩,by repeat (first | exact Drawn0.refl _ | apply Drawn0.step)⟩
  ·rw [if_neg c4] at H
   have c4b0 : decide (65 ≤ a0) = false:=decide_eq_false c4
   clear c4
   (first | rw [c4b0] | (simp only [i64_w,i32_w];rw [c4b0]) | skip)
   have H':=Aside0.mk H
   clear H
   go_wp2
   go_meet
   case rel => exact ⟨_,(false),(by first | rfl | (simp;done) | (simp [*];done)),H',⟨by first | omega | exact Nat.le_refl _⟩,by repeat (first | exact Drawn0.refl _ | apply Drawn0.step)⟩
 case rest =>
  clear HC3
  try clear p2
  try clear c3
  try clear c4
  try clear c4b0
  obtain ⟨kq,x5_2,rfl,HA,HJ2,⟨mc2,rfl⟩⟩:=hcut
  cases kq with
  | zero => exact absurd HA.out (by simp [sig_letter.j0])
  | succ kj2 =>
   have H:=HA.out
   clear HA
   simp only [sig_letter.j0] at H
   by_cases c5 : x5_2 = true
   ·subst c5
    have H1 : (some true) = some r:=by rw [if_pos rfl] at H;exact H
    clear H
    have H:=H1
    clear H1
    obtain rfl:=Option.some.inj H
    go_wp2
    go_ret
    exact ⟨by first | rfl | (simp;done) | (simp [*];done),by repeat (first | exact Drawn0.refl _ | apply Drawn0.step)⟩
   ·replace c5:=Bool.eq_false_iff.mpr c5
    subst c5
    have H1 : (if a0 ≥ 97 then (sig_letter.j1 kj2 a0 a1 (decide (a0 ≤ 122))) else (sig_letter.j1 kj2 a0 a1 false)) = some r:=by rw [if_neg (show ¬ (false = true) by decide)] at H;exact H
    clear H
    have H:=H1
    clear H1
    have HC6:=Aside0.mk H
    clear H
    go_upto_region 2 with (fail)
    go_cut [5] (fun v5 wc => ∃ (kq : Nat) (x5_5 : Bool),v5 = .bool x5_5 ∧ Aside0 (sig_letter.j1 kq a0 a1 x5_5 = some r) ∧ Aside0 (kq ≤ kj2) ∧ Drawn0 w wc)
    case first =>
     have H:=HC6.out
     clear HC6
     by_cases c7 : a0 ≥ 97
     ·rw [if_pos c7] at H
      have c7b0 : decide (97 ≤ a0) = true:=decide_eq_true c7
      clear c7
      (first | rw [c7b0] | (simp only [i64_w,i32_w];rw [c7b0]) | skip)
      have H':=Aside0.mk H
      clear H
      go_wp2
      go_meet
      case rel => exact ⟨_,(decide (a0 ≤ 122)),(by first | rfl | (simp;done) | (simp [*];done)),H',⟨by have:=HJ2.out;first | omega | exact Nat.le_refl _⟩,by repeat (first | exact Drawn0.refl _ | apply Drawn0.step)⟩
     ·rw [if_neg c7] at H
      have c7b0 : decide (97 ≤ a0) = false:=decide_eq_false c7
      clear c7
      (first | rw [c7b0] | (simp only [i64_w,i32_w];rw [c7b0]) | skip)
      have H':=Aside0.mk H
      clear H
      go_wp2
      go_meet
      case rel => exact ⟨_,(false),(by first | rfl | (simp;done) | (simp [*];done)),H',⟨by have:=HJ2.out;first | omega | exact Nat.le_refl _⟩,by repeat (first | exact Drawn0.refl _ | apply Drawn0.step)⟩
    case rest =>
     clear HC6
     try clear c2
     try clear p2
     try clear c3
     try clear c4
     try clear c4b0
     try clear c5
     try clear c7
     try clear c7b0
     try clear p2
     obtain ⟨kq,x5_5,rfl,HA,HJ5,⟨mc5,rfl⟩⟩:=hcut
     cases kq with
     | zero => exact absurd HA.out (by simp [sig_letter.j1])
     | succ kj5 =>
      have H:=HA.out
      clear HA
      simp only [sig_letter.j1] at H
      by_cases c8 : x5_5 = true
      ·subst c8
       have H1 : (some true) = some r:=by rw [if_pos rfl] at H;exact H
       clear H
       have H:=H1
       clear H1
       obtain rfl:=Option.some.inj H
       go_wp2
       go_ret
       exact ⟨by first | rfl | (simp;done) | (simp [*];done),by repeat (first | exact Drawn0.refl _ | apply Drawn0.step)⟩
      ·replace c8:=Bool.eq_false_iff.mpr c8
       subst c8
       have H1 : (if a0 = 95 then (some true) else (if a1 = true then (some false) else (if a0 ≥ 48 then (some (decide (a0 ≤ 57))) else (some false)))) = some r:=by rw [if_neg (show ¬ (false = true) by decide)] at H;exact H
       clear H
       have H:=H1
       clear H1
       by_cases c9 : a0 = 95
       ·rw [if_pos c9] at H
        have c9b0 : (a0 == 95) = true:=beq_iff_eq.mpr c9
        have c9b1 : (a0 != 95) = false:=bne_eq_false_iff_eq.mpr c9
        clear c9
        obtain rfl:=Option.some.inj H
        go_wp2
        go_ret
        exact ⟨by first | rfl | (simp;done) | (simp [*];done),by repeat (first | exact Drawn0.refl _ | apply Drawn0.step)⟩
       ·rw [if_neg c9] at H
        have c9b0 : (a0 == 95) = false:=beq_eq_false_iff_ne.mpr c9
        have c9b1 : (a0 != 95) = true:=bne_iff_ne.mpr c9
        by_cases c10 : a1 = true
        ·subst c10
         have H1 : (some false) = some r:=by rw [if_pos rfl] at H;exact H
         clear H
         have H:=H1
         clear H1
         obtain rfl:=Option.some.inj H
         go_wp2
         go_ret
         exact ⟨by first | rfl | (simp;done) | (simp [*];done),by repeat (first | exact Drawn0.refl _ | apply Drawn0.step)⟩
        ·replace c10:=Bool.eq_false_iff.mpr c10
         subst c10
         have H1 : (if a0 ≥ 48 then (some (decide (a0 ≤ 57))) else (some false)) = some r:=by rw [if_neg (show ¬ (false = true) by decide)] at H;exact H
         clear H
         have H:=H1
         clear H1
         by_cases c11 : a0 ≥ 48
         ·rw [if_pos c11] at H
          have c11b0 : decide (48 ≤ a0) = true:=decide_eq_true c11
          clear c11
          obtain rfl:=Option.some.inj H
          go_wp2
          go_ret
          exact ⟨by first | rfl | (simp;done) | (simp [*];done),by repeat (first | exact Drawn0.refl _ | apply Drawn0.step)⟩
         ·rw [if_neg c11] at H
          have c11b0 : decide (48 ≤ a0) = false:=decide_eq_false c11
          clear c11
          obtain rfl:=Option.some.inj H
          go_wp2
          go_ret
          exact ⟨by first | rfl | (simp;done) | (simp [*];done),by repeat (first | exact Drawn0.refl _ | apply Drawn0.step)⟩

/-! ### sig_Name: function 29 -/
def sig_Name.l0 : Nat → ByteArray → Int → Int → Option (Bool)
 | 0, _, _, _ => none
 | k + 1, x0, x5, x6 => if x6 < x5 then (if 0 ≤ x6 then (if x6 < (x0.size : Int) then ((sig_letter.f k (bt x0 x6) (x6 == 0)).bind fun t104 => (if t104 = true then (sig_Name.l0 k x0 x5 (wrap64 (x6 + 1))) else (some false))) else (none)) else (none)) else (if (x0.size : Int) ≥ 1 then (some (decide ((x0.size : Int) ≤ 32))) else (some false))
def sig_Name.f (k : Nat) (a0 : ByteArray) : Option (Bool) := sig_Name.l0 k a0 (a0.size : Int) 0
theorem sig_Name.mono_l : ∀ k, (∀ y0 y1 y2, LeO (sig_Name.l0 k y0 y1 y2) (sig_Name.l0 (k + 1) y0 y1 y2))
 | 0 => fun _ _ _ r h => by simp [sig_Name.l0] at h
 | k + 1 => by
  have ih0 := sig_Name.mono_l k
  ·intro y0 y1 y2
   unfold sig_Name.l0
   repeat' first
   | (with_reducible exact ih0 _ _ _)
   | (with_reducible exact sig_letter.mono _ _ _)
   | (with_reducible exact LeO.refl _)
   | (with_reducible exact LeO.none _)
   | (with_reducible refine LeO.ite ?_ ?_)
   | (with_reducible refine LeO.bind ?_ (fun _ => ?_))
   | exact ih0 _ _ _
   | exact sig_letter.mono _ _ _
   | exact LeO.none _
   | refine LeO.ite ?_ ?_
   | refine LeO.bind ?_ (fun _ => ?_)
theorem sig_Name.mono : ∀ a0 k, LeO (sig_Name.f k a0) (sig_Name.f (k + 1) a0) := by
 intro a0 k
 have ih0 := sig_Name.mono_l k
 unfold sig_Name.f
 repeat' first
   | (with_reducible exact ih0 _ _ _)
   | (with_reducible exact sig_letter.mono _ _ _)
   | (with_reducible exact LeO.refl _)
   | (with_reducible exact LeO.none _)
   | (with_reducible refine LeO.ite ?_ ?_)
   | (with_reducible refine LeO.bind ?_ (fun _ => ?_))
   | exact ih0 _ _ _
   | exact sig_letter.mono _ _ _
   | exact LeO.none _
   | refine LeO.ite ?_ ?_
   | refine LeO.bind ?_ (fun _ => ?_)
set_option maxHeartbeats 8000000 in
set_option maxRecDepth 100000 in
theorem sig_Name.calls (k : Nat) (a0 : ByteArray) (r : Bool) (w : World) (h : sig_Name.f k a0 = some r) :
  Calls Tryd.prog 29 #[.string a0] w fun e w' => e = .returned (.bool r) ∧ Drawn0 w w':=by
 have H : (sig_Name.l0 k a0 (a0.size : Int) 0) = some r:=h
 clear h
 have H':=Aside0.mk H
 clear H
 go_enter Tryd.func29,Tryd.ntmps29
 go_wp2
 go_loopg [6] k (fun kq v6 w' => ∃ (x6_1 : Int),v6 = .int .i64 x6_1 ∧ Aside0 (sig_Name.l0 kq a0 (a0.size : Int) x6_1 = some r) ∧ Aside0 (kq ≤ k) ∧ Drawn0 w w')
 case atStart => exact ⟨(0),(by first | rfl | (simp;done) | (simp [*];done)),H',⟨Nat.le_refl _⟩,by repeat (first | exact Drawn0.refl _ | apply Drawn0.step)⟩
 case round =>
  clear H'
  obtain ⟨x6_1,rfl,HA,HK1,⟨m1,rfl⟩⟩:=hrel
  cases gk with
  | zero => exact absurd HA.out (by simp [sig_Name.l0])
  | succ k1 =>
   have H:=HA.out
   clear HA
   simp only [sig_Name.l0] at H
   by_cases c2 : x6_1 < (a0.size : Int)
   ·rw [if_pos c2] at H
    have c2b0 : decide (x6_1 < (a0.size : Int)) = true:=decide_eq_true c2
    clear c2
    by_cases c3 : 0 ≤ x6_1
    ·rw [if_pos c3] at H
     have c3b0 : decide (0 ≤ x6_1) = true:=decide_eq_true c3
     clear c3
     by_cases c4 : x6_1 < (a0.size : Int)
     ·rw [if_pos c4] at H
      have c4b0 : decide (x6_1 < (a0.size : Int)) = true:=decide_eq_true c4
      clear c4
      replace H:=Option.bind_eq_some_iff.mp H
      obtain ⟨t104,A60,H⟩:=H
      replace H : (if t104 = true then (sig_Name.l0 k1 a0 (a0.size : Int) (wrap64 (x6_1 + 1))) else (some false)) = some r:=H
      have A6:=Aside0.mk A60
      clear A60
      by_cases c7 : t104 = true
      ·subst c7
       have H1 : (sig_Name.l0 k1 a0 (a0.size : Int) (wrap64 (x6_1 + 1))) = some r:=by rw [if_pos rfl] at H;exact H
       clear H
       have H:=H1
       clear H1
       have H':=Aside0.mk H
       clear H
       have p5 : 0 ≤ (x6_1 : Int):=of_decide_eq_true (by first | (with_reducible assumption) | assumption)
       have q5 : x6_1 < (a0.size : Int):=of_decide_eq_true (by first | (with_reducible assumption) | assumption)
       have hx5:=bt_at a0 x6_1
       replace p5:=eq_true p5
       replace q5:=eq_true q5
       go_wp2_with (first | ((with_reducible refine gate_callee (f:=37) rfl ?_);refine goesL_ (some 14) rfl rfl Tryd.func37 (by kernel_rfl) rfl #[.int .u8 (bt a0 x6_1),.bool (x6_1 == 0)] rfl (by (try simp only [List.map_toArray,List.map_cons,List.map_nil]);first | done | rfl | (simp only [List.length_drop,List.length_take];rfl)) ?_;(with_reducible refine (sig_letter.calls k1 (bt a0 x6_1) (x6_1 == 0) true _ A6.out).mono ?_);rintro e w' ⟨rfl,⟨nd,rfl⟩⟩;refine ⟨_,rfl,?_⟩))
       go_roundg k1
       case measure => have:=HK1.out;omega
       case rel => exact ⟨(wrap64 (x6_1 + 1)),(by first | rfl | (simp;done) | (simp [*];done)),H',⟨by have:=HK1.out;omega⟩,by repeat (first | exact Drawn0.refl _ | apply Drawn0.step)⟩
      ·replace c7:=Bool.eq_false_iff.mpr c7
       subst c7
       have H1 : (some false) = some r:=by rw [if_neg (show ¬ (false = true) by decide)] at H;exact H
       clear H
       have H:=H1
       clear H1
       obtain rfl:=Option.some.inj H
       have p5 : 0 ≤ (x6_1 : Int):=of_decide_eq_true (by first | (with_reducible assumption) | assumption)
       have q5 : x6_1 < (a0.size : Int):=of_decide_eq_true (by first | (with_reducible assumption) | assumption)
       have hx5:=bt_at a0 x6_1
       replace p5:=eq_true p5
       replace q5:=eq_true q5
       go_wp2_with (first | ((with_reducible refine gate_callee (f:=37) rfl ?_);refine goesL_ (some 14) rfl rfl Tryd.func37 (by kernel_rfl) rfl #[.int .u8 (bt a0 x6_1),.bool (x6_1 == 0)] rfl (by (try simp only [List.map_toArray,List.map_cons,List.map_nil]);first | done | rfl | (simp only [List.length_drop,List.length_take];rfl)) ?_;(with_reducible refine (sig_letter.calls k1 (bt a0 x6_1) (x6_1 == 0) false _ A6.out).mono ?_);rintro e w' ⟨rfl,⟨nd,rfl⟩⟩;refine ⟨_,rfl,?_⟩))
       go_ret
       exact ⟨by first | rfl | (simp;done) | (simp [*];done),by repeat (first | exact Drawn0.refl _ | apply Drawn0.step)⟩
     ·rw [if_neg c4] at H
      exact absurd H (by simp)
    ·rw [if_neg c3] at H
     exact absurd H (by simp)
   ·rw [if_neg c2] at H
    have c2b0 : decide (x6_1 < (a0.size : Int)) = false:=decide_eq_false c2
    clear c2
    by_cases c8 : (a0.size : Int) ≥ 1
    ·rw [if_pos c8] at H
     have c8b0 : decide (1 ≤ (a0.size : Int)) = true:=decide_eq_true c8
     have c8b1 : decide (1 ≤ a0.size) = true:=decide_eq_true (by omega)
     clear c8
     obtain rfl:=Option.some.inj H
     go_wp2
     go_ret
     exact ⟨by first | rfl | (simp;done) | (simp [*];done),by repeat (first | exact Drawn0.refl _ | apply Drawn0.step)⟩
    ·rw [if_neg c8] at H
     have c8b0 : decide (1 ≤ (a0.size : Int)) = false:=decide_eq_false c8
     have c8b1 : decide (1 ≤ a0.size) = false:=decide_eq_false (by omega)
     clear c8
     obtain rfl:=Option.some.inj H
     go_wp2
     go_ret
     exact ⟨by first | rfl | (simp;done) | (simp [*];done),by repeat (first | exact Drawn0.refl _ | apply Drawn0.step)⟩

-- NOT PRINTED: function 52 (utf8_RuneCountInString)

-- NOT PRINTED: function 56 (utf8_decodeRuneInStringSlow)

-- NOT PRINTED: function 53 (utf8_DecodeRuneInString)

-- NOT PRINTED: function 46 (strings_explode)

-- NOT PRINTED: function 48 (strings_Index)

-- NOT PRINTED: function 54 (bytealg_CountString)

-- NOT PRINTED: function 47 (strings_Count)

-- NOT PRINTED: function 38 (strings_genSplit)

/-! ### strings_Split: function 30 -/
def strings_Split.f (a0 a1 : ByteArray) : Option (List ByteArray) := if a0.size < 4294967281 ∧ 1 ≤ a1.size then some (Lib.splitB a1 0 (Lib.countB a0 a1) a0) else none
theorem strings_Split.callsG (a0 a1 : ByteArray) (r : List ByteArray) (w : World) (h : strings_Split.f a0 a1 = some r) (hg : Go.Proofs.YtmmfakdncjeoeacDoorAid.Glob w) :
    Calls Tryd.prog 30 #[.string a0, .string a1] w fun e w' => ∃ v0_ : Value, e = .returned (v0_) ∧ Kd.R Kd.string 9 w' w.heap.size (fun _ => True) v0_ r ∧ Below w.heap.size w w' := by
  unfold strings_Split.f at h
  split at h
  · rename_i hc
    injection h with h
    subst h
    obtain ⟨m, hm⟩ := hg.1
    have hlen := Lib.splitB_all a1 hc.2 0 (Lib.countB a0 a1) a0 rfl
    have hle := Lib.countB_le a1 hc.2 a0.size a0 (Nat.le_refl _)
    refine (Go.Proofs.Tryd.strings_Split a0 a1 m w hc.1 hm hc.2).mono ?_
    rintro e w' ⟨rfl, rfl⟩
    refine ⟨_, rfl, Kd.R_of_own ⟨by simp [encs], .inr ⟨w.heap.size, Lib.countB a0 a1 + 1, _, by rw [hlen], Nat.le_refl _, blk_new _ _, by omega, by unfold maxLen; omega, by simp [hlen], by simp only [encs, Nat.mul_one]; exact List.take_of_length_le (by rw [List.length_map, hlen]; exact Nat.le_refl _)⟩⟩ (fun _ _ => trivial), below_alloc (Below.refl _ _) _⟩
  · cases h

/-! ### runtime_plainError_Error: function 61 -/
def runtime_plainError_Error.f (s : ByteArray) : Option (Int × Bool) := if s.size ≤ maxLen then some (Go.Proofs.YtmmfakdncjeoeacDoorAid.wordOf s) else none

/-! ### sigtext_pred: function 17 -/
mutual
def sigtext_pred.j0 : Nat → ByteArray → Bool → ByteArray → Option (ByteArray × List Int × Bool)
 | 0, _, _, _ => none
 | k + 1, x7, x37, x112000 => if x37 = true then (some (x112000, ([] : List Int), false)) else (if x7.toList = ([] : List UInt8) then (some (x112000, ([] : List Int), true)) else ((strings_Split.f x7 (⟨#[44]⟩ : ByteArray)).bind fun t113 => (sigtext_pred.l0 k t113 (t113.length : Int) 0 x112000 ([] : List Int))))
def sigtext_pred.l0 : Nat → List ByteArray → Int → Int → ByteArray → List Int → Option (ByteArray × List Int × Bool)
 | 0, _, _, _, _, _ => none
 | k + 1, x43, x44, x45, x112000, x112001 => if x45 < x44 then (if 0 ≤ x45 then (if x45 < (x43.length : Int) then ((runtime_plainError_Error.f (rdOf ByteArray.empty x43 x45)).bind fun bt117 => (if bt117.2 = true then (if x112001.length < 17592186044416 then (sigtext_pred.l0 k x43 x44 (wrap64 (x45 + 1)) x112000 (x112001 ++ [bt117.1])) else (none)) else (some (x112000, x112001, false)))) else (none)) else (none)) else (some (x112000, x112001, true))
end
def sigtext_pred.f (k : Nat) (a0 : ByteArray) : Option (ByteArray × List Int × Bool) := (strings_Cut.f a0 (⟨#[40]⟩ : ByteArray)).bind fun bt106 => ((strings_CutSuffix.f bt106.2.1 (⟨#[41]⟩ : ByteArray)).bind fun bt109 => (if bt106.2.2 = true then (if bt109.2 = true then ((sig_Name.f k bt106.1).bind fun t112 => (sigtext_pred.j0 k bt109.1 (!t112) bt106.1)) else (sigtext_pred.j0 k bt109.1 true bt106.1)) else (sigtext_pred.j0 k bt109.1 true bt106.1)))
theorem sigtext_pred.mono_l : ∀ k, (∀ y0 y1 y2, LeO (sigtext_pred.j0 k y0 y1 y2) (sigtext_pred.j0 (k + 1) y0 y1 y2)) ∧ (∀ y0 y1 y2 y3 y4, LeO (sigtext_pred.l0 k y0 y1 y2 y3 y4) (sigtext_pred.l0 (k + 1) y0 y1 y2 y3 y4))
 | 0 => ⟨fun _ _ _ r h => by simp [sigtext_pred.j0] at h, fun _ _ _ _ _ r h => by simp [sigtext_pred.l0] at h⟩
 | k + 1 => by
  obtain ⟨ih0, ih1⟩ := sigtext_pred.mono_l k
  refine ⟨?_, ?_⟩
  ·intro y0 y1 y2
   unfold sigtext_pred.j0
   repeat' first
   | (with_reducible exact ih0 _ _ _)
   | (with_reducible exact ih1 _ _ _ _ _)
   | (with_reducible exact sig_Name.mono _ _)
   | (with_reducible exact LeO.refl _)
   | (with_reducible exact LeO.none _)
   | (with_reducible refine LeO.ite ?_ ?_)
   | (with_reducible refine LeO.bind ?_ (fun _ => ?_))
   | exact ih0 _ _ _
   | exact ih1 _ _ _ _ _
   | exact sig_Name.mono _ _
   | exact LeO.none _
   | refine LeO.ite ?_ ?_
   | refine LeO.bind ?_ (fun _ => ?_)
  ·intro y0 y1 y2 y3 y4
   unfold sigtext_pred.l0
   repeat' first
   | (with_reducible exact ih0 _ _ _)
   | (with_reducible exact ih1 _ _ _ _ _)
   | (with_reducible exact sig_Name.mono _ _)
   | (with_reducible exact LeO.refl _)
   | (with_reducible exact LeO.none _)
   | (with_reducible refine LeO.ite ?_ ?_)
   | (with_reducible refine LeO.bind ?_ (fun _ => ?_))
   | exact ih0 _ _ _
   | exact ih1 _ _ _ _ _
   | exact sig_Name.mono _ _
   | exact LeO.none _
   | refine LeO.ite ?_ ?_
   | refine LeO.bind ?_ (fun _ => ?_)
theorem sigtext_pred.mono : ∀ a0 k, LeO (sigtext_pred.f k a0) (sigtext_pred.f (k + 1) a0) := by
 intro a0 k
 obtain ⟨ih0, ih1⟩ := sigtext_pred.mono_l k
 unfold sigtext_pred.f
 repeat' first
   | (with_reducible exact ih0 _ _ _)
   | (with_reducible exact ih1 _ _ _ _ _)
   | (with_reducible exact sig_Name.mono _ _)
   | (with_reducible exact LeO.refl _)
   | (with_reducible exact LeO.none _)
   | (with_reducible refine LeO.ite ?_ ?_)
   | (with_reducible refine LeO.bind ?_ (fun _ => ?_))
   | exact ih0 _ _ _
   | exact ih1 _ _ _ _ _
   | exact sig_Name.mono _ _
   | exact LeO.none _
   | refine LeO.ite ?_ ?_
   | refine LeO.bind ?_ (fun _ => ?_)
set_option maxHeartbeats 8000000 in
set_option maxRecDepth 100000 in
theorem sigtext_pred.calls (k : Nat) (a0 : ByteArray) (r1 : ByteArray) (r2 : List Int) (r3 : Bool) (w : World) (h : sigtext_pred.f k a0 = some (r1,r2,r3)) (hg : Go.Proofs.YtmmfakdncjeoeacDoorAid.Glob w) :
  Calls Tryd.prog 17 #[.string a0] w fun e w' => ∃ v1_ : Value,e = .returned (.tuple #[.agg #[.string r1,v1_],.bool r3]) ∧ Kd.R (Kd.int .i64) 3 w' w.heap.size (fun _ => True) v1_ r2 ∧ Below w.heap.size w w':=by
 have hu41:=Tryd.underlying41
 have HB:=Aside0.mk (Below.refl w.heap.size w)
 have HG:=Aside0.mk hg
 clear hg
 have H : ((strings_Cut.f a0 (⟨#[40]⟩ : ByteArray)).bind fun bt106 => ((strings_CutSuffix.f bt106.2.1 (⟨#[41]⟩ : ByteArray)).bind fun bt109 => (if bt106.2.2 = true then (if bt109.2 = true then ((sig_Name.f k bt106.1).bind fun t112 => (sigtext_pred.j0 k bt109.1 (!t112) bt106.1)) else (sigtext_pred.j0 k bt109.1 true bt106.1)) else (sigtext_pred.j0 k bt109.1 true bt106.1)))) = some (r1,r2,r3):=h
 clear h
 replace H:=Option.bind_eq_some_iff.mp H
 obtain ⟨⟨t106,t107,t108⟩,A20,H⟩:=H
 replace H : ((strings_CutSuffix.f t107 (⟨#[41]⟩ : ByteArray)).bind fun bt109 => (if t108 = true then (if bt109.2 = true then ((sig_Name.f k t106).bind fun t112 => (sigtext_pred.j0 k bt109.1 (!t112) t106)) else (sigtext_pred.j0 k bt109.1 true t106)) else (sigtext_pred.j0 k bt109.1 true t106))) = some (r1,r2,r3):=H
 have A2:=Aside0.mk A20
 clear A20
 replace H:=Option.bind_eq_some_iff.mp H
 obtain ⟨⟨t109,t110⟩,A30,H⟩:=H
 replace H : (if t108 = true then (if t110 = true then ((sig_Name.f k t106).bind fun t112 => (sigtext_pred.j0 k t109 (!t112) t106)) else (sigtext_pred.j0 k t109 true t106)) else (sigtext_pred.j0 k t109 true t106)) = some (r1,r2,r3):=H
 have A3:=Aside0.mk A30
 clear A30
 have HC4:=Aside0.mk H
 clear H
 go_enter Tryd.func17,Tryd.ntmps17
 go_upto_region 4 with (first | ((with_reducible refine gate_dst (N:=2) rfl ?_);refine box_event ?hg (N:=2) ?hd (cs:=#[.string (⟨#[]⟩ : ByteArray),.slice none 0 0]) (t:=41) ?hr ?_;(case hd => rfl);(case hg => rfl);(case hr => first | (go_simp;done) | (go_simp;rfl));intro gb105 hg w5 hbox hb;have n0_:=Aside0.mk (below_step (by repeat (first | (with_reducible first | exact HB.out | apply below_alloc | apply pw_below_drewN | apply below_drew1) | exact HB.out)) hb);have n1_:=Aside0.mk (hbox);have n2_:=Aside0.mk ((by rw [hg];exact (below_size (by repeat (first | (with_reducible first | exact HB.out | apply below_alloc | apply pw_below_drewN | apply below_drew1) | exact HB.out))) : w.heap.size ≤ gb105));have n3_:=Aside0.mk ((by rw [hg];exact (below_size (by repeat (first | (with_reducible first | exact HB.out | apply below_alloc | apply pw_below_drewN | apply below_drew1) | exact HB.out))) : w.heap.size ≤ gb105));clear HB;have HB:=n0_;have BK105:=n1_;have GW105:=n2_;have GE105:=n3_;clear n0_ n1_ n2_ n3_;clear hb hbox hg) | ((with_reducible refine gate_callee (f:=16) rfl ?_);refine goesL_ (some 16) rfl rfl Tryd.func16 (by kernel_rfl) rfl #[.string a0,.string (⟨#[40]⟩ : ByteArray)] rfl (by (try simp only [List.map_toArray,List.map_cons,List.map_nil]);first | done | rfl | (simp only [List.length_drop,List.length_take];rfl)) ?_;(with_reducible refine (strings_Cut.callsG a0 (⟨#[40]⟩ : ByteArray) t106 t107 t108 _ A2.out (HG.out.below (by repeat (first | (with_reducible first | exact HB.out | apply below_alloc | apply pw_below_drewN | apply below_drew1 | refine below_set ?_ GE105.out | refine below_set ?_ GE111.out) | exact HB.out)))).mono ?_);rintro e w' ⟨rfl,⟨nd,rfl⟩⟩;refine ⟨_,rfl,?_⟩;(try (rw [drewN_self w5];generalize hq_ : World.drewN w5 _ = w5;have n0_ : Aside0 (w5.heap[gb105]? = some (.cells #[.string (⟨#[]⟩ : ByteArray),.slice none 0 0] 41 (0,0))):=⟨by rw [← hq_];exact (by (with_reducible repeat (first | refine blk_drewN ?_ _ | refine blk_drew ?_ | refine blk_alloc ?_ _));exact BK105.out)⟩;have n1_ : Aside0 (Below w.heap.size w w5):=⟨by rw [← hq_];exact (by repeat (first | (with_reducible first | exact HB.out | apply below_alloc | apply pw_below_drewN | apply below_drew1 | refine below_set ?_ GE105.out) | exact HB.out))⟩;clear BK105 HB hq_;have BK105:=n0_;have HB:=n1_;clear n0_ n1_))) | ((with_reducible refine gate_callee (f:=28) rfl ?_);refine goesL_ (some 22) rfl rfl Tryd.func28 (by kernel_rfl) rfl #[.string t107,.string (⟨#[41]⟩ : ByteArray)] rfl (by (try simp only [List.map_toArray,List.map_cons,List.map_nil]);first | done | rfl | (simp only [List.length_drop,List.length_take];rfl)) ?_;(with_reducible refine (strings_CutSuffix.calls t107 (⟨#[41]⟩ : ByteArray) t109 t110 _ A3.out).mono ?_);rintro e w' ⟨rfl,⟨nd,rfl⟩⟩;refine ⟨_,rfl,?_⟩;(try (rw [drewN_self w5];generalize hq_ : World.drewN w5 _ = w5;have n0_ : Aside0 (w5.heap[gb105]? = some (.cells #[.string (⟨#[]⟩ : ByteArray),.slice none 0 0] 41 (0,0))):=⟨by rw [← hq_];exact (by (with_reducible repeat (first | refine blk_drewN ?_ _ | refine blk_drew ?_ | refine blk_alloc ?_ _));exact BK105.out)⟩;have n1_ : Aside0 (Below w.heap.size w w5):=⟨by rw [← hq_];exact (by repeat (first | (with_reducible first | exact HB.out | apply below_alloc | apply pw_below_drewN | apply below_drew1 | refine below_set ?_ GE105.out) | exact HB.out))⟩;clear BK105 HB hq_;have BK105:=n0_;have HB:=n1_;clear n0_ n1_))) | ((with_reducible refine gate_dst (N:=9) rfl ?_);refine box_event ?hg (N:=9) ?hd (cs:=#[.string (⟨#[]⟩ : ByteArray),.slice none 0 0]) (t:=41) ?hr ?_;(case hd => rfl);(case hg => rfl);(case hr => first | (go_simp;done) | (go_simp;rfl));intro gb111 hg w6 hbox hb;have n0_:=Aside0.mk (blk_below (g:=gb105) (o:=.cells #[.string (⟨#[]⟩ : ByteArray),.slice none 0 0] 41 (0,0)) (by (with_reducible repeat (first | refine blk_drewN ?_ _ | refine blk_drew ?_ | refine blk_alloc ?_ _));exact BK105.out) hb);have n1_:=Aside0.mk (below_step (by repeat (first | (with_reducible first | exact HB.out | apply below_alloc | apply pw_below_drewN | apply below_drew1 | refine below_set ?_ GE105.out) | exact HB.out)) hb);have n2_:=Aside0.mk (hbox);have n3_:=Aside0.mk ((by rw [hg];exact (below_size (by repeat (first | (with_reducible first | exact HB.out | apply below_alloc | apply pw_below_drewN | apply below_drew1 | refine below_set ?_ GE105.out) | exact HB.out))) : w.heap.size ≤ gb111));have n4_:=Aside0.mk ((by rw [hg];exact (below_size (by repeat (first | (with_reducible first | exact HB.out | apply below_alloc | apply pw_below_drewN | apply below_drew1 | refine below_set ?_ GE105.out) | exact HB.out))) : w.heap.size ≤ gb111));have n5_:=Aside0.mk ((by rw [hg];exact Nat.ne_of_lt (blk_lt (g:=gb105) (o:=.cells #[.string (⟨#[]⟩ : ByteArray),.slice none 0 0] 41 (0,0)) (by (with_reducible repeat (first | refine blk_drewN ?_ _ | refine blk_drew ?_ | refine blk_alloc ?_ _));exact BK105.out)) : gb105 ≠ gb111));have n6_:=Aside0.mk ((by rw [hg];exact Nat.ne_of_gt (blk_lt (g:=gb105) (o:=.cells #[.string (⟨#[]⟩ : ByteArray),.slice none 0 0] 41 (0,0)) (by (with_reducible repeat (first | refine blk_drewN ?_ _ | refine blk_drew ?_ | refine blk_alloc ?_ _));exact BK105.out)) : gb111 ≠ gb105));clear BK105;clear HB;have BK105:=n0_;have HB:=n1_;have BK111:=n2_;have GW111:=n3_;have GE111:=n4_;have NB105_111:=n5_;have NB111_105:=n6_;clear n0_ n1_ n2_ n3_ n4_ n5_ n6_;clear hb hbox hg;have hnb7:=NB111_105.out;have hnc7:=NB105_111.out;have hcz8_0 : w6.cell? ⟨gb111,0,none⟩ = some (.string (⟨#[]⟩ : ByteArray)):=(blk_cell BK111.out 0).trans rfl;have hcz8_1 : w6.cell? ⟨gb111,1,none⟩ = some (.slice none 0 0):=(blk_cell BK111.out 1).trans rfl;have hfz8_0:=blk_frozen BK111.out 0;have hfz8_1:=blk_frozen BK111.out 1))
 (try simp only [Act.put,List.setIfInBounds_toArray,List.set_cons_zero,List.set_cons_succ])
 go_cut [37] (fun v37 wc => ∃ (kq : Nat) (x37_3 : Bool),v37 = .bool x37_3 ∧ Aside0 (sigtext_pred.j0 kq t109 x37_3 t106 = some (r1,r2,r3)) ∧ Aside0 (kq ≤ k) ∧ Aside0 (wc.heap[gb105]? = some (.cells #[.string (⟨#[]⟩ : ByteArray),(.slice none 0 0)] 41 (0,0))) ∧ Aside0 (wc.heap[gb111]? = some (.cells #[.string t106,(.slice none 0 0)] 41 (0,0))) ∧ Aside0 (Below w.heap.size w wc))
 case first =>
  have H:=HC4.out
  clear HC4
  by_cases c9 : t108 = true
  ·subst c9
   have H1 : (if t110 = true then ((sig_Name.f k t106).bind fun t112 => (sigtext_pred.j0 k t109 (!t112) t106)) else (sigtext_pred.j0 k t109 true t106)) = some (r1,r2,r3):=by rw [if_pos rfl] at H;exact H
   clear H
   have H:=H1
   clear H1
   by_cases c10 : t110 = true
   ·subst c10
    have H1 : ((sig_Name.f k t106).bind fun t112 => (sigtext_pred.j0 k t109 (!t112) t106)) = some (r1,r2,r3):=by rw [if_pos rfl] at H;exact H
    clear H
    have H:=H1
    clear H1
    replace H:=Option.bind_eq_some_iff.mp H
    obtain ⟨t112,A110,H⟩:=H
    replace H : (sigtext_pred.j0 k t109 (!t112) t106) = some (r1,r2,r3):=H
    have A11:=Aside0.mk A110
    clear A110
    have H':=Aside0.mk H
    clear H
    go_wp2_with (first | (go_at_call 29;(with_reducible refine (sig_Name.calls k t106 t112 _ A11.out).mono ?_);rintro e w' ⟨rfl,⟨nd,rfl⟩⟩))
    go_meet
    case rel => exact ⟨_,(!t112),(by first | rfl | (simp;done) | (simp [*];done)),H',⟨by first | omega | exact Nat.le_refl _⟩,⟨by (with_reducible repeat (first | refine blk_drewN ?_ _ | refine blk_drew ?_ | refine blk_alloc ?_ _));refine blk_far ?_ NB105_111.out _;(with_reducible repeat (first | refine blk_drewN ?_ _ | refine blk_drew ?_ | refine blk_alloc ?_ _));refine blk_far ?_ NB105_111.out _;(with_reducible repeat (first | refine blk_drewN ?_ _ | refine blk_drew ?_ | refine blk_alloc ?_ _));exact BK105.out⟩,⟨by (with_reducible repeat (first | refine blk_drewN ?_ _ | refine blk_drew ?_ | refine blk_alloc ?_ _));refine blk_put (cs:=#[.string t106,.slice none 0 0]) ?_ 1 _ rfl;(with_reducible repeat (first | refine blk_drewN ?_ _ | refine blk_drew ?_ | refine blk_alloc ?_ _));refine blk_put (cs:=#[.string (⟨#[]⟩ : ByteArray),.slice none 0 0]) ?_ 0 _ rfl;(with_reducible repeat (first | refine blk_drewN ?_ _ | refine blk_drew ?_ | refine blk_alloc ?_ _));exact BK111.out⟩,⟨by repeat (first | (with_reducible first | exact HB.out | apply below_alloc | apply pw_below_drewN | apply below_drew1 | refine below_set ?_ GE105.out | refine below_set ?_ GE111.out) | exact HB.out)⟩⟩
   ·replace c10:=Bool.eq_false_iff.mpr c10
    subst c10
    have H1 : (sigtext_pred.j0 k t109 true t106) = some (r1,r2,r3):=by rw [if_neg (show ¬ (false = true) by decide)] at H;exact H
    clear H
    have H:=H1
    clear H1
    have H':=Aside0.mk H
    clear H
    go_wp2
    go_meet
    case rel => exact ⟨_,(true),(by first | rfl | (simp;done) | (simp [*];done)),H',⟨by first | omega | exact Nat.le_refl _⟩,⟨by (with_reducible repeat (first | refine blk_drewN ?_ _ | refine blk_drew ?_ | refine blk_alloc ?_ _));refine blk_far ?_ NB105_111.out _;(with_reducible repeat (first | refine blk_drewN ?_ _ | refine blk_drew ?_ | refine blk_alloc ?_ _));refine blk_far ?_ NB105_111.out _;(with_reducible repeat (first | refine blk_drewN ?_ _ | refine blk_drew ?_ | refine blk_alloc ?_ _));exact BK105.out⟩,⟨by (with_reducible repeat (first | refine blk_drewN ?_ _ | refine blk_drew ?_ | refine blk_alloc ?_ _));refine blk_put (cs:=#[.string t106,.slice none 0 0]) ?_ 1 _ rfl;(with_reducible repeat (first | refine blk_drewN ?_ _ | refine blk_drew ?_ | refine blk_alloc ?_ _));refine blk_put (cs:=#[.string (⟨#[]⟩ : ByteArray),.slice none 0 0]) ?_ 0 _ rfl;(with_reducible repeat (first | refine blk_drewN ?_ _ | refine blk_drew ?_ | refine blk_alloc ?_ _));exact BK111.out⟩,⟨by repeat (first | (with_reducible first | exact HB.out | apply below_alloc | apply pw_below_drewN | apply below_drew1 | refine below_set ?_ GE105.out | refine below_set ?_ GE111.out) | exact HB.out)⟩⟩
  ·replace c9:=Bool.eq_false_iff.mpr c9
   subst c9
   have H1 : (sigtext_pred.j0 k t109 true t106) = some (r1,r2,r3):=by rw [if_neg (show ¬ (false = true) by decide)] at H;exact H
   clear H
   have H:=H1
   clear H1
   have H':=Aside0.mk H
   clear H
   go_wp2
   go_meet
   case rel => exact ⟨_,(true),(by first | rfl | (simp;done) | (simp [*];done)),H',⟨by first | omega | exact Nat.le_refl _⟩,⟨by (with_reducible repeat (first | refine blk_drewN ?_ _ | refine blk_drew ?_ | refine blk_alloc ?_ _));refine blk_far ?_ NB105_111.out _;(with_reducible repeat (first | refine blk_drewN ?_ _ | refine blk_drew ?_ | refine blk_alloc ?_ _));refine blk_far ?_ NB105_111.out _;(with_reducible repeat (first | refine blk_drewN ?_ _ | refine blk_drew ?_ | refine blk_alloc ?_ _));exact BK105.out⟩,⟨by (with_reducible repeat (first | refine blk_drewN ?_ _ | refine blk_drew ?_ | refine blk_alloc ?_ _));refine blk_put (cs:=#[.string t106,.slice none 0 0]) ?_ 1 _ rfl;(with_reducible repeat (first | refine blk_drewN ?_ _ | refine blk_drew ?_ | refine blk_alloc ?_ _));refine blk_put (cs:=#[.string (⟨#[]⟩ : ByteArray),.slice none 0 0]) ?_ 0 _ rfl;(with_reducible repeat (first | refine blk_drewN ?_ _ | refine blk_drew ?_ | refine blk_alloc ?_ _));exact BK111.out⟩,⟨by repeat (first | (with_reducible first | exact HB.out | apply below_alloc | apply pw_below_drewN | apply below_drew1 | refine below_set ?_ GE105.out | refine below_set ?_ GE111.out) | exact HB.out)⟩⟩
 case rest =>
  clear HC4
  try clear c1
  try clear c2
  try clear p2
  try clear c7
  try clear c9
  try clear c10
  try clear hcz8_0
  try clear hcz8_1
  try clear hfz8_0
  try clear hfz8_1
  obtain ⟨kq,x37_3,rfl,HA,HJ3,BK105,BK111,HB⟩:=hcut
  cases kq with
  | zero => exact absurd HA.out (by simp [sigtext_pred.j0])
  | succ kj3 =>
   have H:=HA.out
   clear HA
   simp only [sigtext_pred.j0] at H
   by_cases c12 : x37_3 = true
   ·subst c12
    have H1 : (some (t106,([] : List Int),false)) = some (r1,r2,r3):=by rw [if_pos rfl] at H;exact H
    clear H
    have H:=H1
    clear H1
    simp only [Option.some.injEq,Prod.mk.injEq] at H
    obtain ⟨rfl,rfl,rfl⟩:=H
    have hnb13:=NB111_105.out
    have hnc13:=NB105_111.out
    have hcz14_0 : wc.cell? ⟨gb111,0,none⟩ = some (.string t106):=(blk_cell BK111.out 0).trans rfl
    have hcz14_1 : wc.cell? ⟨gb111,1,none⟩ = some (.slice none 0 0):=(blk_cell BK111.out 1).trans rfl
    have hfz14_0:=blk_frozen BK111.out 0
    have hfz14_1:=blk_frozen BK111.out 1
    have hcz15_0 : wc.cell? ⟨gb105,0,none⟩ = some (.string (⟨#[]⟩ : ByteArray)):=(blk_cell BK105.out 0).trans rfl
    have hcz15_1 : wc.cell? ⟨gb105,1,none⟩ = some (.slice none 0 0):=(blk_cell BK105.out 1).trans rfl
    have hfz15_0:=blk_frozen BK105.out 0
    have hfz15_1:=blk_frozen BK105.out 1
    go_wp2
    refine bodyPost_ret (results_ct rfl _ _ gb105 41 #[.string t106,.slice none 0 0] (0,0) _ rfl (by (with_reducible repeat (first | refine blk_drewN ?_ _ | refine blk_drew ?_ | refine blk_alloc ?_ _));refine blk_put (cs:=#[.string t106,.slice none 0 0]) ?_ 1 _ rfl;(with_reducible repeat (first | refine blk_drewN ?_ _ | refine blk_drew ?_ | refine blk_alloc ?_ _));refine blk_put (cs:=#[.string (⟨#[]⟩ : ByteArray),.slice none 0 0]) ?_ 0 _ rfl;(with_reducible repeat (first | refine blk_drewN ?_ _ | refine blk_drew ?_ | refine blk_alloc ?_ _));exact BK105.out) Tryd.underlying41 rfl (by kernel_rfl)) rfl ?_
    exact ⟨_,by first | rfl | (simp [errW_none,errW_some] <;> rfl) | (simp [*,errW_none,errW_some] <;> rfl),by first | exact Kd.R_nil _ _ _ _ _ | exact Kd.N_nil _ _ _ _ _ | exact Kd.V_nil _ _ _ _ _ | exact Kd.Q_nil _ _ _ _ _ | exact Kd.S_nil _ _ _ _ _,by repeat (first | (with_reducible first | exact HB.out | apply below_alloc | apply pw_below_drewN | apply below_drew1 | refine below_set ?_ GE105.out | refine below_set ?_ GE111.out) | exact HB.out)⟩
   ·replace c12:=Bool.eq_false_iff.mpr c12
    subst c12
    have H1 : (if t109.toList = ([] : List UInt8) then (some (t106,([] : List Int),true)) else ((strings_Split.f t109 (⟨#[44]⟩ : ByteArray)).bind fun t113 => (sigtext_pred.l0 kj3 t113 (t113.length : Int) 0 t106 ([] : List Int)))) = some (r1,r2,r3):=by rw [if_neg (show ¬ (false = true) by decide)] at H;exact H
    clear H
    have H:=H1
    clear H1
    by_cases c16 : t109.toList = ([] : List UInt8)
    ·rw [if_pos c16] at H
     have c16b0 : (t109.toList == ([] : List UInt8)) = true:=beq_iff_eq.mpr c16
     have c16b1 : (t109.toList != ([] : List UInt8)) = false:=bne_eq_false_iff_eq.mpr c16
     clear c16
     simp only [Option.some.injEq,Prod.mk.injEq] at H
     obtain ⟨rfl,rfl,rfl⟩:=H
     have hnb17:=NB111_105.out
     have hnc17:=NB105_111.out
     have hcz18_0 : wc.cell? ⟨gb111,0,none⟩ = some (.string t106):=(blk_cell BK111.out 0).trans rfl
     have hcz18_1 : wc.cell? ⟨gb111,1,none⟩ = some (.slice none 0 0):=(blk_cell BK111.out 1).trans rfl
     have hfz18_0:=blk_frozen BK111.out 0
     have hfz18_1:=blk_frozen BK111.out 1
     have hcz19_0 : wc.cell? ⟨gb105,0,none⟩ = some (.string (⟨#[]⟩ : ByteArray)):=(blk_cell BK105.out 0).trans rfl
     have hcz19_1 : wc.cell? ⟨gb105,1,none⟩ = some (.slice none 0 0):=(blk_cell BK105.out 1).trans rfl
     have hfz19_0:=blk_frozen BK105.out 0
     have hfz19_1:=blk_frozen BK105.out 1
     go_wp2
     refine bodyPost_ret (results_ct rfl _ _ gb105 41 #[.string t106,.slice none 0 0] (0,0) _ rfl (by (with_reducible repeat (first | refine blk_drewN ?_ _ | refine blk_drew ?_ | refine blk_alloc ?_ _));refine blk_put (cs:=#[.string t106,.slice none 0 0]) ?_ 1 _ rfl;(with_reducible repeat (first | refine blk_drewN ?_ _ | refine blk_drew ?_ | refine blk_alloc ?_ _));refine blk_put (cs:=#[.string (⟨#[]⟩ : ByteArray),.slice none 0 0]) ?_ 0 _ rfl;(with_reducible repeat (first | refine blk_drewN ?_ _ | refine blk_drew ?_ | refine blk_alloc ?_ _));exact BK105.out) Tryd.underlying41 rfl (by kernel_rfl)) rfl ?_
     exact ⟨_,by first | rfl | (simp [errW_none,errW_some] <;> rfl) | (simp [*,errW_none,errW_some] <;> rfl),by first | exact Kd.R_nil _ _ _ _ _ | exact Kd.N_nil _ _ _ _ _ | exact Kd.V_nil _ _ _ _ _ | exact Kd.Q_nil _ _ _ _ _ | exact Kd.S_nil _ _ _ _ _,by repeat (first | (with_reducible first | exact HB.out | apply below_alloc | apply pw_below_drewN | apply below_drew1 | refine below_set ?_ GE105.out | refine below_set ?_ GE111.out) | exact HB.out)⟩
    ·rw [if_neg c16] at H
     have c16b0 : (t109.toList == ([] : List UInt8)) = false:=beq_eq_false_iff_ne.mpr c16
     have c16b1 : (t109.toList != ([] : List UInt8)) = true:=bne_iff_ne.mpr c16
     replace H:=Option.bind_eq_some_iff.mp H
     obtain ⟨t113,A200,H⟩:=H
     replace H : (sigtext_pred.l0 kj3 t113 (t113.length : Int) 0 t106 ([] : List Int)) = some (r1,r2,r3):=H
     have A20:=Aside0.mk A200
     clear A200
     have H':=Aside0.mk H
     clear H
     go_wp2_with (first | ((with_reducible refine gate_callee (f:=30) rfl ?_);refine goesL_ (some 43) rfl rfl Tryd.func30 (by kernel_rfl) rfl #[.string t109,.string (⟨#[44]⟩ : ByteArray)] rfl (by (try simp only [List.map_toArray,List.map_cons,List.map_nil]);first | done | rfl | (simp only [List.length_drop,List.length_take];rfl)) ?_;(with_reducible refine (strings_Split.callsG t109 (⟨#[44]⟩ : ByteArray) t113 _ A20.out (HG.out.below (by repeat (first | (with_reducible first | exact HB.out | apply below_alloc | apply pw_below_drewN | apply below_drew1 | refine below_set ?_ GE105.out | refine below_set ?_ GE111.out) | exact HB.out)))).mono ?_);rintro e w21 ⟨v114,rfl,ho0,hb⟩;refine ⟨_,rfl,?_⟩;have n0_:=Aside0.mk (Kd.R_lower ho0 (below_size (by repeat (first | (with_reducible first | exact HB.out | apply below_alloc | apply pw_below_drewN | apply below_drew1 | refine below_set ?_ GE105.out | refine below_set ?_ GE111.out) | exact HB.out))));have n1_:=Aside0.mk (blk_below (g:=gb105) (o:=.cells #[.string (⟨#[]⟩ : ByteArray),.slice none 0 0] 41 (0,0)) (by (with_reducible repeat (first | refine blk_drewN ?_ _ | refine blk_drew ?_ | refine blk_alloc ?_ _));exact BK105.out) hb);have n2_:=Aside0.mk (blk_below (g:=gb111) (o:=.cells #[.string t106,.slice none 0 0] 41 (0,0)) (by (with_reducible repeat (first | refine blk_drewN ?_ _ | refine blk_drew ?_ | refine blk_alloc ?_ _));exact BK111.out) hb);have n3_:=Aside0.mk (below_step (by repeat (first | (with_reducible first | exact HB.out | apply below_alloc | apply pw_below_drewN | apply below_drew1 | refine below_set ?_ GE105.out | refine below_set ?_ GE111.out) | exact HB.out)) hb);clear BK105;clear BK111;clear HB;have HO115:=n0_;have BK105:=n1_;have BK111:=n2_;have HB:=n3_;clear n0_ n1_ n2_ n3_;(try clear hb);(try clear hb2);(try clear hk);(try clear hi);(try clear ho0);obtain ⟨Ao22,co22,eo22⟩:=Kd.R_slice HO115.out;subst eo22))
     go_loopg [45] kj3 (fun kq v45 w' => ∃ (x45_2 : Int) (x106000_2 : ByteArray) (x112001_2 : List Int) (u112001 : Value),v45 = .int .i64 x45_2 ∧ Aside0 (sigtext_pred.l0 kq t113 (t113.length : Int) x45_2 t106 x112001_2 = some (r1,r2,r3)) ∧ Aside0 (kq ≤ kj3) ∧ Aside0 (Kd.R Kd.string 9 w' w.heap.size (fun _ => True) (.slice Ao22 t113.length co22) t113) ∧ Aside0 (Kd.R (Kd.int .i64) 3 w' w.heap.size (fun _ => True) u112001 x112001_2) ∧ Aside0 (w'.heap[gb105]? = some (.cells #[.string x106000_2,(.slice none 0 0)] 41 (0,0))) ∧ Aside0 (w'.heap[gb111]? = some (.cells #[.string t106,u112001] 41 (0,0))) ∧ Aside0 (Below w.heap.size w w'))
     case atStart => exact ⟨(0),((⟨#[]⟩ : ByteArray)),(([] : List Int)),(.slice none 0 0),(by first | rfl | (simp;done) | (simp [*];done)),H',⟨Nat.le_refl _⟩,⟨by (with_reducible repeat (first | apply Kd.R_alloc | apply Kd.R_drewN | apply Kd.R_drew));exact HO115.out⟩,⟨by first | exact Kd.R_nil _ _ _ _ _ | exact Kd.N_nil _ _ _ _ _ | exact Kd.V_nil _ _ _ _ _ | exact Kd.Q_nil _ _ _ _ _ | exact Kd.S_nil _ _ _ _ _⟩,⟨by (with_reducible repeat (first | refine blk_drewN ?_ _ | refine blk_drew ?_ | refine blk_alloc ?_ _));exact BK105.out⟩,⟨by (with_reducible repeat (first | refine blk_drewN ?_ _ | refine blk_drew ?_ | refine blk_alloc ?_ _));exact BK111.out⟩,⟨by repeat (first | (with_reducible first | exact HB.out | apply below_alloc | apply pw_below_drewN | apply below_drew1 | refine below_set ?_ GE105.out | refine below_set ?_ GE111.out) | exact HB.out)⟩⟩
     case round =>
      clear H'
      try clear c1
      try clear c2
      try clear p2
      try clear c3
      try clear c7
      try clear c9
      try clear c10
      try clear c12
      try clear c13
      try clear c16
      try clear c16b0
      try clear c16b1
      try clear c17
      try clear hcz14_0
      try clear hcz14_1
      try clear hcz15_0
      try clear hcz15_1
      try clear hcz18_0
      try clear hcz18_1
      try clear hcz19_0
      try clear hcz19_1
      try clear hcz8_0
      try clear hcz8_1
      try clear hfz14_0
      try clear hfz14_1
      try clear hfz15_0
      try clear hfz15_1
      try clear hfz18_0
      try clear hfz18_1
      try clear hfz19_0
      try clear hfz19_1
      try clear hfz8_0
      try clear hfz8_1
      try clear p2
      obtain ⟨x45_2,x106000_2,x112001_2,u112001,rfl,HA,HK2,HO_43,HO_112001,BK105,BK111,HB⟩:=hrel
      cases gk with
      | zero => exact absurd HA.out (by simp [sigtext_pred.l0])
      | succ k2 =>
       have H:=HA.out
       clear HA
       simp only [sigtext_pred.l0] at H
       by_cases c23 : x45_2 < (t113.length : Int)
       ·rw [if_pos c23] at H
        have c23b0 : decide (x45_2 < (t113.length : Int)) = true:=decide_eq_true c23
        clear c23
        by_cases c24 : 0 ≤ x45_2
        ·rw [if_pos c24] at H
         have c24b0 : decide (0 ≤ x45_2) = true:=decide_eq_true c24
         clear c24
         by_cases c25 : x45_2 < (t113.length : Int)
         ·rw [if_pos c25] at H
          have c25b0 : decide (x45_2 < (t113.length : Int)) = true:=decide_eq_true c25
          clear c25
          replace H:=Option.bind_eq_some_iff.mp H
          obtain ⟨⟨t117,t118⟩,A260,H⟩:=H
          replace H : (if t118 = true then (if x112001_2.length < 17592186044416 then (sigtext_pred.l0 k2 t113 (t113.length : Int) (wrap64 (x45_2 + 1)) t106 (x112001_2 ++ [t117])) else (none)) else (some (t106,x112001_2,false))) = some (r1,r2,r3):=H
          have A26:=Aside0.mk A260
          clear A260
          by_cases c27 : t118 = true
          ·subst c27
           have H1 : (if x112001_2.length < 17592186044416 then (sigtext_pred.l0 k2 t113 (t113.length : Int) (wrap64 (x45_2 + 1)) t106 (x112001_2 ++ [t117])) else (none)) = some (r1,r2,r3):=by rw [if_pos rfl] at H;exact H
           clear H
           have H:=H1
           clear H1
           by_cases c28 : x112001_2.length < 17592186044416
           ·rw [if_pos c28] at H
            have LMc28:=Aside0.mk c28
            clear c28
            obtain ⟨y119,hy119⟩ : ∃ y_ : List Int,y_ = (x112001_2 ++ [t117]):=⟨_,rfl⟩
            replace H : (sigtext_pred.l0 k2 t113 (t113.length : Int) (wrap64 (x45_2 + 1)) t106 y119) = some (r1,r2,r3):=by first | (rw [hy119];with_reducible exact H) | (have H2_:=(Option.bind_some _ _).symm.trans H;rw [hy119];with_reducible exact H2_) | (have H2_:=(Option.bind_some _ _).symm.trans H;with_reducible exact H2_) | with_reducible exact H | (rw [hy119];exact H) | exact H
            have Ny119:=Aside0.mk hy119
            clear hy119
            have H':=Aside0.mk H
            clear H
            have p116 : 0 ≤ (x45_2 : Int):=of_decide_eq_true (by first | (with_reducible assumption) | assumption)
            have q116 : x45_2 < (t113.length : Int):=of_decide_eq_true (by first | (with_reducible assumption) | assumption)
            obtain ⟨ad116,e116,hx116_0⟩:=Kd.at_string (Kd.R_reads' HO_43.out).2.2 x45_2 p116 q116
            cases e116
            replace p116:=eq_true p116
            replace q116:=eq_true q116
            obtain ⟨bm_,hbc_,hbl_⟩:=Go.Proofs.YtmmfakdncjeoeacDoorAid.words_look (HG.out.below (show Below w.heap.size w wr from by repeat (first | (with_reducible first | exact HB.out | apply below_alloc | apply pw_below_drewN | apply below_drew1 | refine below_set ?_ GE105.out | refine below_set ?_ GE111.out) | exact HB.out))).2
            have hbx_:=Go.Proofs.YtmmfakdncjeoeacDoorAid.words_at hbl_ A26.out
            have hnb29:=NB111_105.out
            have hnc29:=NB105_111.out
            have hcz30_0 : wr.cell? ⟨gb111,0,none⟩ = some (.string t106):=(blk_cell BK111.out 0).trans rfl
            have hcz30_1 : wr.cell? ⟨gb111,1,none⟩ = some (u112001):=(blk_cell BK111.out 1).trans rfl
            have hfz30_0:=blk_frozen BK111.out 0
            have hfz30_1:=blk_frozen BK111.out 1
            go_wp2_with (first | ((with_reducible refine gate_builtin (b:=.append) (xs:=#[.tmp 59,.tmp 61]) rfl ?_);at_builtin;refine Kd.R_append (Kd.int .i64) (w0:=w) w.heap.size rfl (.tmp 59) (.tmp 61) 39 3 (.int .i64 0) 8 rfl Tryd.underlying39 info3 rfl (by decide) (by omega) u112001 x112001_2 t117 [.int .i64 t117] (fun _ => True) (fun _ => False) rfl rfl ?aP (fun _ hk => hk.elim) ?aF ?aO ?aB ?aS ?aL ?_;(case aP => exact rfl);(case aB => exact (by repeat (first | (with_reducible first | exact HB.out | apply below_alloc | apply pw_below_drewN | apply below_drew1 | refine below_set ?_ GE105.out | refine below_set ?_ GE111.out) | exact HB.out)));(case aF => exact (fun _ _ => trivial));(case aO => exact (by (with_reducible repeat (first | apply Kd.R_alloc | apply Kd.R_drewN | apply Kd.R_drew));exact HO_112001.out));(case aS => exact (below_size (by repeat (first | (with_reducible first | exact HB.out | apply below_alloc | apply pw_below_drewN | apply below_drew1 | refine below_set ?_ GE105.out | refine below_set ?_ GE111.out) | exact HB.out))));(case aL => have:=LMc28.out;omega);intro v120 w31 ho hb hg hat;rw [← Ny119.out] at ho;have n0_:=Aside0.mk (Kd.R_over' (by (with_reducible repeat (first | apply Kd.R_alloc | apply Kd.R_drewN | apply Kd.R_drew));exact HO_43.out) (Kd.R_typed (by (with_reducible repeat (first | apply Kd.R_alloc | apply Kd.R_drewN | apply Kd.R_drew));exact HO_112001.out)) (by decide) hg);have n1_:=Aside0.mk (blk_grown (g:=gb105) (o:=.cells #[.string x106000_2,.slice none 0 0] 41 (0,0)) (by (with_reducible repeat (first | refine blk_drewN ?_ _ | refine blk_drew ?_ | refine blk_alloc ?_ _));exact BK105.out) hg (Kd.R_ne HO_112001.out BK105.out (by decide)));have n2_:=Aside0.mk (blk_grown (g:=gb111) (o:=.cells #[.string t106,u112001] 41 (0,0)) (by (with_reducible repeat (first | refine blk_drewN ?_ _ | refine blk_drew ?_ | refine blk_alloc ?_ _));exact BK111.out) hg (Kd.R_ne HO_112001.out BK111.out (by decide)));have n3_:=Aside0.mk (hb);have n4_:=Aside0.mk (ho);clear HO_43;clear BK105;clear BK111;clear HB;clear HO_112001;have HO_43:=n0_;have BK105:=n1_;have BK111:=n2_;have HB:=n3_;have HO121:=n4_;clear n0_ n1_ n2_ n3_ n4_;clear ho hb hg hat;obtain ⟨Ao32,co32,eo32⟩:=Kd.R_slice HO121.out;subst eo32;have hcz33_0 : w31.cell? ⟨gb111,0,none⟩ = some (.string t106):=(blk_cell BK111.out 0).trans rfl;have hcz33_1 : w31.cell? ⟨gb111,1,none⟩ = some (u112001):=(blk_cell BK111.out 1).trans rfl;have hfz33_0:=blk_frozen BK111.out 0;have hfz33_1:=blk_frozen BK111.out 1))
            go_roundg k2
            case measure => have:=HJ3.out;have:=HK2.out;omega
            case rel => exact ⟨(wrap64 (x45_2 + 1)),(x106000_2),(y119),(.slice Ao32 y119.length co32),(by first | rfl | (simp;done) | (simp [*];done)),H',⟨by have:=HJ3.out;have:=HK2.out;omega⟩,⟨by (with_reducible repeat (first | apply Kd.R_alloc | apply Kd.R_drewN | apply Kd.R_drew));exact Kd.R_mono (Kd.R_far (p:=⟨gb111,1,none⟩) (Kd.R_types HO_43.out BK111.out (by decide)) (fun _ hk => hk.2) (.slice Ao32 y119.length co32)) (fun _ hk => trivial)⟩,⟨by (with_reducible repeat (first | apply Kd.R_alloc | apply Kd.R_drewN | apply Kd.R_drew));exact Kd.R_mono (Kd.R_far (p:=⟨gb111,1,none⟩) (Kd.R_types HO121.out BK111.out (by decide)) (fun _ hk => hk.2) (.slice Ao32 y119.length co32)) (fun _ hk => trivial)⟩,⟨by (with_reducible repeat (first | refine blk_drewN ?_ _ | refine blk_drew ?_ | refine blk_alloc ?_ _));refine blk_far ?_ NB105_111.out _;(with_reducible repeat (first | refine blk_drewN ?_ _ | refine blk_drew ?_ | refine blk_alloc ?_ _));exact BK105.out⟩,⟨by (with_reducible repeat (first | refine blk_drewN ?_ _ | refine blk_drew ?_ | refine blk_alloc ?_ _));refine blk_put (cs:=#[.string t106,u112001]) ?_ 1 _ rfl;(with_reducible repeat (first | refine blk_drewN ?_ _ | refine blk_drew ?_ | refine blk_alloc ?_ _));exact BK111.out⟩,⟨by repeat (first | (with_reducible first | exact HB.out | apply below_alloc | apply pw_below_drewN | apply below_drew1 | refine below_set ?_ GE105.out | refine below_set ?_ GE111.out) | exact HB.out)⟩⟩
           ·rw [if_neg c28] at H
            exact absurd H (by simp)
          ·replace c27:=Bool.eq_false_iff.mpr c27
           subst c27
           have H1 : (some (t106,x112001_2,false)) = some (r1,r2,r3):=by rw [if_neg (show ¬ (false = true) by decide)] at H;exact H
           clear H
           have H:=H1
           clear H1
           simp only [Option.some.injEq,Prod.mk.injEq] at H
           obtain ⟨rfl,rfl,rfl⟩:=H
           have p116 : 0 ≤ (x45_2 : Int):=of_decide_eq_true (by first | (with_reducible assumption) | assumption)
           have q116 : x45_2 < (t113.length : Int):=of_decide_eq_true (by first | (with_reducible assumption) | assumption)
           obtain ⟨ad116,e116,hx116_0⟩:=Kd.at_string (Kd.R_reads' HO_43.out).2.2 x45_2 p116 q116
           cases e116
           replace p116:=eq_true p116
           replace q116:=eq_true q116
           obtain ⟨bm_,hbc_,hbl_⟩:=Go.Proofs.YtmmfakdncjeoeacDoorAid.words_look (HG.out.below (show Below w.heap.size w wr from by repeat (first | (with_reducible first | exact HB.out | apply below_alloc | apply pw_below_drewN | apply below_drew1 | refine below_set ?_ GE105.out | refine below_set ?_ GE111.out) | exact HB.out))).2
           have hbx_:=Go.Proofs.YtmmfakdncjeoeacDoorAid.words_at hbl_ A26.out
           have hnb34:=NB111_105.out
           have hnc34:=NB105_111.out
           have hcz35_0 : wr.cell? ⟨gb111,0,none⟩ = some (.string t106):=(blk_cell BK111.out 0).trans rfl
           have hcz35_1 : wr.cell? ⟨gb111,1,none⟩ = some (u112001):=(blk_cell BK111.out 1).trans rfl
           have hfz35_0:=blk_frozen BK111.out 0
           have hfz35_1:=blk_frozen BK111.out 1
           have hcz36_0 : wr.cell? ⟨gb105,0,none⟩ = some (.string x106000_2):=(blk_cell BK105.out 0).trans rfl
           have hcz36_1 : wr.cell? ⟨gb105,1,none⟩ = some (.slice none 0 0):=(blk_cell BK105.out 1).trans rfl
           have hfz36_0:=blk_frozen BK105.out 0
           have hfz36_1:=blk_frozen BK105.out 1
           obtain ⟨Ao37,co37,eo37⟩:=Kd.R_slice HO_112001.out
           subst eo37
           go_wp2_with (first | (with_reducible refine gate_dst (N:=771177) rfl ?_))
           refine bodyPost_ret (results_ct rfl _ _ gb105 41 #[.string t106,.slice Ao37 x112001_2.length co37] (0,0) _ rfl (by (with_reducible repeat (first | refine blk_drewN ?_ _ | refine blk_drew ?_ | refine blk_alloc ?_ _));refine blk_put (cs:=#[.string t106,.slice none 0 0]) ?_ 1 _ rfl;(with_reducible repeat (first | refine blk_drewN ?_ _ | refine blk_drew ?_ | refine blk_alloc ?_ _));refine blk_put (cs:=#[.string x106000_2,.slice none 0 0]) ?_ 0 _ rfl;(with_reducible repeat (first | refine blk_drewN ?_ _ | refine blk_drew ?_ | refine blk_alloc ?_ _));exact BK105.out) Tryd.underlying41 rfl (by kernel_rfl)) rfl ?_
           exact ⟨_,by first | rfl | (simp [errW_none,errW_some] <;> rfl) | (simp [*,errW_none,errW_some] <;> rfl),by (with_reducible repeat (first | apply Kd.R_alloc | apply Kd.R_drewN | apply Kd.R_drew));exact Kd.R_mono (Kd.R_far (p:=⟨gb105,1,none⟩) (Kd.R_far (p:=⟨gb105,0,none⟩) (Kd.R_types HO_112001.out BK105.out (by decide)) (fun _ hk => hk.2) (.string t106)) (fun _ hk => hk.2) (.slice Ao37 x112001_2.length co37)) (fun _ hk => trivial),by repeat (first | (with_reducible first | exact HB.out | apply below_alloc | apply pw_below_drewN | apply below_drew1 | refine below_set ?_ GE105.out | refine below_set ?_ GE111.out) | exact HB.out)⟩
         ·rw [if_neg c25] at H
          exact absurd H (by simp)
        ·rw [if_neg c24] at H
         exact absurd H (by simp)
       ·rw [if_neg c23] at H
        have c23b0 : decide (x45_2 < (t113.length : Int)) = false:=decide_eq_false c23
        clear c23
        simp only [Option.some.injEq,Prod.mk.injEq] at H
        obtain ⟨rfl,rfl,rfl⟩:=H
        have hnb38:=NB111_105.out
        have hnc38:=NB105_111.out
        have hcz39_0 : wr.cell? ⟨gb111,0,none⟩ = some (.string t106):=(blk_cell BK111.out 0).trans rfl
        have hcz39_1 : wr.cell? ⟨gb111,1,none⟩ = some (u112001):=(blk_cell BK111.out 1).trans rfl
        have hfz39_0:=blk_frozen BK111.out 0
        have hfz39_1:=blk_frozen BK111.out 1
        have hcz40_0 : wr.cell? ⟨gb105,0,none⟩ = some (.string x106000_2):=(blk_cell BK105.out 0).trans rfl
        have hcz40_1 : wr.cell? ⟨gb105,1,none⟩ = some (.slice none 0 0):=(blk_cell BK105.out 1).trans rfl
        have hfz40_0:=blk_frozen BK105.out 0
        have hfz40_1:=blk_frozen BK105.out 1
        obtain ⟨Ao41,co41,eo41⟩:=Kd.R_slice HO_112001.out
        subst eo41
        go_wp2
        refine bodyPost_ret (results_ct rfl _ _ gb105 41 #[.string t106,.slice Ao41 x112001_2.length co41] (0,0) _ rfl (by (with_reducible repeat (first | refine blk_drewN ?_ _ | refine blk_drew ?_ | refine blk_alloc ?_ _));refine blk_put (cs:=#[.string t106,.slice none 0 0]) ?_ 1 _ rfl;(with_reducible repeat (first | refine blk_drewN ?_ _ | refine blk_drew ?_ | refine blk_alloc ?_ _));refine blk_put (cs:=#[.string x106000_2,.slice none 0 0]) ?_ 0 _ rfl;(with_reducible repeat (first | refine blk_drewN ?_ _ | refine blk_drew ?_ | refine blk_alloc ?_ _));exact BK105.out) Tryd.underlying41 rfl (by kernel_rfl)) rfl ?_
        exact ⟨_,by first | rfl | (simp [errW_none,errW_some] <;> rfl) | (simp [*,errW_none,errW_some] <;> rfl),by (with_reducible repeat (first | apply Kd.R_alloc | apply Kd.R_drewN | apply Kd.R_drew));exact Kd.R_mono (Kd.R_far (p:=⟨gb105,1,none⟩) (Kd.R_far (p:=⟨gb105,0,none⟩) (Kd.R_types HO_112001.out BK105.out (by decide)) (fun _ hk => hk.2) (.string t106)) (fun _ hk => hk.2) (.slice Ao41 x112001_2.length co41)) (fun _ hk => trivial),by repeat (first | (with_reducible first | exact HB.out | apply below_alloc | apply pw_below_drewN | apply below_drew1 | refine below_set ?_ GE105.out | refine below_set ?_ GE111.out) | exact HB.out)⟩

end Go.Proofs.YtmmfakdncjeoeacDoor.PE
