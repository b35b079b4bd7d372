-- Contracts of Go functions, each with its plain Lean function: written by wip/tools/myprint.py of this work (the kit's print, with contracts proved by hand spliced in).
import Derived.Test.YtjfklfmfeghjnaaPAx0
import Derived.Test.YtjfklfmfeghjnaaPAx8
import Derived.Test.YtjfklfmfeghjnaaPAx9
import Derived.Test.YtjfklfmfeghjnaaPAx10
import Derived.Test.YtjfklfmfeghjnaaPAx11
namespace Go.Proofs.Ytjfklfmfeghjnaa.PA
open Go.RowKit Go.Proofs.YtjfklfmfeghjnaaW.PrintWords Go.Proofs.YtjfklfmfeghjnaaW.PrintLast Go.Proofs.YtjfklfmfeghjnaaW.PrintMore
attribute [local go_sem] max2_int min2_int max_two min_two max_three min_three max_four min_four   -- for this text's walks alone
set_option linter.unusedVariables false
set_option linter.unusedSimpArgs false

/-! ### tachographlaw03_CursorPlays: function 10 -/
mutual
def tachographlaw03_CursorPlays.j0 : Nat → List Int → List (S61) → Bool → Option (Bool)
 | 0, _, _, _ => none
 | k + 1, x0, x1, x29 => if x29 = true then ((tachographlaw03_fixed.f k).bind fun t272 => (some t272)) else ((some (([] : List Int) : List Int)).bind fun y273 => (if y273.length + x0.length < 140737488355328 then ((some (y273 ++ x0 : List Int)).bind fun y276 => ((cursor_New.f y276).bind fun bt279 => (tachographlaw03_CursorPlays.l0 k x1 y276 (y276.length : Int) 0 bt279.1 bt279.2.1 bt279.2.2 (strOfNums x0) 0 0))) else (none)))
def tachographlaw03_CursorPlays.l0 : Nat → List (S61) → List Int → Int → Int → ByteArray → Int → Int → ByteArray → Int → Int → Option (Bool)
 | 0, _, _, _, _, _, _, _, _, _, _ => none
 | k + 1, x1, x5, x42, x43, x283000, x283001, x283002, x284000, x284001, x284002 => if x43 < x42 then (if 0 ≤ x43 then (if x43 < (x5.length : Int) then (tachographlaw03_CursorPlays.l0 k x1 (x5.set (x43 : Int).toNat (((rd x5 x43) + 1) % 256)) x42 (wrap64 (x43 + 1)) x283000 x283001 x283002 x284000 x284001 x284002) else (none)) else (none)) else (tachographlaw03_CursorPlays.l1 k x1 (x1.length : Int) 0 x283000 x283001 x283002 x284000 x284001 x284002)
def tachographlaw03_CursorPlays.l1 : Nat → List (S61) → Int → Int → ByteArray → Int → Int → ByteArray → Int → Int → Option (Bool)
 | 0, _, _, _, _, _, _, _, _, _ => none
 | k + 1, x53, x54, x55, x283000, x283001, x283002, x284000, x284001, x284002 => if x55 < x54 then (if 0 ≤ x55 then (if x55 < (x53.length : Int) then (if ((rd_T61 x53 x55).f0) = 0 then ((tachographref03_Cursor_Byte.f x284000 x284001 x284002).bind fun bt289 => ((cursor_Cursor_Byte.f x283000 x283001 x283002).bind fun bt294 => (tachographlaw03_CursorPlays.j3 k (bt294.1 == bt289.2.2.2) x53 x54 x55 bt294.2.1 bt294.2.2.1 bt294.2.2.2 bt289.1 bt289.2.1 bt289.2.2.1))) else (if ((rd_T61 x53 x55).f0) = 1 then ((tachographref03_Cursor_Number.f k x284000 x284001 x284002 (IntKind.u64.wrap ((rd_T61 x53 x55).f1))).bind fun bt298 => ((cursor_Cursor_Number.f k x283000 x283001 x283002 (IntKind.u64.wrap ((rd_T61 x53 x55).f1))).bind fun bt303 => (tachographlaw03_CursorPlays.j3 k (bt303.1 == bt298.2.2.2) x53 x54 x55 bt303.2.1 bt303.2.2.1 bt303.2.2.2 bt298.1 bt298.2.1 bt298.2.2.1))) else (if ((rd_T61 x53 x55).f0) = 2 then ((tachographref03_Cursor_Signed.f k x284000 x284001 x284002).bind fun bt307 => ((cursor_Cursor_Signed.f k x283000 x283001 x283002).bind fun bt312 => (tachographlaw03_CursorPlays.j3 k (bt312.1 == bt307.2.2.2) x53 x54 x55 bt312.2.1 bt312.2.2.1 bt312.2.2.2 bt307.1 bt307.2.1 bt307.2.2.1))) else (if ((rd_T61 x53 x55).f0) = 3 then ((tachographref03_Cursor_Text.f k x284000 x284001 x284002 ((rd_T61 x53 x55).f1)).bind fun bt316 => ((cursor_Cursor_Text.f k x283000 x283001 x283002 ((rd_T61 x53 x55).f1)).bind fun bt321 => (tachographlaw03_CursorPlays.j3 k (bt321.1.toList == bt316.2.2.2.toList) x53 x54 x55 bt321.2.1 bt321.2.2.1 bt321.2.2.2 bt316.1 bt316.2.1 bt316.2.2.1))) else (if ((rd_T61 x53 x55).f0) = 4 then ((tachographref03_Cursor_Done.f x284000 x284001 x284002).bind fun bt325 => ((cursor_Cursor_Done.f x283000 x283001 x283002).bind fun bt330 => (tachographlaw03_CursorPlays.j3 k (bt330.1 == bt325.2.2.2) x53 x54 x55 bt330.2.1 bt330.2.2.1 bt330.2.2.2 bt325.1 bt325.2.1 bt325.2.2.1))) else (if ((rd_T61 x53 x55).f0) = 5 then ((cursor_Cursor_Stop.f x283000 x283001 x283002 ((rd_T61 x53 x55).f1)).bind fun bt334 => ((tachographref03_Cursor_Stop.f x284000 x284001 x284002 ((rd_T61 x53 x55).f1)).bind fun bt337 => (tachographlaw03_CursorPlays.j3 k true x53 x54 x55 bt334.1 bt334.2.1 bt334.2.2 bt337.1 bt337.2.1 bt337.2.2))) else (tachographlaw03_CursorPlays.j3 k true x53 x54 x55 x283000 x283001 x283002 x284000 x284001 x284002))))))) else (none)) else (none)) else ((tachographlaw03_fixed.f k).bind fun t286 => (some t286))
def tachographlaw03_CursorPlays.j3 : Nat → Bool → List (S61) → Int → Int → ByteArray → Int → Int → ByteArray → Int → Int → Option (Bool)
 | 0, _, _, _, _, _, _, _, _, _, _ => none
 | k + 1, x11, x53, x54, x55, x283000, x283001, x283002, x284000, x284001, x284002 => if x11 = true then ((cursor_Cursor_At.f x283000 x283001 x283002).bind fun bt340 => (if bt340.1 = x284001 then ((cursor_Cursor_Left.f bt340.2.1 bt340.2.2.1 bt340.2.2.2).bind fun bt344 => (if bt344.1 = (x284000.size : Int) then ((cursor_Cursor_Err.f bt344.2.1 bt344.2.2.1 bt344.2.2.2).bind fun bt348 => (if bt348.1 = x284002 then (tachographlaw03_CursorPlays.l1 k x53 x54 (wrap64 (x55 + 1)) bt348.2.1 bt348.2.2.1 bt348.2.2.2 x284000 x284001 x284002) else (some false))) else (some false))) else (some false))) else (some false)
end
def tachographlaw03_CursorPlays.f (k : Nat) (l0 : List Int) (l1 : List (S61)) : Option (Bool) := if (l0.length : Int) > 300 then (tachographlaw03_CursorPlays.j0 k l0 l1 true) else (tachographlaw03_CursorPlays.j0 k l0 l1 (decide ((l1.length : Int) > 60)))
theorem tachographlaw03_CursorPlays.mono_l : ∀ k, (∀ y0 y1 y2, LeO (tachographlaw03_CursorPlays.j0 k y0 y1 y2) (tachographlaw03_CursorPlays.j0 (k + 1) y0 y1 y2)) ∧ (∀ y0 y1 y2 y3 y4 y5 y6 y7 y8 y9, LeO (tachographlaw03_CursorPlays.l0 k y0 y1 y2 y3 y4 y5 y6 y7 y8 y9) (tachographlaw03_CursorPlays.l0 (k + 1) y0 y1 y2 y3 y4 y5 y6 y7 y8 y9)) ∧ (∀ y0 y1 y2 y3 y4 y5 y6 y7 y8, LeO (tachographlaw03_CursorPlays.l1 k y0 y1 y2 y3 y4 y5 y6 y7 y8) (tachographlaw03_CursorPlays.l1 (k + 1) y0 y1 y2 y3 y4 y5 y6 y7 y8)) ∧ (∀ y0 y1 y2 y3 y4 y5 y6 y7 y8 y9, LeO (tachographlaw03_CursorPlays.j3 k y0 y1 y2 y3 y4 y5 y6 y7 y8 y9) (tachographlaw03_CursorPlays.j3 (k + 1) y0 y1 y2 y3 y4 y5 y6 y7 y8 y9))
 | 0 => ⟨fun _ _ _ r h => by simp [tachographlaw03_CursorPlays.j0] at h, fun _ _ _ _ _ _ _ _ _ _ r h => by simp [tachographlaw03_CursorPlays.l0] at h, fun _ _ _ _ _ _ _ _ _ r h => by simp [tachographlaw03_CursorPlays.l1] at h, fun _ _ _ _ _ _ _ _ _ _ r h => by simp [tachographlaw03_CursorPlays.j3] at h⟩
 | k + 1 => by
  obtain ⟨ih0, ih1, ih2, ih3⟩ := tachographlaw03_CursorPlays.mono_l k
  refine ⟨?_, ?_, ?_, ?_⟩
  ·intro y0 y1 y2
   unfold tachographlaw03_CursorPlays.j0
   repeat' first
   | (with_reducible exact ih0 _ _ _)
   | (with_reducible exact ih1 _ _ _ _ _ _ _ _ _ _)
   | (with_reducible exact ih2 _ _ _ _ _ _ _ _ _)
   | (with_reducible exact ih3 _ _ _ _ _ _ _ _ _ _)
   | (with_reducible exact cursor_Cursor_Number.mono _ _ _ _ _)
   | (with_reducible exact cursor_Cursor_Signed.mono _ _ _ _)
   | (with_reducible exact cursor_Cursor_Text.mono _ _ _ _ _)
   | (with_reducible exact tachographlaw03_fixed.mono _)
   | (with_reducible exact tachographref03_Cursor_Number.mono _ _ _ _ _)
   | (with_reducible exact tachographref03_Cursor_Signed.mono _ _ _ _)
   | (with_reducible exact tachographref03_Cursor_Text.mono _ _ _ _ _)
   | (with_reducible exact LeO.refl _)
   | (with_reducible exact LeO.none _)
   | (with_reducible refine LeO.ite ?_ ?_)
   | (with_reducible refine LeO.bind ?_ (fun _ => ?_))
   | exact ih0 _ _ _
   | exact ih1 _ _ _ _ _ _ _ _ _ _
   | exact ih2 _ _ _ _ _ _ _ _ _
   | exact ih3 _ _ _ _ _ _ _ _ _ _
   | exact cursor_Cursor_Number.mono _ _ _ _ _
   | exact cursor_Cursor_Signed.mono _ _ _ _
   | exact cursor_Cursor_Text.mono _ _ _ _ _
   | exact tachographlaw03_fixed.mono _
   | exact tachographref03_Cursor_Number.mono _ _ _ _ _
   | exact tachographref03_Cursor_Signed.mono _ _ _ _
   | exact tachographref03_Cursor_Text.mono _ _ _ _ _
   | exact LeO.none _
   | refine LeO.ite ?_ ?_
   | refine LeO.bind ?_ (fun _ => ?_)
  ·intro y0 y1 y2 y3 y4 y5 y6 y7 y8 y9
   unfold tachographlaw03_CursorPlays.l0
   repeat' first
   | (with_reducible exact ih0 _ _ _)
   | (with_reducible exact ih1 _ _ _ _ _ _ _ _ _ _)
   | (with_reducible exact ih2 _ _ _ _ _ _ _ _ _)
   | (with_reducible exact ih3 _ _ _ _ _ _ _ _ _ _)
   | (with_reducible exact cursor_Cursor_Number.mono _ _ _ _ _)
   | (with_reducible exact cursor_Cursor_Signed.mono _ _ _ _)
   | (with_reducible exact cursor_Cursor_Text.mono _ _ _ _ _)
   | (with_reducible exact tachographlaw03_fixed.mono _)
   | (with_reducible exact tachographref03_Cursor_Number.mono _ _ _ _ _)
   | (with_reducible exact tachographref03_Cursor_Signed.mono _ _ _ _)
   | (with_reducible exact tachographref03_Cursor_Text.mono _ _ _ _ _)
   | (with_reducible exact LeO.refl _)
   | (with_reducible exact LeO.none _)
   | (with_reducible refine LeO.ite ?_ ?_)
   | (with_reducible refine LeO.bind ?_ (fun _ => ?_))
   | exact ih0 _ _ _
   | exact ih1 _ _ _ _ _ _ _ _ _ _
   | exact ih2 _ _ _ _ _ _ _ _ _
   | exact ih3 _ _ _ _ _ _ _ _ _ _
   | exact cursor_Cursor_Number.mono _ _ _ _ _
   | exact cursor_Cursor_Signed.mono _ _ _ _
   | exact cursor_Cursor_Text.mono _ _ _ _ _
   | exact tachographlaw03_fixed.mono _
   | exact tachographref03_Cursor_Number.mono _ _ _ _ _
   | exact tachographref03_Cursor_Signed.mono _ _ _ _
   | exact tachographref03_Cursor_Text.mono _ _ _ _ _
   | exact LeO.none _
   | refine LeO.ite ?_ ?_
   | refine LeO.bind ?_ (fun _ => ?_)
  ·intro y0 y1 y2 y3 y4 y5 y6 y7 y8
   unfold tachographlaw03_CursorPlays.l1
   repeat' first
   | (with_reducible exact ih0 _ _ _)
   | (with_reducible exact ih1 _ _ _ _ _ _ _ _ _ _)
   | (with_reducible exact ih2 _ _ _ _ _ _ _ _ _)
   | (with_reducible exact ih3 _ _ _ _ _ _ _ _ _ _)
   | (with_reducible exact cursor_Cursor_Number.mono _ _ _ _ _)
   | (with_reducible exact cursor_Cursor_Signed.mono _ _ _ _)
   | (with_reducible exact cursor_Cursor_Text.mono _ _ _ _ _)
   | (with_reducible exact tachographlaw03_fixed.mono _)
   | (with_reducible exact tachographref03_Cursor_Number.mono _ _ _ _ _)
   | (with_reducible exact tachographref03_Cursor_Signed.mono _ _ _ _)
   | (with_reducible exact tachographref03_Cursor_Text.mono _ _ _ _ _)
   | (with_reducible exact LeO.refl _)
   | (with_reducible exact LeO.none _)
   | (with_reducible refine LeO.ite ?_ ?_)
   | (with_reducible refine LeO.bind ?_ (fun _ => ?_))
   | exact ih0 _ _ _
   | exact ih1 _ _ _ _ _ _ _ _ _ _
   | exact ih2 _ _ _ _ _ _ _ _ _
   | exact ih3 _ _ _ _ _ _ _ _ _ _
   | exact cursor_Cursor_Number.mono _ _ _ _ _
   | exact cursor_Cursor_Signed.mono _ _ _ _
   | exact cursor_Cursor_Text.mono _ _ _ _ _
   | exact tachographlaw03_fixed.mono _
   | exact tachographref03_Cursor_Number.mono _ _ _ _ _
   | exact tachographref03_Cursor_Signed.mono _ _ _ _
   | exact tachographref03_Cursor_Text.mono _ _ _ _ _
   | exact LeO.none _
   | refine LeO.ite ?_ ?_
   | refine LeO.bind ?_ (fun _ => ?_)
  ·intro y0 y1 y2 y3 y4 y5 y6 y7 y8 y9
   unfold tachographlaw03_CursorPlays.j3
   repeat' first
   | (with_reducible exact ih0 _ _ _)
   | (with_reducible exact ih1 _ _ _ _ _ _ _ _ _ _)
   | (with_reducible exact ih2 _ _ _ _ _ _ _ _ _)
   | (with_reducible exact ih3 _ _ _ _ _ _ _ _ _ _)
   | (with_reducible exact cursor_Cursor_Number.mono _ _ _ _ _)
   | (with_reducible exact cursor_Cursor_Signed.mono _ _ _ _)
   | (with_reducible exact cursor_Cursor_Text.mono _ _ _ _ _)
   | (with_reducible exact tachographlaw03_fixed.mono _)
   | (with_reducible exact tachographref03_Cursor_Number.mono _ _ _ _ _)
   | (with_reducible exact tachographref03_Cursor_Signed.mono _ _ _ _)
   | (with_reducible exact tachographref03_Cursor_Text.mono _ _ _ _ _)
   | (with_reducible exact LeO.refl _)
   | (with_reducible exact LeO.none _)
   | (with_reducible refine LeO.ite ?_ ?_)
   | (with_reducible refine LeO.bind ?_ (fun _ => ?_))
   | exact ih0 _ _ _
   | exact ih1 _ _ _ _ _ _ _ _ _ _
   | exact ih2 _ _ _ _ _ _ _ _ _
   | exact ih3 _ _ _ _ _ _ _ _ _ _
   | exact cursor_Cursor_Number.mono _ _ _ _ _
   | exact cursor_Cursor_Signed.mono _ _ _ _
   | exact cursor_Cursor_Text.mono _ _ _ _ _
   | exact tachographlaw03_fixed.mono _
   | exact tachographref03_Cursor_Number.mono _ _ _ _ _
   | exact tachographref03_Cursor_Signed.mono _ _ _ _
   | exact tachographref03_Cursor_Text.mono _ _ _ _ _
   | exact LeO.none _
   | refine LeO.ite ?_ ?_
   | refine LeO.bind ?_ (fun _ => ?_)
theorem tachographlaw03_CursorPlays.mono : ∀ a0 a1 k, LeO (tachographlaw03_CursorPlays.f k a0 a1) (tachographlaw03_CursorPlays.f (k + 1) a0 a1) := by
 intro a0 a1 k
 obtain ⟨ih0, ih1, ih2, ih3⟩ := tachographlaw03_CursorPlays.mono_l k
 unfold tachographlaw03_CursorPlays.f
 repeat' first
   | (with_reducible exact ih0 _ _ _)
   | (with_reducible exact ih1 _ _ _ _ _ _ _ _ _ _)
   | (with_reducible exact ih2 _ _ _ _ _ _ _ _ _)
   | (with_reducible exact ih3 _ _ _ _ _ _ _ _ _ _)
   | (with_reducible exact cursor_Cursor_Number.mono _ _ _ _ _)
   | (with_reducible exact cursor_Cursor_Signed.mono _ _ _ _)
   | (with_reducible exact cursor_Cursor_Text.mono _ _ _ _ _)
   | (with_reducible exact tachographlaw03_fixed.mono _)
   | (with_reducible exact tachographref03_Cursor_Number.mono _ _ _ _ _)
   | (with_reducible exact tachographref03_Cursor_Signed.mono _ _ _ _)
   | (with_reducible exact tachographref03_Cursor_Text.mono _ _ _ _ _)
   | (with_reducible exact LeO.refl _)
   | (with_reducible exact LeO.none _)
   | (with_reducible refine LeO.ite ?_ ?_)
   | (with_reducible refine LeO.bind ?_ (fun _ => ?_))
   | exact ih0 _ _ _
   | exact ih1 _ _ _ _ _ _ _ _ _ _
   | exact ih2 _ _ _ _ _ _ _ _ _
   | exact ih3 _ _ _ _ _ _ _ _ _ _
   | exact cursor_Cursor_Number.mono _ _ _ _ _
   | exact cursor_Cursor_Signed.mono _ _ _ _
   | exact cursor_Cursor_Text.mono _ _ _ _ _
   | exact tachographlaw03_fixed.mono _
   | exact tachographref03_Cursor_Number.mono _ _ _ _ _
   | exact tachographref03_Cursor_Signed.mono _ _ _ _
   | exact tachographref03_Cursor_Text.mono _ _ _ _ _
   | exact LeO.none _
   | refine LeO.ite ?_ ?_
   | refine LeO.bind ?_ (fun _ => ?_)
def tachographlaw03_CursorPlays.T4 : Bool × List (List Nat × List Nat) := (true, [([], []), ([0], [0]), ([], []), ([2], [2]), ([3], [3]), ([], []), ([1, 1, 0, 1, 5], [1]), ([5, 4, 6, 0, 1, 2, 3, 4, 5, 6], [4, 5])])
def tachographlaw03_CursorPlays.B4 : List Nat := [0, 1, 0, 4, 12, 0, 35, 127]
theorem tachographlaw03_CursorPlays.tab4 : rtab .any (opsOf Try.f10 4) = tachographlaw03_CursorPlays.T4 := by kernel_rfl
theorem tachographlaw03_CursorPlays.bits4 : waitsOk tachographlaw03_CursorPlays.T4.2 tachographlaw03_CursorPlays.B4 = true := by kernel_rfl
def tachographlaw03_CursorPlays.T22 : Bool × List (List Nat × List Nat) := (true, [([], []), ([], []), ([], []), ([2], [2]), ([3], [3]), ([1, 4], [1, 4]), ([], []), ([5, 6], [5, 6]), ([0, 5, 0], [0]), ([7, 8, 0, 1, 2, 3, 4, 5, 6, 7, 8], [7])])
def tachographlaw03_CursorPlays.B22 : List Nat := [0, 0, 0, 4, 12, 30, 0, 126, 63, 511]
theorem tachographlaw03_CursorPlays.tab22 : rtab .any (opsOf Try.f10 22) = tachographlaw03_CursorPlays.T22 := by kernel_rfl
theorem tachographlaw03_CursorPlays.bits22 : waitsOk tachographlaw03_CursorPlays.T22.2 tachographlaw03_CursorPlays.B22 = true := by kernel_rfl
def tachographlaw03_CursorPlays.T28 : Bool × List (List Nat × List Nat) := (true, [([], []), ([], []), ([], []), ([2], [2]), ([1, 3], [1, 3]), ([], []), ([4, 5], [4, 5]), ([0, 4, 0], [0]), ([6, 7, 0, 1, 2, 3, 4, 5, 6, 7], [6])])
def tachographlaw03_CursorPlays.B28 : List Nat := [0, 0, 0, 4, 14, 0, 62, 31, 255]
theorem tachographlaw03_CursorPlays.tab28 : rtab .any (opsOf Try.f10 28) = tachographlaw03_CursorPlays.T28 := by kernel_rfl
theorem tachographlaw03_CursorPlays.bits28 : waitsOk tachographlaw03_CursorPlays.T28.2 tachographlaw03_CursorPlays.B28 = true := by kernel_rfl
def tachographlaw03_CursorPlays.T35 : Bool × List (List Nat × List Nat) := (true, [([], []), ([0], [0]), ([1], [1]), ([2], [2]), ([3, 2, 2], [2, 3]), ([2], [2]), ([5, 2], [2, 5]), ([4, 6, 2], [2, 4, 6]), ([2, 7], [2, 7]), ([8, 4], [8]), ([9], [9]), ([10, 9, 9], [9, 10]), ([9], [9]), ([12, 9], [9, 12]), ([13, 9], [9, 13]), ([11, 14, 9], [9, 11, 14]), ([9, 15], [9, 15]), ([16, 11], [16]), ([17], [17]), ([18, 17, 17], [17, 18]), ([17], [17]), ([20, 17], [17, 20]), ([19, 21, 17], [17, 19, 21]), ([17, 22], [17, 22])])
def tachographlaw03_CursorPlays.B35 : List Nat := [0, 1, 3, 7, 15, 7, 39, 127, 255, 511, 1023, 2047, 1023, 5119, 13311, 32767, 65535, 131071, 262143, 524287, 262143, 1310719, 4194303, 8388607]
theorem tachographlaw03_CursorPlays.tab35 : rtab .any (opsOf Try.f10 35) = tachographlaw03_CursorPlays.T35 := by kernel_rfl
theorem tachographlaw03_CursorPlays.bits35 : waitsOk tachographlaw03_CursorPlays.T35.2 tachographlaw03_CursorPlays.B35 = true := by kernel_rfl
set_option maxHeartbeats 8000000 in
set_option maxRecDepth 100000 in
theorem tachographlaw03_CursorPlays.calls (k : Nat) (A0 : Option Addr) (c0 : Nat) (l0 : List Int) (A1 : Option Addr) (c1 : Nat) (l1 : List (S61)) (r : Bool) (w : World) (hr0 : Kd.C (Kd.int .u8) w A0 l0.length l0) (hc0 : l0.length ≤ c0) (hr1 : Kd.C k61 w A1 l1.length l1) (hc1 : l1.length ≤ c1) (h : tachographlaw03_CursorPlays.f k l0 l1 = some r) :
  Calls Try.prog 10 #[.slice A0 l0.length c0,.slice A1 l1.length c1] w fun e w' => e = .returned (.bool r) ∧ Below w.heap.size w w':=by
 have hu59:=Try.underlying59
 have hu61:=Try.underlying61
 have HR0:=Aside0.mk hr0
 have HC0:=Aside0.mk hc0
 clear hr0 hc0
 have HR1:=Aside0.mk hr1
 have HC1:=Aside0.mk hc1
 clear hr1 hc1
 have HB:=Aside0.mk (Below.refl w.heap.size w)
 have H : (if (l0.length : Int) > 300 then (tachographlaw03_CursorPlays.j0 k l0 l1 true) else (tachographlaw03_CursorPlays.j0 k l0 l1 (decide ((l1.length : Int) > 60)))) = some r:=h
 clear h
 have HC3:=Aside0.mk H
 clear H
 go_enter Try.func10,Try.ntmps10
 go_upto_region 1 with (fail)
 go_cut [29] (fun v29 wc => ∃ (kq : Nat) (x29_2 : Bool),v29 = .bool x29_2 ∧ Aside0 (tachographlaw03_CursorPlays.j0 kq l0 l1 x29_2 = some r) ∧ Aside0 (kq ≤ k) ∧ Aside0 (Below w.heap.size w wc))
 case first =>
  have H:=HC3.out
  clear HC3
  by_cases c4 : (l0.length : Int) > 300
  ·rw [if_pos c4] at H
   have c4b0 : decide (300 < (l0.length : Int)) = true:=decide_eq_true c4
   have c4b1 : decide (300 < l0.length) = true:=decide_eq_true (by omega)
   clear c4
   (first | rw [c4b0] | (simp only [i64_w,i32_w];rw [c4b0]) | skip)
   have H':=Aside0.mk H
   clear H
   go_wp2
   go_meet
   case rel => exact ⟨_,(true),(by first | rfl | (simp;done) | (simp [*];done)),H',⟨by first | omega | exact Nat.le_refl _⟩,⟨by repeat (first | (with_reducible first | exact HB.out | apply below_alloc | apply pw_below_drewN | apply below_drew1) | exact HB.out)⟩⟩
  ·rw [if_neg c4] at H
   have c4b0 : decide (300 < (l0.length : Int)) = false:=decide_eq_false c4
   have c4b1 : decide (300 < l0.length) = false:=decide_eq_false (by omega)
   clear c4
   (first | rw [c4b0] | (simp only [i64_w,i32_w];rw [c4b0]) | skip)
   have H':=Aside0.mk H
   clear H
   go_wp2
   go_meet
   case rel => exact ⟨_,(decide ((l1.length : Int) > 60)),(by first | rfl | (simp;done) | (simp [*];done)),H',⟨by first | omega | exact Nat.le_refl _⟩,⟨by repeat (first | (with_reducible first | exact HB.out | apply below_alloc | apply pw_below_drewN | apply below_drew1) | exact HB.out)⟩⟩
 case rest =>
  clear HC3
  (try clear c1);(try clear p2);(try clear c4);(try clear c4b0);(try clear c4b1)
  obtain ⟨kq,x29_2,rfl,HA,HJ2,HB⟩:=hcut
  cases kq with
  | zero => exact absurd HA.out (by simp [tachographlaw03_CursorPlays.j0])
  | succ kj2 =>
   have H:=HA.out
   clear HA
   simp only [tachographlaw03_CursorPlays.j0] at H
   by_cases c5 : x29_2 = true
   ·subst c5
    have H1 : ((tachographlaw03_fixed.f kj2).bind fun t272 => (some t272)) = some r:=by rw [if_pos rfl] at H;exact H
    clear H
    have H:=H1
    clear H1
    replace H:=Option.bind_eq_some_iff.mp H
    obtain ⟨t272,A60,H⟩:=H
    replace H : (some t272) = some r:=H
    have A6:=Aside0.mk A60
    clear A60
    obtain rfl:=Option.some.inj H
    go_wp2_with (first | ((with_reducible refine gate_callee (f:=33) rfl ?_);refine goesL_ (some 30) rfl rfl Try.func33 (by kernel_rfl) rfl #[] rfl (by (try simp only [List.map_toArray,List.map_cons,List.map_nil]);first | done | rfl | (simp only [List.length_drop,List.length_take];rfl)) ?_;(with_reducible refine (tachographlaw03_fixed.calls kj2  t272 _ A6.out).mono ?_);rintro e w7 ⟨rfl,hb⟩;refine ⟨_,rfl,?_⟩;have n0_:=Aside0.mk (below_step (by repeat (first | (with_reducible first | exact HB.out | apply below_alloc | apply pw_below_drewN | apply below_drew1) | exact HB.out)) hb);clear HB;have HB:=n0_;clear n0_;(try clear hb);(try clear hb2);(try clear hk);(try clear hi)))
    go_ret
    exact ⟨by first | rfl | (simp [errW_none,errW_some] <;> rfl) | (simp [*,errW_none,errW_some] <;> rfl),by repeat (first | (with_reducible first | exact HB.out | apply below_alloc | apply pw_below_drewN | apply below_drew1) | exact HB.out)⟩
   ·replace c5:=Bool.eq_false_iff.mpr c5
    subst c5
    have H1 : ((some (([] : List Int) : List Int)).bind fun y273 => (if y273.length + l0.length < 140737488355328 then ((some (y273 ++ l0 : List Int)).bind fun y276 => ((cursor_New.f y276).bind fun bt279 => (tachographlaw03_CursorPlays.l0 kj2 l1 y276 (y276.length : Int) 0 bt279.1 bt279.2.1 bt279.2.2 (strOfNums l0) 0 0))) else (none))) = some r:=by rw [if_neg (show ¬ (false = true) by decide)] at H;exact H
    clear H
    have H:=H1
    clear H1
    obtain ⟨y273,hy273⟩ : ∃ y_ : List Int,y_ = (([] : List Int)):=⟨_,rfl⟩
    replace H : (if y273.length + l0.length < 140737488355328 then ((some (y273 ++ l0 : List Int)).bind fun y276 => ((cursor_New.f y276).bind fun bt279 => (tachographlaw03_CursorPlays.l0 kj2 l1 y276 (y276.length : Int) 0 bt279.1 bt279.2.1 bt279.2.2 (strOfNums l0) 0 0))) else (none)) = some r:=by first | (rw [hy273];with_reducible exact H) | (have H2_:=(Option.bind_some _ _).symm.trans H;rw [hy273];with_reducible exact H2_) | (have H2_:=(Option.bind_some _ _).symm.trans H;with_reducible exact H2_) | with_reducible exact H | (rw [hy273];exact H) | exact H
    have Ny273:=Aside0.mk hy273
    clear hy273
    by_cases c8 : y273.length + l0.length < 140737488355328
    ·rw [if_pos c8] at H
     have LMc8:=Aside0.mk c8
     clear c8
     obtain ⟨y276,hy276⟩ : ∃ y_ : List Int,y_ = (y273 ++ l0):=⟨_,rfl⟩
     replace H : ((cursor_New.f y276).bind fun bt279 => (tachographlaw03_CursorPlays.l0 kj2 l1 y276 (y276.length : Int) 0 bt279.1 bt279.2.1 bt279.2.2 (strOfNums l0) 0 0)) = some r:=by first | (rw [hy276];with_reducible exact H) | (have H2_:=(Option.bind_some _ _).symm.trans H;rw [hy276];with_reducible exact H2_) | (have H2_:=(Option.bind_some _ _).symm.trans H;with_reducible exact H2_) | with_reducible exact H | (rw [hy276];exact H) | exact H
     have Ny276:=Aside0.mk hy276
     clear hy276
     replace H:=Option.bind_eq_some_iff.mp H
     obtain ⟨⟨t279,t280,t281⟩,A90,H⟩:=H
     replace H : (tachographlaw03_CursorPlays.l0 kj2 l1 y276 (y276.length : Int) 0 t279 t280 t281 (strOfNums l0) 0 0) = some r:=H
     have A9:=Aside0.mk A90
     clear A90
     have H':=Aside0.mk H
     clear H
     try go_wp2_with (first | ((with_reducible refine gate_dst (N:=31) rfl ?_);(try (refine gate_guard (by rfl) ?_;dsimp only));refine Kd.R_lit (Kd.int .u8) _ 5 ?hg (N:=31) ?hd (xs:=([] : List Int)) (inner:=[]) (ok:=fun _ => True) (okp:=fun _ => True) ?hr ?hp (fun _ hk => hk) trivial (Below.refl _ _) (Nat.le_refl _) (by simp) ?_;(case hd => rfl);(case hg => rfl);(case hr => first | (go_simp;done) | (go_simp;rfl));(case hp => exact (Reps.none _ _));intro v274 w10 ho11 hb hg_ hnew_;clear hg_ hnew_;(first | rw [← Ny273.out] at ho11 | (simp only [Int.reduceToNat] at ho11;rw [← Ny273.out] at ho11));have n0_:=Aside0.mk (Kd.R_lower ho11 (below_size (by repeat (first | (with_reducible first | exact HB.out | apply below_alloc | apply pw_below_drewN | apply below_drew1) | exact HB.out))));have n1_:=Aside0.mk (below_step (by repeat (first | (with_reducible first | exact HB.out | apply below_alloc | apply pw_below_drewN | apply below_drew1) | exact HB.out)) hb);clear HB;have HO275:=n0_;have HB:=n1_;clear n0_ n1_;clear hb ho11) | ((with_reducible refine gate_builtin (b:=.append) (xs:=#[.tmp 31,.tmp 32]) rfl ?_);(try (refine gate_guard (by rfl) ?_;dsimp only));at_builtin;refine Kd.R_append_rows (Kd.int .u8) (w0:=w) w.heap.size rfl (.tmp 31) (.tmp 32) 27 5 (.int .u8 0) 1 rfl Try.underlying27 info5 rfl (by decide) (by omega) v274 y273 l0 _ _ _ (fun _ => True) (fun _ => False) rfl rfl ?aO ?aR (fun _ _ h => h) (fun _ h => h.elim) ?aF ?aB ?aS ?aL ?_;(case aR => repeat (first | exact (Kd.C_below HR0.out HB.out) | (with_reducible refine Kd.C_alloc ?_ _) | (with_reducible refine Kd.C_drewN ?_ _) | (with_reducible refine Kd.C_drew ?_)));(case aB => exact (by repeat (first | (with_reducible first | exact HB.out | apply below_alloc | apply pw_below_drewN | apply below_drew1) | exact HB.out)));(case aF => exact (fun _ _ => trivial));(case aO => exact (by (with_reducible repeat (first | apply Kd.R_alloc | apply Kd.R_drewN | apply Kd.R_drew));exact HO275.out));(case aS => exact (below_size (by repeat (first | (with_reducible first | exact HB.out | apply below_alloc | apply pw_below_drewN | apply below_drew1) | exact HB.out))));(case aL => have:=LMc8.out;omega);intro v277 w12 ho hb hg hat;rw [← Ny276.out] at ho;have n0_:=Aside0.mk (hb);have n1_:=Aside0.mk (ho);clear HB;clear HO275;have HB:=n0_;have HO278:=n1_;clear n0_ n1_;clear ho hb hg hat;obtain ⟨Ao13,co13,eo13⟩:=Kd.R_slice HO278.out;subst eo13))
     have n0_:=Aside0.mk (Kd.R_drew HO278.out)
     have n1_:=Aside0.mk (below_drew1 HB.out)
     clear HO278
     clear HB
     have HO278:=n0_
     have HB:=n1_
     clear n0_ n1_
     refine start_ (n:=8) (S:=fun w' => (convert 27 9 (.slice A0 l0.length c0)).run Try.prog w' = .ok (.string (strOfNums l0)) w') (ds:=[]) #[n_,n_,n_,n_,n_,n_,n_,n_] (by kernel_rfl) rfl rfl ((Kd.C_string (P:=Try.prog) (A:=A0) (c:=c0) Try.underlying27 Try.underlying5 Try.underlying9 (Kd.C_below HR0.out (by repeat (first | (with_reducible first | exact HB.out | apply below_alloc | apply pw_below_drewN | apply below_drew1) | exact HB.out))))) (fun hHeld => ?_);refine with_tabW tachographlaw03_CursorPlays.tab4 tachographlaw03_CursorPlays.bits4 (fun HT_ HW_ => ?_)
     generalize w12.drew = w14 at HO278 HB hHeld ⊢
     refine pure_ (i:=0) (N:=some 34) (v:=?_) (a':=?_) #[y_,n_,n_,n_,n_,n_,n_,n_] rfl rfl (any_of HT_.out (by kernel_rfl)) (fun _ _ _ h => h) (Or.inl ⟨by rfl,?_⟩) ?_ ?_
     rotate_left
     ·intro w'
      go_simp
      with_reducible rfl
     rotate_left
     ·simp only [Act.put,sA_,sB_,sC_,i64_w,i32_w]
      rfl
     refine pure_ (i:=2) (N:=some 36) (v:=?_) (a':=?_) #[y_,n_,y_,n_,n_,n_,n_,n_] rfl rfl (any_of HT_.out (by kernel_rfl)) (fun _ _ _ h => h) (Or.inl ⟨by rfl,?_⟩) ?_ ?_
     rotate_left
     ·intro w'
      go_simp
      with_reducible rfl
     rotate_left
     ·simp only [Act.put,sA_,sB_,sC_,i64_w,i32_w]
      rfl
     refine take_ (i:=3) (N:=some 37) (v:=?_) (a':=?_) #[y_,n_,y_,y_,n_,n_,n_,n_] rfl rfl (take_ofW HT_.out HW_.out (by kernel_rfl)) (fun _ _ _ h => h) (Or.inl ⟨by rfl,?_⟩) hHeld ?_ ?_
     rotate_left
     ·intro w' s0
      go_simp
      with_reducible rfl
     rotate_left
     ·simp only [Act.put,sA_,sB_,sC_,i64_w,i32_w]
      rfl
     refine pure_ (i:=4) (N:=some 38) (v:=?_) (a':=?_) #[y_,n_,y_,y_,y_,n_,n_,n_] rfl rfl (any_of HT_.out (by kernel_rfl)) (fun _ _ _ h => h) (Or.inl ⟨by rfl,?_⟩) ?_ ?_
     rotate_left
     ·intro w'
      go_simp
      with_reducible rfl
     rotate_left
     ·simp only [Act.put,sA_,sB_,sC_,i64_w,i32_w]
      rfl
     refine join_ (σ:=Nat × Nat) 2 #[y_,y_,y_,y_,y_,y_,n_,n_] (fun s_ => [(35,.pointer (some ⟨s_.1,0,none⟩)),(7,.pointer (some ⟨s_.2,0,none⟩))]) (fun s_ w' => ((convert 27 9 (.slice A0 l0.length c0)).run Try.prog w' = .ok (.string (strOfNums l0)) w') ∧ (Kd.R (Kd.int .u8) 5 w' w.heap.size (fun _ => True) (.slice Ao13 y276.length co13) y276) ∧ (w'.heap[s_.2]? = some (.cells #[.string (⟨#[]⟩ : ByteArray),.int .i64 0,.int .i64 0] 59 (0,0))) ∧ (w.heap.size ≤ s_.2) ∧ (w.heap.size ≤ s_.2) ∧ (s_.1 ≠ s_.2) ∧ (s_.2 ≠ s_.1) ∧ (IsS102 w w' s_.1 t279 t280 t281) ∧ (Below w.heap.size w w')) ?_ ?_
     rotate_left
     ·intro hCont
      refine two_ (i:=1) (j:=5) (Ni:=some 35) (Nj:=some 7) #[y_,y_,y_,y_,y_,n_,n_,n_] #[y_,n_,y_,y_,y_,y_,n_,n_] rfl rfl rfl rfl (two_of HT_.out (by kernel_rfl)) (by decide) (by decide) (fun K hK => ?_) (fun K hK => ?_)
      ·skip
       refine goes_ Try.func34 (by kernel_rfl) rfl #[.slice Ao13 y276.length co13] (by rfl) rfl rfl (by (try simp only [List.map_toArray,List.map_cons,List.map_nil]);first | done | rfl | (simp only [List.length_drop,List.length_take];rfl)) ?_
       with_reducible refine (cursor_New.calls _ _ y276 t279 t280 t281 w _ ?side1 ?side2 ?side3 A9.out).mono ?_
       (case side1 => repeat (first | (with_reducible first | exact HB.out | apply below_alloc | apply pw_below_drewN | apply below_drew1) | exact HB.out))
       (case side2 => repeat (first | exact (Kd.R_reads' HO278.out).2.2 | (with_reducible refine Kd.C_alloc ?_ _) | (with_reducible refine Kd.C_drewN ?_ _) | (with_reducible refine Kd.C_drew ?_)))
       (case side3 => exact (Kd.R_reads' HO278.out).2.1)
       rintro e w16 ⟨g282,rfl,hi,hb,hb2⟩
       refine ⟨_,rfl,?_⟩
       have n0_:=Aside0.mk (Kd.R_below (by (with_reducible repeat (first | apply Kd.R_alloc | apply Kd.R_drewN | apply Kd.R_drew));exact HO278.out) hb2)
       have n1_:=Aside0.mk (hb)
       have n2_:=Aside0.mk (hi)
       clear HO278
       clear HB
       have HO278:=n0_
       have HB:=n1_
       have HI282:=n2_
       clear n0_ n1_ n2_
       (try clear hb)
       (try clear hb2)
       (try clear hk)
       (try clear hi)
       refine hK.out _ _ ((Kd.C_string (P:=Try.prog) (A:=A0) (c:=c0) Try.underlying27 Try.underlying5 Try.underlying9 (Kd.C_below HR0.out (by repeat (first | (with_reducible first | exact HB.out | apply below_alloc | apply pw_below_drewN | apply below_drew1) | exact HB.out))))) (fun hHeld => ?_)
       clear hK K
       refine norm_ (a':=?_) ?_ ?_
       rotate_left
       ·show Act.put _ (some 35) _ = _
        simp only [Act.put,sA_,sB_,sC_,i64_w,i32_w]
        rfl
       refine one_ (i:=5) (N:=some 7) #[y_,y_,y_,y_,y_,y_,n_,n_] rfl rfl (one_of HT_.out (by kernel_rfl)) (by decide) (fun K hK => ?_)
       refine box_step ?hg (N:=7) ?hd (cs:=#[.string (⟨#[]⟩ : ByteArray),.int .i64 0,.int .i64 0]) (t:=59) ?hr ?_;(case hd => rfl);(case hg => rfl);(case hr => first | (go_simp;done) | (go_simp;rfl))
       intro gb283 hg w17 hbox hb
       have n0_:=Aside0.mk (Kd.R_below (by (with_reducible repeat (first | apply Kd.R_alloc | apply Kd.R_drewN | apply Kd.R_drew));exact HO278.out) hb)
       have n1_:=Aside0.mk (IsS102.below (by repeat (first | (with_reducible first | exact HI282.out | apply IsS102.alloc | apply IsS102.drewN | apply IsS102.drew | apply IsS102.set_0 | apply IsS102.set_1 | apply IsS102.set_2) | exact HI282.out)) hb)
       have n2_:=Aside0.mk (below_step (by repeat (first | (with_reducible first | exact HB.out | apply below_alloc | apply pw_below_drewN | apply below_drew1 | refine below_set ?_ (IsS102.ge HI282.out)) | exact HB.out)) hb)
       have n3_:=Aside0.mk (hbox)
       have n4_:=Aside0.mk ((by rw [hg];exact (below_size (by repeat (first | (with_reducible first | exact HB.out | apply below_alloc | apply pw_below_drewN | apply below_drew1 | refine below_set ?_ (IsS102.ge HI282.out)) | exact HB.out))) : w.heap.size ≤ gb283))
       have n5_:=Aside0.mk ((by rw [hg];exact (below_size (by repeat (first | (with_reducible first | exact HB.out | apply below_alloc | apply pw_below_drewN | apply below_drew1 | refine below_set ?_ (IsS102.ge HI282.out)) | exact HB.out))) : w.heap.size ≤ gb283))
       have n6_:=Aside0.mk ((by rw [hg];exact Nat.ne_of_lt (IsS102.lt (show IsS102 w _ g282 t279 t280 t281 from by repeat (first | (with_reducible first | exact HI282.out | apply IsS102.alloc | apply IsS102.drewN | apply IsS102.drew | apply IsS102.set_0 | apply IsS102.set_1 | apply IsS102.set_2) | exact HI282.out))) : g282 ≠ gb283))
       have n7_:=Aside0.mk ((by rw [hg];exact Nat.ne_of_gt (IsS102.lt (show IsS102 w _ g282 t279 t280 t281 from by repeat (first | (with_reducible first | exact HI282.out | apply IsS102.alloc | apply IsS102.drewN | apply IsS102.drew | apply IsS102.set_0 | apply IsS102.set_1 | apply IsS102.set_2) | exact HI282.out))) : gb283 ≠ g282))
       clear HO278
       clear HI282
       clear HB
       have HO278:=n0_
       have HI282:=n1_
       have HB:=n2_
       have BK283:=n3_
       have GW283:=n4_
       have GE283:=n5_
       have NB282_283:=n6_
       have NB283_282:=n7_
       clear n0_ n1_ n2_ n3_ n4_ n5_ n6_ n7_
       clear hb hbox hg
       refine hK.out _ _ ((Kd.C_string (P:=Try.prog) (A:=A0) (c:=c0) Try.underlying27 Try.underlying5 Try.underlying9 (Kd.C_below HR0.out (by repeat (first | (with_reducible first | exact HB.out | apply below_alloc | apply pw_below_drewN | apply below_drew1) | exact HB.out))))) (fun hHeld => ?_)
       clear hK K
       refine norm_ (a':=?_) ?_ ?_
       rotate_left
       ·show Act.put _ (some 7) _ = _
        simp only [Act.put,sA_,sB_,sC_,i64_w,i32_w]
        rfl
       exact norm_ (by simp only [putAll,Act.put,List.setIfInBounds_toArray,List.set_cons_zero,List.set_cons_succ]) (hCont (g282,gb283) _ ⟨hHeld,(by (with_reducible repeat (first | apply Kd.R_alloc | apply Kd.R_drewN | apply Kd.R_drew));exact HO278.out),(by (with_reducible repeat (first | refine blk_drewN ?_ _ | refine blk_drew ?_ | refine blk_alloc ?_ _));exact BK283.out),GW283.out,GE283.out,NB282_283.out,NB283_282.out,(by repeat (first | (with_reducible first | exact HI282.out | apply IsS102.alloc | apply IsS102.drewN | apply IsS102.drew | apply IsS102.set_0 | apply IsS102.set_1 | apply IsS102.set_2 | refine IsS102.far ?_ NB282_283.out _) | exact HI282.out)),(by repeat (first | (with_reducible first | exact HB.out | apply below_alloc | apply pw_below_drewN | apply below_drew1 | refine below_set ?_ (IsS102.ge HI282.out) | refine below_set ?_ GE283.out) | exact HB.out))⟩)
      ·skip
       refine box_step ?hg (N:=7) ?hd (cs:=#[.string (⟨#[]⟩ : ByteArray),.int .i64 0,.int .i64 0]) (t:=59) ?hr ?_;(case hd => rfl);(case hg => rfl);(case hr => first | (go_simp;done) | (go_simp;rfl))
       intro gb283 hg w16 hbox hb
       have n0_:=Aside0.mk (Kd.R_below (by (with_reducible repeat (first | apply Kd.R_alloc | apply Kd.R_drewN | apply Kd.R_drew));exact HO278.out) hb)
       have n1_:=Aside0.mk (below_step (by repeat (first | (with_reducible first | exact HB.out | apply below_alloc | apply pw_below_drewN | apply below_drew1) | exact HB.out)) hb)
       have n2_:=Aside0.mk (hbox)
       have n3_:=Aside0.mk ((by rw [hg];exact (below_size (by repeat (first | (with_reducible first | exact HB.out | apply below_alloc | apply pw_below_drewN | apply below_drew1) | exact HB.out))) : w.heap.size ≤ gb283))
       have n4_:=Aside0.mk ((by rw [hg];exact (below_size (by repeat (first | (with_reducible first | exact HB.out | apply below_alloc | apply pw_below_drewN | apply below_drew1) | exact HB.out))) : w.heap.size ≤ gb283))
       clear HO278
       clear HB
       have HO278:=n0_
       have HB:=n1_
       have BK283:=n2_
       have GW283:=n3_
       have GE283:=n4_
       clear n0_ n1_ n2_ n3_ n4_
       clear hb hbox hg
       refine hK.out _ _ ((Kd.C_string (P:=Try.prog) (A:=A0) (c:=c0) Try.underlying27 Try.underlying5 Try.underlying9 (Kd.C_below HR0.out (by repeat (first | (with_reducible first | exact HB.out | apply below_alloc | apply pw_below_drewN | apply below_drew1) | exact HB.out))))) (fun hHeld => ?_)
       clear hK K
       refine norm_ (a':=?_) ?_ ?_
       rotate_left
       ·show Act.put _ (some 7) _ = _
        simp only [Act.put,sA_,sB_,sC_,i64_w,i32_w]
        rfl
       refine one_ (i:=1) (N:=some 35) #[y_,y_,y_,y_,y_,y_,n_,n_] rfl rfl (one_of HT_.out (by kernel_rfl)) (by decide) (fun K hK => ?_)
       refine goes_ Try.func34 (by kernel_rfl) rfl #[.slice Ao13 y276.length co13] (by rfl) rfl rfl (by (try simp only [List.map_toArray,List.map_cons,List.map_nil]);first | done | rfl | (simp only [List.length_drop,List.length_take];rfl)) ?_
       with_reducible refine (cursor_New.calls _ _ y276 t279 t280 t281 w _ ?side1 ?side2 ?side3 A9.out).mono ?_
       (case side1 => repeat (first | (with_reducible first | exact HB.out | apply below_alloc | apply pw_below_drewN | apply below_drew1 | refine below_set ?_ GE283.out) | exact HB.out))
       (case side2 => repeat (first | exact (Kd.R_reads' HO278.out).2.2 | (with_reducible refine Kd.C_alloc ?_ _) | (with_reducible refine Kd.C_drewN ?_ _) | (with_reducible refine Kd.C_drew ?_)))
       (case side3 => exact (Kd.R_reads' HO278.out).2.1)
       rintro e w17 ⟨g282,rfl,hi,hb,hb2⟩
       refine ⟨_,rfl,?_⟩
       have n0_:=Aside0.mk (Kd.R_below (by (with_reducible repeat (first | apply Kd.R_alloc | apply Kd.R_drewN | apply Kd.R_drew));exact HO278.out) hb2)
       have n1_:=Aside0.mk (blk_below (g:=gb283) (o:=.cells #[.string (⟨#[]⟩ : ByteArray),.int .i64 0,.int .i64 0] 59 (0,0)) (by (with_reducible repeat (first | refine blk_drewN ?_ _ | refine blk_drew ?_ | refine blk_alloc ?_ _));exact BK283.out) hb2)
       have n2_:=Aside0.mk (hb)
       have n3_:=Aside0.mk (hi)
       have n4_:=Aside0.mk (IsS102.ne_blk hi (blk_below (g:=gb283) (o:=.cells #[.string (⟨#[]⟩ : ByteArray),.int .i64 0,.int .i64 0] 59 (0,0)) (by (with_reducible repeat (first | refine blk_drewN ?_ _ | refine blk_drew ?_ | refine blk_alloc ?_ _));exact BK283.out) hb2) (by decide))
       have n5_:=Aside0.mk (Ne.symm (IsS102.ne_blk hi (blk_below (g:=gb283) (o:=.cells #[.string (⟨#[]⟩ : ByteArray),.int .i64 0,.int .i64 0] 59 (0,0)) (by (with_reducible repeat (first | refine blk_drewN ?_ _ | refine blk_drew ?_ | refine blk_alloc ?_ _));exact BK283.out) hb2) (by decide)))
       clear HO278
       clear BK283
       clear HB
       have HO278:=n0_
       have BK283:=n1_
       have HB:=n2_
       have HI282:=n3_
       have NB282_283:=n4_
       have NB283_282:=n5_
       clear n0_ n1_ n2_ n3_ n4_ n5_
       (try clear hb)
       (try clear hb2)
       (try clear hk)
       (try clear hi)
       refine hK.out _ _ ((Kd.C_string (P:=Try.prog) (A:=A0) (c:=c0) Try.underlying27 Try.underlying5 Try.underlying9 (Kd.C_below HR0.out (by repeat (first | (with_reducible first | exact HB.out | apply below_alloc | apply pw_below_drewN | apply below_drew1) | exact HB.out))))) (fun hHeld => ?_)
       clear hK K
       refine norm_ (a':=?_) ?_ ?_
       rotate_left
       ·show Act.put _ (some 35) _ = _
        simp only [Act.put,sA_,sB_,sC_,i64_w,i32_w]
        rfl
       exact norm_ (by simp only [putAll,Act.put,List.setIfInBounds_toArray,List.set_cons_zero,List.set_cons_succ]) (hCont (g282,gb283) _ ⟨hHeld,(by (with_reducible repeat (first | apply Kd.R_alloc | apply Kd.R_drewN | apply Kd.R_drew));exact HO278.out),(by (with_reducible repeat (first | refine blk_drewN ?_ _ | refine blk_drew ?_ | refine blk_alloc ?_ _));exact BK283.out),GW283.out,GE283.out,NB282_283.out,NB283_282.out,(by repeat (first | (with_reducible first | exact HI282.out | apply IsS102.alloc | apply IsS102.drewN | apply IsS102.drew | apply IsS102.set_0 | apply IsS102.set_1 | apply IsS102.set_2 | refine IsS102.far ?_ NB282_283.out _) | exact HI282.out)),(by repeat (first | (with_reducible first | exact HB.out | apply below_alloc | apply pw_below_drewN | apply below_drew1 | refine below_set ?_ (IsS102.ge HI282.out) | refine below_set ?_ GE283.out) | exact HB.out))⟩)
     rintro ⟨g282,gb283⟩ w18 ⟨hS_,h0_,h1_,h2_,h3_,h4_,h5_,h6_,h7_⟩
     have n0_ : Aside0 (Kd.R (Kd.int .u8) 5 w18 w.heap.size (fun _ => True) (.slice Ao13 y276.length co13) y276):=⟨h0_⟩
     have n1_ : Aside0 (w18.heap[gb283]? = some (.cells #[.string (⟨#[]⟩ : ByteArray),.int .i64 0,.int .i64 0] 59 (0,0))):=⟨h1_⟩
     have n2_ : Aside0 (w.heap.size ≤ gb283):=⟨h2_⟩
     have n3_ : Aside0 (w.heap.size ≤ gb283):=⟨h3_⟩
     have n4_ : Aside0 (g282 ≠ gb283):=⟨h4_⟩
     have n5_ : Aside0 (gb283 ≠ g282):=⟨h5_⟩
     have n6_ : Aside0 (IsS102 w w18 g282 t279 t280 t281):=⟨h6_⟩
     have n7_ : Aside0 (Below w.heap.size w w18):=⟨h7_⟩
     clear HO278
     clear HB
     clear h0_ h1_ h2_ h3_ h4_ h5_ h6_ h7_
     have HO278:=n0_
     have BK283:=n1_
     have GW283:=n2_
     have GE283:=n3_
     have NB282_283:=n4_
     have NB283_282:=n5_
     have HI282:=n6_
     have HB:=n7_
     clear n0_ n1_ n2_ n3_ n4_ n5_ n6_ n7_
     have hHeld : (convert 27 9 (.slice A0 l0.length c0)).run Try.prog w18 = .ok (.string (strOfNums l0)) w18:=hS_
     refine norm_ (a':=?_) ?_ ?_
     rotate_left
     ·simp only [putAll,Act.put,List.setIfInBounds_toArray,List.set_cons_zero,List.set_cons_succ]
      rfl
     refine pure_ (i:=6) (N:=some 6) (v:=?_) (a':=?_) #[y_,y_,y_,y_,y_,y_,y_,n_] rfl rfl (any_of HT_.out (by kernel_rfl)) (fun _ _ _ h => h) (Or.inl ⟨by rfl,?_⟩) ?_ ?_
     rotate_left
     ·intro w'
      go_simp
      with_reducible rfl
     rotate_left
     ·simp only [Act.put,sA_,sB_,sC_,i64_w,i32_w]
      rfl
     refine one_ (i:=7) (N:=none) #[y_,y_,y_,y_,y_,y_,y_,y_] rfl rfl (one_of HT_.out (by kernel_rfl)) (by decide) (fun K hK => ?_)
     have hs19 : w18.cell? ⟨gb283,0,none⟩ = some (.string (⟨#[]⟩ : ByteArray)):=(blk_cell BK283.out 0).trans rfl
     have hfs19:=blk_frozen BK283.out 0
     have hs20 : w18.cell? ⟨gb283,1,none⟩ = some (.int .i64 0):=(blk_cell BK283.out 1).trans rfl
     have hfs20:=blk_frozen BK283.out 1
     have hs21 : w18.cell? ⟨gb283,2,none⟩ = some (.int .i64 0):=(blk_cell BK283.out 2).trans rfl
     have hfs21:=blk_frozen BK283.out 2
     refine skip_ (w1:=?_) (by rfl) rfl ?_ ?_
     rotate_left
     ·go_simp
      rfl
     refine hK.out _ _ ((Kd.C_string (P:=Try.prog) (A:=A0) (c:=c0) Try.underlying27 Try.underlying5 Try.underlying9 (Kd.C_below HR0.out (by repeat (first | (with_reducible first | exact HB.out | apply below_alloc | apply pw_below_drewN | apply below_drew1 | refine below_set ?_ (IsS102.ge HI282.out) | refine below_set ?_ GE283.out) | exact HB.out))))) (fun hHeld => ?_)
     clear hK K
     refine done_ (done_of HT_.out (by kernel_rfl)) ?_
     try go_wp2
     go_loopg [43] kj2 (fun kq v43 w' => ∃ (x5_2 : List Int) (x43_2 : Int),v43 = .int .i64 x43_2 ∧ Aside0 (tachographlaw03_CursorPlays.l0 kq l1 x5_2 (y276.length : Int) x43_2 t279 t280 t281 (strOfNums l0) 0 0 = some r) ∧ Aside0 (kq ≤ kj2) ∧ Aside0 (Kd.R (Kd.int .u8) 5 w' w.heap.size (fun _ => True) (.slice Ao13 y276.length co13) x5_2) ∧ Aside0 (w'.heap[gb283]? = some (.cells #[.string (strOfNums l0),.int .i64 0,.int .i64 0] 59 (0,0))) ∧ Aside0 (IsS102 w w' g282 t279 t280 t281) ∧ Aside0 (Below w.heap.size w w'))
     case atStart => exact ⟨(y276),(0),(by first | rfl | (simp;done) | (simp [*];done)),H',⟨Nat.le_refl _⟩,⟨by (with_reducible repeat (first | apply Kd.R_alloc | apply Kd.R_drewN | apply Kd.R_drew));exact Kd.R_mono (Kd.R_far (p:=⟨gb283,2,none⟩) (Kd.R_far (p:=⟨gb283,1,none⟩) (Kd.R_far (p:=⟨gb283,0,none⟩) (Kd.R_types HO278.out BK283.out (by decide)) (fun _ hk => hk.2) (.string (strOfNums l0))) (fun _ hk => hk.2) (.int .i64 0)) (fun _ hk => hk.2) (.int .i64 0)) (fun _ hk => trivial)⟩,⟨by (with_reducible repeat (first | refine blk_drewN ?_ _ | refine blk_drew ?_ | refine blk_alloc ?_ _));refine blk_put (cs:=#[.string (strOfNums l0),.int .i64 0,.int .i64 0]) ?_ 2 _ rfl;(with_reducible repeat (first | refine blk_drewN ?_ _ | refine blk_drew ?_ | refine blk_alloc ?_ _));refine blk_put (cs:=#[.string (strOfNums l0),.int .i64 0,.int .i64 0]) ?_ 1 _ rfl;(with_reducible repeat (first | refine blk_drewN ?_ _ | refine blk_drew ?_ | refine blk_alloc ?_ _));refine blk_put (cs:=#[.string (⟨#[]⟩ : ByteArray),.int .i64 0,.int .i64 0]) ?_ 0 _ rfl;(with_reducible repeat (first | refine blk_drewN ?_ _ | refine blk_drew ?_ | refine blk_alloc ?_ _));exact BK283.out⟩,⟨by repeat (first | (with_reducible first | exact HI282.out | apply IsS102.alloc | apply IsS102.drewN | apply IsS102.drew | apply IsS102.set_0 | apply IsS102.set_1 | apply IsS102.set_2 | refine IsS102.far ?_ NB282_283.out _) | exact HI282.out)⟩,⟨by repeat (first | (with_reducible first | exact HB.out | apply below_alloc | apply pw_below_drewN | apply below_drew1 | refine below_set ?_ (IsS102.ge HI282.out) | refine below_set ?_ GE283.out) | exact HB.out)⟩⟩
     case round =>
      clear H'
      (try clear c1);(try clear p2);(try clear c3);(try clear c4);(try clear c4b0);(try clear c4b1);(try clear c5);(try clear c8);(try clear c10);(try clear p2)
      obtain ⟨x5_2,x43_2,rfl,HA,HK2,HO_5,BK283,HI282,HB⟩:=hrel
      have hl5_2:=(Kd.R_reads' HO_5.out).1
      rw [hl5_2] at HO_5
      (try simp only [hl5_2])
      (try simp only [hl5_2] at BK283)
      cases gk with
      | zero => exact absurd HA.out (by simp [tachographlaw03_CursorPlays.l0])
      | succ k2 =>
       have H:=HA.out
       clear HA
       simp only [tachographlaw03_CursorPlays.l0] at H
       by_cases c22 : x43_2 < (y276.length : Int)
       ·rw [if_pos c22] at H
        have c22b0 : decide (x43_2 < (y276.length : Int)) = true:=decide_eq_true c22
        (try simp only [hl5_2] at c22b0)
        clear c22
        by_cases c23 : 0 ≤ x43_2
        ·rw [if_pos c23] at H
         have c23b0 : decide (0 ≤ x43_2) = true:=decide_eq_true c23
         clear c23
         by_cases c24 : x43_2 < (x5_2.length : Int)
         ·rw [if_pos c24] at H
          have c24b0 : decide (x43_2 < (x5_2.length : Int)) = true:=decide_eq_true c24
          (try simp only [hl5_2] at c24b0)
          clear c24
          obtain ⟨y285,hy285⟩ : ∃ y_ : List Int,y_ = (x5_2.set (x43_2 : Int).toNat (((rd x5_2 x43_2) + 1) % 256)):=⟨_,rfl⟩
          replace H : (tachographlaw03_CursorPlays.l0 k2 l1 y285 (y276.length : Int) (wrap64 (x43_2 + 1)) t279 t280 t281 (strOfNums l0) 0 0) = some r:=by first | (rw [hy285];with_reducible exact H) | (have H2_:=(Option.bind_some _ _).symm.trans H;rw [hy285];with_reducible exact H2_) | (have H2_:=(Option.bind_some _ _).symm.trans H;with_reducible exact H2_) | with_reducible exact H | (rw [hy285];exact H) | exact H
          have Ny285:=Aside0.mk hy285
          clear hy285
          have H':=Aside0.mk H
          clear H
          have p284 : 0 ≤ (x43_2 : Int):=of_decide_eq_true (by first | (with_reducible assumption) | assumption)
          have q284 : x43_2 < (x5_2.length : Int):=of_decide_eq_true (by first | (with_reducible assumption) | assumption)
          obtain ⟨ad284,e284,hx284_0⟩:=Kd.at_int (Kd.R_reads' HO_5.out).2.2 x43_2 p284 q284
          cases e284
          replace p284:=eq_true p284
          replace q284:=eq_true q284
          have p25 : 0 ≤ (x43_2 : Int):=of_decide_eq_true (by first | (with_reducible assumption) | assumption)
          have q25 : (x43_2 : Int) < ((x5_2.length : Int) : Int):=of_decide_eq_true (by first | (with_reducible assumption) | assumption)
          obtain ⟨go25,co25,eo25,gb25,gl25,cl25,HG25⟩:=Kd.R_form HO_5.out (by omega)
          (first | cases eo25 | (injection eo25 with ea_ en_ ec_;(first | subst ea_ | (injection ea_ with ea_;subst ea_));subst ec_;clear en_))
          have GB25:=Aside0.mk gb25
          have GG25:=Aside0.mk HG25
          clear gb25 gl25 HG25
          (first | simp only [add_plain] at hx284_0 | skip)
          obtain ⟨hx25_0,hf25_0⟩:=Kd.R_celln 0 HO_5.out (x43_2 : Int) p25 q25
          replace p25:=eq_true p25
          replace q25:=eq_true q25
          have HP26:=Kd.R_putg HO_5.out (x43_2 : Int) (((rd x5_2 x43_2) + 1) % 256)
          go_wp2_with (first | ((with_reducible refine gate_store (t:=5) (p:=51) rfl ?_);refine store_event (t:=5) (p:=51) (v:=?vo_w27) (w1:=(wr.setCell ⟨go25,(x43_2 : Int).toNat,none⟩ (.int .u8 (((rd x5_2 x43_2) + 1) % 256)))) ?hg ?ho ?hn ?hr ?_;(case ho => rfl);(case hg => rfl);(case hn => rfl);(case hr => first | (go_simp;done) | (go_simp;rfl));intro w27 hw;have hg : wr.grownBy w27 (some go25):=(by rw [hw];exact HP26.2);have hp_ : Kd.R (Kd.int .u8) 5 w27 w.heap.size (fun _ => True) (.slice (some ⟨go25,0,none⟩) x5_2.length co13) y285:=(by rw [hw,Ny285.out];exact HP26.1);clear HP26;have n0_:=Aside0.mk (hp_);have n1_:=Aside0.mk (blk_grown (g:=gb283) (o:=.cells #[.string (strOfNums l0),.int .i64 0,.int .i64 0] 59 (0,0)) (by (with_reducible repeat (first | refine blk_drewN ?_ _ | refine blk_drew ?_ | refine blk_alloc ?_ _));exact BK283.out) hg (Kd.R_ne HO_5.out BK283.out (by decide)));have n2_:=Aside0.mk (IsS102.grown (by repeat (first | (with_reducible first | exact HI282.out | apply IsS102.alloc | apply IsS102.drewN | apply IsS102.drew | apply IsS102.set_0 | apply IsS102.set_1 | apply IsS102.set_2 | refine IsS102.far ?_ NB282_283.out _) | exact HI282.out)) hg (IsS102.own_ne HI282.out HO_5.out (by decide)));have n3_:=Aside0.mk ((by rw [hw];exact below_set (HB.out) GB25.out : Below w.heap.size w w27));clear HO_5;clear BK283;clear HI282;clear HB;have HO_5:=n0_;have BK283:=n1_;have HI282:=n2_;have HB:=n3_;clear n0_ n1_ n2_ n3_;clear hg hw hp_))
          (try simp only [← hl5_2])
          go_roundg k2
          case measure => have:=HJ2.out;have:=HK2.out;omega
          case rel => exact ⟨(y285),(wrap64 (x43_2 + 1)),(by first | rfl | (simp;done) | (simp [*];done)),H',⟨by have:=HJ2.out;have:=HK2.out;omega⟩,⟨by (try simp only [hl5_2]);(with_reducible repeat (first | apply Kd.R_alloc | apply Kd.R_drewN | apply Kd.R_drew));exact HO_5.out⟩,⟨by (try simp only [hl5_2]);(with_reducible repeat (first | refine blk_drewN ?_ _ | refine blk_drew ?_ | refine blk_alloc ?_ _));exact BK283.out⟩,⟨by repeat (first | (with_reducible first | exact HI282.out | apply IsS102.alloc | apply IsS102.drewN | apply IsS102.drew | apply IsS102.set_0 | apply IsS102.set_1 | apply IsS102.set_2 | refine IsS102.far ?_ NB282_283.out _) | exact HI282.out)⟩,⟨by repeat (first | (with_reducible first | exact HB.out | apply below_alloc | apply pw_below_drewN | apply below_drew1 | refine below_set ?_ (IsS102.ge HI282.out) | refine below_set ?_ GE283.out) | exact HB.out)⟩⟩
         ·rw [if_neg c24] at H
          exact absurd H (by simp)
        ·rw [if_neg c23] at H
         exact absurd H (by simp)
       ·rw [if_neg c22] at H
        have c22b0 : decide (x43_2 < (y276.length : Int)) = false:=decide_eq_false c22
        (try simp only [hl5_2] at c22b0)
        clear c22
        have H':=Aside0.mk H
        clear H
        go_wp2
        go_loopg [55] k2 (fun kq v55 w' => ∃ (x55_3 : Int) (x283000_3 : ByteArray) (x283001_3 : Int) (x283002_3 : Int) (x284000_3 : ByteArray) (x284001_3 : Int) (x284002_3 : Int),v55 = .int .i64 x55_3 ∧ Aside0 (tachographlaw03_CursorPlays.l1 kq l1 (l1.length : Int) x55_3 x283000_3 x283001_3 x283002_3 x284000_3 x284001_3 x284002_3 = some r) ∧ Aside0 (kq ≤ k2) ∧ Aside0 (w'.heap[gb283]? = some (.cells #[.string x284000_3,.int .i64 x284001_3,.int .i64 x284002_3] 59 (0,0))) ∧ Aside0 (IsS102 w w' g282 x283000_3 x283001_3 x283002_3) ∧ Aside0 (Below w.heap.size w w'))
        case atStart => exact ⟨(0),(t279),(t280),(t281),((strOfNums l0)),(0),(0),(by first | rfl | (simp;done) | (simp [*];done)),H',⟨Nat.le_refl _⟩,⟨by (try simp only [hl5_2]);(with_reducible repeat (first | refine blk_drewN ?_ _ | refine blk_drew ?_ | refine blk_alloc ?_ _));exact BK283.out⟩,⟨by repeat (first | (with_reducible first | exact HI282.out | apply IsS102.alloc | apply IsS102.drewN | apply IsS102.drew | apply IsS102.set_0 | apply IsS102.set_1 | apply IsS102.set_2 | refine IsS102.far ?_ NB282_283.out _) | exact HI282.out)⟩,⟨by repeat (first | (with_reducible first | exact HB.out | apply below_alloc | apply pw_below_drewN | apply below_drew1 | refine below_set ?_ (IsS102.ge HI282.out) | refine below_set ?_ GE283.out) | exact HB.out)⟩⟩
        case round =>
         clear H'
         (try clear c1);(try clear c2);(try clear p2);(try clear q2);(try clear hx2);(try clear hf2);(try clear c3);(try clear c4);(try clear c4b0);(try clear c4b1);(try clear c5);(try clear p6);(try clear c8);(try clear c10);(try clear c22);(try clear c22b0);(try clear c23);(try clear c23b0);(try clear c24);(try clear c24b0);(try clear p25);(try clear q25);(try clear hx25);(try clear hf25);(try clear hx25_0);(try clear hx284_0);(try clear p2);(try clear p25);(try clear p284);(try clear q25);(try clear q284)
         obtain ⟨x55_3,x283000_3,x283001_3,x283002_3,x284000_3,x284001_3,x284002_3,rfl,HA,HK3,BK283,HI282,HB⟩:=hrel
         cases gk with
         | zero => exact absurd HA.out (by simp [tachographlaw03_CursorPlays.l1])
         | succ k3 =>
          have H:=HA.out
          clear HA
          simp only [tachographlaw03_CursorPlays.l1] at H
          by_cases c28 : x55_3 < (l1.length : Int)
          ·rw [if_pos c28] at H
           have c28b0 : decide (x55_3 < (l1.length : Int)) = true:=decide_eq_true c28
           (try simp only [hl5_2] at c28b0)
           clear c28
           by_cases c29 : 0 ≤ x55_3
           ·rw [if_pos c29] at H
            have c29b0 : decide (0 ≤ x55_3) = true:=decide_eq_true c29
            clear c29
            by_cases c30 : x55_3 < (l1.length : Int)
            ·rw [if_pos c30] at H
             have c30b0 : decide (x55_3 < (l1.length : Int)) = true:=decide_eq_true c30
             (try simp only [hl5_2] at c30b0)
             clear c30
             have HC31:=Aside0.mk H
             clear H
             have p287 : 0 ≤ (x55_3 : Int):=of_decide_eq_true (by first | (with_reducible assumption) | assumption)
             have q287 : x55_3 < (l1.length : Int):=of_decide_eq_true (by first | (with_reducible assumption) | assumption)
             obtain ⟨ad287,e287,hx287_0,hx287_1⟩:=at_T61 HR1.out x55_3 p287 q287
             cases e287
             replace hx287_0:=(HB.out.cell (World.block_lt_of_cell? w _ hx287_0)).trans hx287_0
             replace hx287_1:=(HB.out.cell (World.block_lt_of_cell? w _ hx287_1)).trans hx287_1
             replace p287:=eq_true p287
             replace q287:=eq_true q287
             go_upto_block 4 with (first | ((with_reducible refine gate_dst (N:=10) rfl ?_);(try (refine gate_guard (by rfl) ?_;dsimp only));refine box_event ?hg (N:=10) ?hd (cs:=#[.int .i64 0,.int .i64 0]) (t:=61) ?hr ?_;(case hd => rfl);(case hg => rfl);(case hr => first | (go_simp;done) | (go_simp;rfl));intro gb288 hg w32 hbox hb;have n0_:=Aside0.mk (blk_below (g:=gb283) (o:=.cells #[.string x284000_3,.int .i64 x284001_3,.int .i64 x284002_3] 59 (0,0)) (by (with_reducible repeat (first | refine blk_drewN ?_ _ | refine blk_drew ?_ | refine blk_alloc ?_ _));exact BK283.out) hb);have n1_:=Aside0.mk (IsS102.below (by repeat (first | (with_reducible first | exact HI282.out | apply IsS102.alloc | apply IsS102.drewN | apply IsS102.drew | apply IsS102.set_0 | apply IsS102.set_1 | apply IsS102.set_2 | refine IsS102.far ?_ NB282_283.out _) | exact HI282.out)) hb);have n2_:=Aside0.mk (below_step (by repeat (first | (with_reducible first | exact HB.out | apply below_alloc | apply pw_below_drewN | apply below_drew1 | refine below_set ?_ (IsS102.ge HI282.out) | refine below_set ?_ GE283.out) | exact HB.out)) hb);have n3_:=Aside0.mk (hbox);have n4_:=Aside0.mk ((by rw [hg];exact (below_size (by repeat (first | (with_reducible first | exact HB.out | apply below_alloc | apply pw_below_drewN | apply below_drew1 | refine below_set ?_ (IsS102.ge HI282.out) | refine below_set ?_ GE283.out) | exact HB.out))) : w.heap.size ≤ gb288));have n5_:=Aside0.mk ((by rw [hg];exact (below_size (by repeat (first | (with_reducible first | exact HB.out | apply below_alloc | apply pw_below_drewN | apply below_drew1 | refine below_set ?_ (IsS102.ge HI282.out) | refine below_set ?_ GE283.out) | exact HB.out))) : w.heap.size ≤ gb288));have n6_:=Aside0.mk ((by rw [hg];exact Nat.ne_of_lt (blk_lt (g:=gb283) (o:=.cells #[.string x284000_3,.int .i64 x284001_3,.int .i64 x284002_3] 59 (0,0)) (by (with_reducible repeat (first | refine blk_drewN ?_ _ | refine blk_drew ?_ | refine blk_alloc ?_ _));exact BK283.out)) : gb283 ≠ gb288));have n7_:=Aside0.mk ((by rw [hg];exact Nat.ne_of_gt (blk_lt (g:=gb283) (o:=.cells #[.string x284000_3,.int .i64 x284001_3,.int .i64 x284002_3] 59 (0,0)) (by (with_reducible repeat (first | refine blk_drewN ?_ _ | refine blk_drew ?_ | refine blk_alloc ?_ _));exact BK283.out)) : gb288 ≠ gb283));have n8_:=Aside0.mk ((by rw [hg];exact Nat.ne_of_lt (IsS102.lt (show IsS102 w _ g282 x283000_3 x283001_3 x283002_3 from by repeat (first | (with_reducible first | exact HI282.out | apply IsS102.alloc | apply IsS102.drewN | apply IsS102.drew | apply IsS102.set_0 | apply IsS102.set_1 | apply IsS102.set_2 | refine IsS102.far ?_ NB282_283.out _) | exact HI282.out))) : g282 ≠ gb288));have n9_:=Aside0.mk ((by rw [hg];exact Nat.ne_of_gt (IsS102.lt (show IsS102 w _ g282 x283000_3 x283001_3 x283002_3 from by repeat (first | (with_reducible first | exact HI282.out | apply IsS102.alloc | apply IsS102.drewN | apply IsS102.drew | apply IsS102.set_0 | apply IsS102.set_1 | apply IsS102.set_2 | refine IsS102.far ?_ NB282_283.out _) | exact HI282.out))) : gb288 ≠ g282));clear BK283;clear HI282;clear HB;have BK283:=n0_;have HI282:=n1_;have HB:=n2_;have BK288:=n3_;have GW288:=n4_;have GE288:=n5_;have NB283_288:=n6_;have NB288_283:=n7_;have NB282_288:=n8_;have NB288_282:=n9_;clear n0_ n1_ n2_ n3_ n4_ n5_ n6_ n7_ n8_ n9_;clear hb hbox hg;have hnb33:=NB288_283.out;have hnc33:=NB283_288.out;have hnb34:=NB288_282.out;have hnc34:=NB282_288.out;have hcz35_0 : w32.cell? ⟨gb288,0,none⟩ = some (.int .i64 0):=(blk_cell BK288.out 0).trans rfl;have hcz35_1 : w32.cell? ⟨gb288,1,none⟩ = some (.int .i64 0):=(blk_cell BK288.out 1).trans rfl;have hfz35_0:=blk_frozen BK288.out 0;have hfz35_1:=blk_frozen BK288.out 1))
             (try simp only [Act.put,List.setIfInBounds_toArray,List.set_cons_zero,List.set_cons_succ])
             go_cut [11] (fun v11 wc => ∃ (kq : Nat) (x11_30 : Bool) (x283000_30 : ByteArray) (x283001_30 : Int) (x283002_30 : Int) (x284000_30 : ByteArray) (x284001_30 : Int) (x284002_30 : Int),v11 = .bool x11_30 ∧ Aside0 (tachographlaw03_CursorPlays.j3 kq x11_30 l1 (l1.length : Int) x55_3 x283000_30 x283001_30 x283002_30 x284000_30 x284001_30 x284002_30 = some r) ∧ Aside0 (kq ≤ k3) ∧ Aside0 (wc.heap[gb283]? = some (.cells #[.string x284000_30,.int .i64 x284001_30,.int .i64 x284002_30] 59 (0,0))) ∧ Aside0 (wc.heap[gb288]? = some (.cells #[.int .i64 ((rd_T61 l1 x55_3).f0),.int .i64 ((rd_T61 l1 x55_3).f1)] 61 (0,0))) ∧ Aside0 (IsS102 w wc g282 x283000_30 x283001_30 x283002_30) ∧ Aside0 (Below w.heap.size w wc))
             case first =>
              have H:=HC31.out
              clear HC31
              by_cases c36 : ((rd_T61 l1 x55_3).f0) = 0
              ·rw [if_pos c36] at H
               have c36b0 : (((rd_T61 l1 x55_3).f0) == 0) = true:=beq_iff_eq.mpr c36
               have c36b1 : (((rd_T61 l1 x55_3).f0) != 0) = false:=bne_eq_false_iff_eq.mpr c36
               clear c36
               (first | rw [c36b0] | (simp only [i64_w,i32_w];rw [c36b0]) | skip)
               replace H:=Option.bind_eq_some_iff.mp H
               obtain ⟨⟨t289,t290,t291,t292⟩,A370,H⟩:=H
               replace H : ((cursor_Cursor_Byte.f x283000_3 x283001_3 x283002_3).bind fun bt294 => (tachographlaw03_CursorPlays.j3 k3 (bt294.1 == t292) l1 (l1.length : Int) x55_3 bt294.2.1 bt294.2.2.1 bt294.2.2.2 t289 t290 t291)) = some r:=H
               have A37:=Aside0.mk A370
               clear A370
               replace H:=Option.bind_eq_some_iff.mp H
               obtain ⟨⟨t294,t295,t296,t297⟩,A380,H⟩:=H
               replace H : (tachographlaw03_CursorPlays.j3 k3 (t294 == t292) l1 (l1.length : Int) x55_3 t295 t296 t297 t289 t290 t291) = some r:=H
               have A38:=Aside0.mk A380
               clear A380
               have H':=Aside0.mk H
               clear H
               have hnb39:=NB283_288.out
               have hnc39:=NB288_283.out
               have hnb40:=NB283_282.out
               have hnc40:=NB282_283.out
               have hcz41_0 : w32.cell? ⟨gb283,0,none⟩ = some (.string x284000_3):=(blk_cell BK283.out 0).trans rfl
               have hcz41_1 : w32.cell? ⟨gb283,1,none⟩ = some (.int .i64 x284001_3):=(blk_cell BK283.out 1).trans rfl
               have hcz41_2 : w32.cell? ⟨gb283,2,none⟩ = some (.int .i64 x284002_3):=(blk_cell BK283.out 2).trans rfl
               have hfz41_0:=blk_frozen BK283.out 0
               have hfz41_1:=blk_frozen BK283.out 1
               have hfz41_2:=blk_frozen BK283.out 2
               try go_wp2_with (first | ((with_reducible refine gate_callee (f:=35) rfl ?_);refine goesL_ (some 65) rfl rfl Try.func35 (by kernel_rfl) rfl #[.agg #[.string x284000_3,.int .i64 x284001_3,.int .i64 x284002_3]] rfl (by (try simp only [List.map_toArray,List.map_cons,List.map_nil]);first | done | rfl | (simp only [List.length_drop,List.length_take];rfl)) ?_;(with_reducible refine (tachographref03_Cursor_Byte.calls x284000_3 x284001_3 x284002_3 t289 t290 t291 t292 _ A37.out).mono ?_);rintro e w42 ⟨rfl,hb⟩;refine ⟨_,rfl,?_⟩;have n0_:=Aside0.mk (blk_below (g:=gb283) (o:=.cells #[.string x284000_3,.int .i64 x284001_3,.int .i64 x284002_3] 59 (0,0)) (by (with_reducible repeat (first | refine blk_drewN ?_ _ | refine blk_drew ?_ | refine blk_alloc ?_ _));refine blk_far ?_ NB283_288.out _;(with_reducible repeat (first | refine blk_drewN ?_ _ | refine blk_drew ?_ | refine blk_alloc ?_ _));refine blk_far ?_ NB283_288.out _;(with_reducible repeat (first | refine blk_drewN ?_ _ | refine blk_drew ?_ | refine blk_alloc ?_ _));exact BK283.out) hb);have n1_:=Aside0.mk (IsS102.below (show IsS102 w ((w32.setCell ⟨gb288,0,none⟩ (.int .i64 ((rd_T61 l1 x55_3).f0))).setCell ⟨gb288,1,none⟩ (.int .i64 ((rd_T61 l1 x55_3).f1))) g282 x283000_3 x283001_3 x283002_3 from by repeat (first | (with_reducible first | exact HI282.out | apply IsS102.alloc | apply IsS102.drewN | apply IsS102.drew | apply IsS102.set_0 | apply IsS102.set_1 | apply IsS102.set_2 | refine IsS102.far ?_ NB282_283.out _ | refine IsS102.far ?_ NB282_288.out _) | exact HI282.out)) hb);have n2_:=Aside0.mk (blk_below (g:=gb288) (o:=.cells #[.int .i64 ((rd_T61 l1 x55_3).f0),.int .i64 ((rd_T61 l1 x55_3).f1)] 61 (0,0)) (by (with_reducible repeat (first | refine blk_drewN ?_ _ | refine blk_drew ?_ | refine blk_alloc ?_ _));refine blk_put (cs:=#[.int .i64 ((rd_T61 l1 x55_3).f0),.int .i64 0]) ?_ 1 _ rfl;(with_reducible repeat (first | refine blk_drewN ?_ _ | refine blk_drew ?_ | refine blk_alloc ?_ _));refine blk_put (cs:=#[.int .i64 0,.int .i64 0]) ?_ 0 _ rfl;(with_reducible repeat (first | refine blk_drewN ?_ _ | refine blk_drew ?_ | refine blk_alloc ?_ _));exact BK288.out) hb);have n3_:=Aside0.mk (below_step (by repeat (first | (with_reducible first | exact HB.out | apply below_alloc | apply pw_below_drewN | apply below_drew1 | refine below_set ?_ (IsS102.ge HI282.out) | refine below_set ?_ GE283.out | refine below_set ?_ GE288.out) | exact HB.out)) hb);clear BK283;clear HI282;clear BK288;clear HB;have BK283:=n0_;have HI282:=n1_;have BK288:=n2_;have HB:=n3_;clear n0_ n1_ n2_ n3_;(try clear hb);(try clear hb2);(try clear hk);(try clear hi)) | ((with_reducible refine gate_dst (N:=12) rfl ?_);(try (refine gate_guard (by rfl) ?_;dsimp only));refine box_event ?hg (N:=12) ?hd (cs:=#[.string (⟨#[]⟩ : ByteArray),.int .i64 0,.int .i64 0]) (t:=59) ?hr ?_;(case hd => rfl);(case hg => rfl);(case hr => first | (go_simp;done) | (go_simp;rfl));intro gb293 hg w43 hbox hb;have n0_:=Aside0.mk (blk_below (g:=gb283) (o:=.cells #[.string x284000_3,.int .i64 x284001_3,.int .i64 x284002_3] 59 (0,0)) (by (with_reducible repeat (first | refine blk_drewN ?_ _ | refine blk_drew ?_ | refine blk_alloc ?_ _));exact BK283.out) hb);have n1_:=Aside0.mk (IsS102.below (by repeat (first | (with_reducible first | exact HI282.out | apply IsS102.alloc | apply IsS102.drewN | apply IsS102.drew | apply IsS102.set_0 | apply IsS102.set_1 | apply IsS102.set_2 | refine IsS102.far ?_ NB282_283.out _ | refine IsS102.far ?_ NB282_288.out _) | exact HI282.out)) hb);have n2_:=Aside0.mk (blk_below (g:=gb288) (o:=.cells #[.int .i64 ((rd_T61 l1 x55_3).f0),.int .i64 ((rd_T61 l1 x55_3).f1)] 61 (0,0)) (by (with_reducible repeat (first | refine blk_drewN ?_ _ | refine blk_drew ?_ | refine blk_alloc ?_ _));exact BK288.out) hb);have n3_:=Aside0.mk (below_step (by repeat (first | (with_reducible first | exact HB.out | apply below_alloc | apply pw_below_drewN | apply below_drew1 | refine below_set ?_ (IsS102.ge HI282.out) | refine below_set ?_ GE283.out | refine below_set ?_ GE288.out) | exact HB.out)) hb);have n4_:=Aside0.mk (hbox);have n5_:=Aside0.mk ((by rw [hg];exact (below_size (by repeat (first | (with_reducible first | exact HB.out | apply below_alloc | apply pw_below_drewN | apply below_drew1 | refine below_set ?_ (IsS102.ge HI282.out) | refine below_set ?_ GE283.out | refine below_set ?_ GE288.out) | exact HB.out))) : w.heap.size ≤ gb293));have n6_:=Aside0.mk ((by rw [hg];exact (below_size (by repeat (first | (with_reducible first | exact HB.out | apply below_alloc | apply pw_below_drewN | apply below_drew1 | refine below_set ?_ (IsS102.ge HI282.out) | refine below_set ?_ GE283.out | refine below_set ?_ GE288.out) | exact HB.out))) : w.heap.size ≤ gb293));have n7_:=Aside0.mk ((by rw [hg];exact Nat.ne_of_lt (blk_lt (g:=gb283) (o:=.cells #[.string x284000_3,.int .i64 x284001_3,.int .i64 x284002_3] 59 (0,0)) (by (with_reducible repeat (first | refine blk_drewN ?_ _ | refine blk_drew ?_ | refine blk_alloc ?_ _));exact BK283.out)) : gb283 ≠ gb293));have n8_:=Aside0.mk ((by rw [hg];exact Nat.ne_of_gt (blk_lt (g:=gb283) (o:=.cells #[.string x284000_3,.int .i64 x284001_3,.int .i64 x284002_3] 59 (0,0)) (by (with_reducible repeat (first | refine blk_drewN ?_ _ | refine blk_drew ?_ | refine blk_alloc ?_ _));exact BK283.out)) : gb293 ≠ gb283));have n9_:=Aside0.mk ((by rw [hg];exact Nat.ne_of_lt (blk_lt (g:=gb288) (o:=.cells #[.int .i64 ((rd_T61 l1 x55_3).f0),.int .i64 ((rd_T61 l1 x55_3).f1)] 61 (0,0)) (by (with_reducible repeat (first | refine blk_drewN ?_ _ | refine blk_drew ?_ | refine blk_alloc ?_ _));exact BK288.out)) : gb288 ≠ gb293));have n10_:=Aside0.mk ((by rw [hg];exact Nat.ne_of_gt (blk_lt (g:=gb288) (o:=.cells #[.int .i64 ((rd_T61 l1 x55_3).f0),.int .i64 ((rd_T61 l1 x55_3).f1)] 61 (0,0)) (by (with_reducible repeat (first | refine blk_drewN ?_ _ | refine blk_drew ?_ | refine blk_alloc ?_ _));exact BK288.out)) : gb293 ≠ gb288));have n11_:=Aside0.mk ((by rw [hg];exact Nat.ne_of_lt (IsS102.lt (show IsS102 w _ g282 x283000_3 x283001_3 x283002_3 from by repeat (first | (with_reducible first | exact HI282.out | apply IsS102.alloc | apply IsS102.drewN | apply IsS102.drew | apply IsS102.set_0 | apply IsS102.set_1 | apply IsS102.set_2 | refine IsS102.far ?_ NB282_283.out _ | refine IsS102.far ?_ NB282_288.out _) | exact HI282.out))) : g282 ≠ gb293));have n12_:=Aside0.mk ((by rw [hg];exact Nat.ne_of_gt (IsS102.lt (show IsS102 w _ g282 x283000_3 x283001_3 x283002_3 from by repeat (first | (with_reducible first | exact HI282.out | apply IsS102.alloc | apply IsS102.drewN | apply IsS102.drew | apply IsS102.set_0 | apply IsS102.set_1 | apply IsS102.set_2 | refine IsS102.far ?_ NB282_283.out _ | refine IsS102.far ?_ NB282_288.out _) | exact HI282.out))) : gb293 ≠ g282));clear BK283;clear HI282;clear BK288;clear HB;have BK283:=n0_;have HI282:=n1_;have BK288:=n2_;have HB:=n3_;have BK293:=n4_;have GW293:=n5_;have GE293:=n6_;have NB283_293:=n7_;have NB293_283:=n8_;have NB288_293:=n9_;have NB293_288:=n10_;have NB282_293:=n11_;have NB293_282:=n12_;clear n0_ n1_ n2_ n3_ n4_ n5_ n6_ n7_ n8_ n9_ n10_ n11_ n12_;clear hb hbox hg;have hnb44:=NB293_283.out;have hnc44:=NB283_293.out;have hnb45:=NB293_288.out;have hnc45:=NB288_293.out;have hnb46:=NB293_282.out;have hnc46:=NB282_293.out;have hcz47_0 : w43.cell? ⟨gb293,0,none⟩ = some (.string (⟨#[]⟩ : ByteArray)):=(blk_cell BK293.out 0).trans rfl;have hcz47_1 : w43.cell? ⟨gb293,1,none⟩ = some (.int .i64 0):=(blk_cell BK293.out 1).trans rfl;have hcz47_2 : w43.cell? ⟨gb293,2,none⟩ = some (.int .i64 0):=(blk_cell BK293.out 2).trans rfl;have hfz47_0:=blk_frozen BK293.out 0;have hfz47_1:=blk_frozen BK293.out 1;have hfz47_2:=blk_frozen BK293.out 2))
               have n0_ : Aside0 ((((w43.setCell ⟨gb293,0,none⟩ (.string t289)).setCell ⟨gb293,1,none⟩ (.int .i64 t290)).setCell ⟨gb293,2,none⟩ (.int .i64 t291)).heap[gb283]? = some (.cells #[.string x284000_3,.int .i64 x284001_3,.int .i64 x284002_3] 59 (0,0))):=⟨by (with_reducible repeat (first | refine blk_drewN ?_ _ | refine blk_drew ?_ | refine blk_alloc ?_ _));refine blk_far ?_ NB283_293.out _;(with_reducible repeat (first | refine blk_drewN ?_ _ | refine blk_drew ?_ | refine blk_alloc ?_ _));refine blk_far ?_ NB283_293.out _;(with_reducible repeat (first | refine blk_drewN ?_ _ | refine blk_drew ?_ | refine blk_alloc ?_ _));refine blk_far ?_ NB283_293.out _;(with_reducible repeat (first | refine blk_drewN ?_ _ | refine blk_drew ?_ | refine blk_alloc ?_ _));exact BK283.out⟩
               have n1_ : Aside0 ((((w43.setCell ⟨gb293,0,none⟩ (.string t289)).setCell ⟨gb293,1,none⟩ (.int .i64 t290)).setCell ⟨gb293,2,none⟩ (.int .i64 t291)).heap[gb288]? = some (.cells #[.int .i64 ((rd_T61 l1 x55_3).f0),.int .i64 ((rd_T61 l1 x55_3).f1)] 61 (0,0))):=⟨by (with_reducible repeat (first | refine blk_drewN ?_ _ | refine blk_drew ?_ | refine blk_alloc ?_ _));refine blk_far ?_ NB288_293.out _;(with_reducible repeat (first | refine blk_drewN ?_ _ | refine blk_drew ?_ | refine blk_alloc ?_ _));refine blk_far ?_ NB288_293.out _;(with_reducible repeat (first | refine blk_drewN ?_ _ | refine blk_drew ?_ | refine blk_alloc ?_ _));refine blk_far ?_ NB288_293.out _;(with_reducible repeat (first | refine blk_drewN ?_ _ | refine blk_drew ?_ | refine blk_alloc ?_ _));exact BK288.out⟩
               have n2_ : Aside0 ((((w43.setCell ⟨gb293,0,none⟩ (.string t289)).setCell ⟨gb293,1,none⟩ (.int .i64 t290)).setCell ⟨gb293,2,none⟩ (.int .i64 t291)).heap[gb293]? = some (.cells #[.string t289,.int .i64 t290,.int .i64 t291] 59 (0,0))):=⟨by (with_reducible repeat (first | refine blk_drewN ?_ _ | refine blk_drew ?_ | refine blk_alloc ?_ _));refine blk_put (cs:=#[.string t289,.int .i64 t290,.int .i64 0]) ?_ 2 _ rfl;(with_reducible repeat (first | refine blk_drewN ?_ _ | refine blk_drew ?_ | refine blk_alloc ?_ _));refine blk_put (cs:=#[.string t289,.int .i64 0,.int .i64 0]) ?_ 1 _ rfl;(with_reducible repeat (first | refine blk_drewN ?_ _ | refine blk_drew ?_ | refine blk_alloc ?_ _));refine blk_put (cs:=#[.string (⟨#[]⟩ : ByteArray),.int .i64 0,.int .i64 0]) ?_ 0 _ rfl;(with_reducible repeat (first | refine blk_drewN ?_ _ | refine blk_drew ?_ | refine blk_alloc ?_ _));exact BK293.out⟩
               have n3_ : Aside0 (IsS102 w (((w43.setCell ⟨gb293,0,none⟩ (.string t289)).setCell ⟨gb293,1,none⟩ (.int .i64 t290)).setCell ⟨gb293,2,none⟩ (.int .i64 t291)) g282 x283000_3 x283001_3 x283002_3):=⟨by repeat (first | (with_reducible first | exact HI282.out | apply IsS102.alloc | apply IsS102.drewN | apply IsS102.drew | apply IsS102.set_0 | apply IsS102.set_1 | apply IsS102.set_2 | refine IsS102.far ?_ NB282_283.out _ | refine IsS102.far ?_ NB282_288.out _ | refine IsS102.far ?_ NB282_293.out _) | exact HI282.out)⟩
               have n4_ : Aside0 (Below w.heap.size w (((w43.setCell ⟨gb293,0,none⟩ (.string t289)).setCell ⟨gb293,1,none⟩ (.int .i64 t290)).setCell ⟨gb293,2,none⟩ (.int .i64 t291))):=⟨by repeat (first | (with_reducible first | exact HB.out | apply below_alloc | apply pw_below_drewN | apply below_drew1 | refine below_set ?_ (IsS102.ge HI282.out) | refine below_set ?_ GE283.out | refine below_set ?_ GE288.out | refine below_set ?_ GE293.out) | exact HB.out)⟩
               (try clear BK283)
               (try clear BK288)
               (try clear BK293)
               (try clear HI282)
               (try clear HB)
               generalize (((w43.setCell ⟨gb293,0,none⟩ (.string t289)).setCell ⟨gb293,1,none⟩ (.int .i64 t290)).setCell ⟨gb293,2,none⟩ (.int .i64 t291)) = w48 at n0_ n1_ n2_ n3_ n4_ ⊢
               have BK283:=n0_
               have BK288:=n1_
               have BK293:=n2_
               have HI282:=n3_
               have HB:=n4_
               clear n0_ n1_ n2_ n3_ n4_
               have n0_:=Aside0.mk (blk_drew BK283.out)
               have n1_:=Aside0.mk (blk_drew BK288.out)
               have n2_:=Aside0.mk (blk_drew BK293.out)
               have n3_:=Aside0.mk (IsS102.drew HI282.out)
               have n4_:=Aside0.mk (below_drew1 HB.out)
               clear BK283
               clear BK288
               clear BK293
               clear HI282
               clear HB
               have BK283:=n0_
               have BK288:=n1_
               have BK293:=n2_
               have HI282:=n3_
               have HB:=n4_
               clear n0_ n1_ n2_ n3_ n4_
               refine start_ (n:=7) (S:=fun w' => w'.cell? ⟨gb293,0,none⟩ = some (.string t289) ∧ w'.cell? ⟨gb293,1,none⟩ = some (.int .i64 t290) ∧ w'.cell? ⟨gb293,2,none⟩ = some (.int .i64 t291)) (ds:=[]) #[n_,n_,n_,n_,n_,n_,n_] (by kernel_rfl) rfl rfl ⟨(blk_cell BK293.out 0).trans rfl,(blk_cell BK293.out 1).trans rfl,(blk_cell BK293.out 2).trans rfl⟩ (fun hHeld => ?_)
               generalize w48.drew = w49 at BK283 BK288 BK293 HI282 HB hHeld ⊢
               refine pure_ (i:=1) (N:=some 69) (v:=?_) (a':=?_) #[n_,y_,n_,n_,n_,n_,n_] rfl rfl (by kernel_rfl) (fun _ _ _ h => h) (Or.inl ⟨by rfl,?_⟩) ?_ ?_
               rotate_left
               ·intro w'
                go_simp
                with_reducible rfl
               rotate_left
               ·simp only [Act.put,sA_,sB_,sC_,i64_w,i32_w]
                rfl
               refine pure_ (i:=3) (N:=some 71) (v:=?_) (a':=?_) #[n_,y_,n_,y_,n_,n_,n_] rfl rfl (by kernel_rfl) (fun _ _ _ h => h) (Or.inl ⟨by rfl,?_⟩) ?_ ?_
               rotate_left
               ·intro w'
                go_simp
                with_reducible rfl
               rotate_left
               ·simp only [Act.put,sA_,sB_,sC_,i64_w,i32_w]
                rfl
               refine take_ (i:=0) (N:=some 68) (v:=?_) (a':=?_) #[y_,y_,n_,y_,n_,n_,n_] rfl rfl (by kernel_rfl) (fun _ _ _ h => h) (Or.inl ⟨by rfl,?_⟩) hHeld ?_ ?_
               rotate_left
               ·rintro w' ⟨s0,s1,s2⟩
                go_simp
                with_reducible rfl
               rotate_left
               ·simp only [Act.put,sA_,sB_,sC_,i64_w,i32_w]
                rfl
               refine one_ (i:=2) (N:=some 70) #[y_,y_,y_,y_,n_,n_,n_] rfl rfl (by kernel_rfl) (by decide) (fun K hK => ?_)
               refine goes_ Try.func36 (by kernel_rfl) rfl #[.pointer (some ⟨g282,0,none⟩)] (by rfl) rfl rfl (by (try simp only [List.map_toArray,List.map_cons,List.map_nil]);first | done | rfl | (simp only [List.length_drop,List.length_take];rfl)) ?_
               with_reducible refine (cursor_Cursor_Byte.calls g282 x283000_3 x283001_3 x283002_3 t294 t295 t296 t297 w _ ?side1 ?side2 A38.out).mono ?_
               (case side1 => repeat (first | (with_reducible first | exact HI282.out | apply IsS102.alloc | apply IsS102.drewN | apply IsS102.drew | apply IsS102.set_0 | apply IsS102.set_1 | apply IsS102.set_2 | refine IsS102.far ?_ NB282_283.out _ | refine IsS102.far ?_ NB282_288.out _ | refine IsS102.far ?_ NB282_293.out _) | exact HI282.out))
               (case side2 => repeat (first | (with_reducible first | exact HB.out | apply below_alloc | apply pw_below_drewN | apply below_drew1 | refine below_set ?_ (IsS102.ge HI282.out) | refine below_set ?_ GE283.out | refine below_set ?_ GE288.out | refine below_set ?_ GE293.out) | exact HB.out))
               rintro e w50 ⟨rfl,hi,hb,hk⟩
               refine ⟨_,rfl,?_⟩
               have n0_:=Aside0.mk (KeepBut.blk hk (g':=gb283) (o:=.cells #[.string x284000_3,.int .i64 x284001_3,.int .i64 x284002_3] 59 (0,0)) (by (with_reducible repeat (first | refine blk_drewN ?_ _ | refine blk_drew ?_ | refine blk_alloc ?_ _));exact BK283.out) NB283_282.out (by simp))
               have n1_:=Aside0.mk (KeepBut.blk hk (g':=gb288) (o:=.cells #[.int .i64 ((rd_T61 l1 x55_3).f0),.int .i64 ((rd_T61 l1 x55_3).f1)] 61 (0,0)) (by (with_reducible repeat (first | refine blk_drewN ?_ _ | refine blk_drew ?_ | refine blk_alloc ?_ _));exact BK288.out) NB288_282.out (by simp))
               have n2_:=Aside0.mk (KeepBut.blk hk (g':=gb293) (o:=.cells #[.string t289,.int .i64 t290,.int .i64 t291] 59 (0,0)) (by (with_reducible repeat (first | refine blk_drewN ?_ _ | refine blk_drew ?_ | refine blk_alloc ?_ _));exact BK293.out) NB293_282.out (by simp))
               have n3_:=Aside0.mk (hb)
               have n4_:=Aside0.mk (hi)
               clear BK283
               clear BK288
               clear BK293
               clear HB
               clear HI282
               have BK283:=n0_
               have BK288:=n1_
               have BK293:=n2_
               have HB:=n3_
               have HI282:=n4_
               clear n0_ n1_ n2_ n3_ n4_
               (try clear hb)
               (try clear hb2)
               (try clear hk)
               (try clear hi)
               refine hK.out _ _ ⟨(blk_cell BK293.out 0).trans rfl,(blk_cell BK293.out 1).trans rfl,(blk_cell BK293.out 2).trans rfl⟩ (fun hHeld => ?_)
               clear hK K
               refine norm_ (a':=?_) ?_ ?_
               rotate_left
               ·show Act.put _ (some 70) _ = _
                simp only [Act.put,sA_,sB_,sC_,i64_w,i32_w]
                rfl
               refine pure_ (i:=4) (N:=some 72) (v:=?_) (a':=?_) #[y_,y_,y_,y_,y_,n_,n_] rfl rfl (by kernel_rfl) (fun _ _ _ h => h) (Or.inl ⟨by rfl,?_⟩) ?_ ?_
               rotate_left
               ·intro w'
                go_simp
                with_reducible rfl
               rotate_left
               ·simp only [Act.put,sA_,sB_,sC_,i64_w,i32_w]
                rfl
               refine one_ (i:=5) (N:=none) #[y_,y_,y_,y_,y_,y_,n_] rfl rfl (by kernel_rfl) (by decide) (fun K hK => ?_)
               have hs51 : w50.cell? ⟨gb283,0,none⟩ = some (.string x284000_3):=(blk_cell BK283.out 0).trans rfl
               have hfs51:=blk_frozen BK283.out 0
               have hns51_1:=NB288_283.out
               have hns51_2:=NB293_283.out
               have hms51_1:=NB283_288.out
               have hms51_2:=NB283_293.out
               have hs52 : w50.cell? ⟨gb283,1,none⟩ = some (.int .i64 x284001_3):=(blk_cell BK283.out 1).trans rfl
               have hfs52:=blk_frozen BK283.out 1
               have hns52_1:=NB288_283.out
               have hns52_2:=NB293_283.out
               have hms52_1:=NB283_288.out
               have hms52_2:=NB283_293.out
               have hs53 : w50.cell? ⟨gb283,2,none⟩ = some (.int .i64 x284002_3):=(blk_cell BK283.out 2).trans rfl
               have hfs53:=blk_frozen BK283.out 2
               have hns53_1:=NB288_283.out
               have hns53_2:=NB293_283.out
               have hms53_1:=NB283_288.out
               have hms53_2:=NB283_293.out
               refine skip_ (w1:=?_) (by rfl) rfl ?_ ?_
               rotate_left
               ·go_simp
                rfl
               refine hK.out _ _ ⟨((cell_far (p:=⟨gb283,_,none⟩) NB293_283.out _).trans (((cell_far (p:=⟨gb283,_,none⟩) NB293_283.out _).trans (((cell_far (p:=⟨gb283,_,none⟩) NB293_283.out _).trans (hHeld.1)))))),((cell_far (p:=⟨gb283,_,none⟩) NB293_283.out _).trans (((cell_far (p:=⟨gb283,_,none⟩) NB293_283.out _).trans (((cell_far (p:=⟨gb283,_,none⟩) NB293_283.out _).trans (hHeld.2.1)))))),((cell_far (p:=⟨gb283,_,none⟩) NB293_283.out _).trans (((cell_far (p:=⟨gb283,_,none⟩) NB293_283.out _).trans (((cell_far (p:=⟨gb283,_,none⟩) NB293_283.out _).trans (hHeld.2.2))))))⟩ (fun hHeld => ?_)
               clear hK K
               refine pure_ (i:=6) (N:=some 11) (v:=?_) (a':=?_) #[y_,y_,y_,y_,y_,y_,y_] rfl rfl (by kernel_rfl) (fun _ _ _ h => h) (Or.inl ⟨by rfl,?_⟩) ?_ ?_
               rotate_left
               ·intro w'
                go_simp
                with_reducible rfl
               rotate_left
               ·simp only [Act.put,sA_,sB_,sC_,i64_w,i32_w]
                rfl
               refine done_ (by kernel_rfl) ?_
               try go_wp2
               go_meet
               case rel => exact ⟨_,((t294 == t292)),(t295),(t296),(t297),(t289),(t290),(t291),(by first | rfl | (simp;done) | (simp [*];done)),H',⟨by have:=HJ2.out;have:=HK2.out;have:=HK3.out;first | omega | exact Nat.le_refl _⟩,⟨by (try simp only [hl5_2]);(with_reducible repeat (first | refine blk_drewN ?_ _ | refine blk_drew ?_ | refine blk_alloc ?_ _));refine blk_put (cs:=#[.string t289,.int .i64 t290,.int .i64 x284002_3]) ?_ 2 _ rfl;(with_reducible repeat (first | refine blk_drewN ?_ _ | refine blk_drew ?_ | refine blk_alloc ?_ _));refine blk_put (cs:=#[.string t289,.int .i64 x284001_3,.int .i64 x284002_3]) ?_ 1 _ rfl;(with_reducible repeat (first | refine blk_drewN ?_ _ | refine blk_drew ?_ | refine blk_alloc ?_ _));refine blk_put (cs:=#[.string x284000_3,.int .i64 x284001_3,.int .i64 x284002_3]) ?_ 0 _ rfl;(with_reducible repeat (first | refine blk_drewN ?_ _ | refine blk_drew ?_ | refine blk_alloc ?_ _));exact BK283.out⟩,⟨by (try simp only [hl5_2]);(with_reducible repeat (first | refine blk_drewN ?_ _ | refine blk_drew ?_ | refine blk_alloc ?_ _));refine blk_far ?_ NB288_283.out _;(with_reducible repeat (first | refine blk_drewN ?_ _ | refine blk_drew ?_ | refine blk_alloc ?_ _));refine blk_far ?_ NB288_283.out _;(with_reducible repeat (first | refine blk_drewN ?_ _ | refine blk_drew ?_ | refine blk_alloc ?_ _));refine blk_far ?_ NB288_283.out _;(with_reducible repeat (first | refine blk_drewN ?_ _ | refine blk_drew ?_ | refine blk_alloc ?_ _));exact BK288.out⟩,⟨by repeat (first | (with_reducible first | exact HI282.out | apply IsS102.alloc | apply IsS102.drewN | apply IsS102.drew | apply IsS102.set_0 | apply IsS102.set_1 | apply IsS102.set_2 | refine IsS102.far ?_ NB282_283.out _ | refine IsS102.far ?_ NB282_288.out _ | refine IsS102.far ?_ NB282_293.out _) | exact HI282.out)⟩,⟨by repeat (first | (with_reducible first | exact HB.out | apply below_alloc | apply pw_below_drewN | apply below_drew1 | refine below_set ?_ (IsS102.ge HI282.out) | refine below_set ?_ GE283.out | refine below_set ?_ GE288.out | refine below_set ?_ GE293.out) | exact HB.out)⟩⟩
              ·rw [if_neg c36] at H
               have c36b0 : (((rd_T61 l1 x55_3).f0) == 0) = false:=beq_eq_false_iff_ne.mpr c36
               have c36b1 : (((rd_T61 l1 x55_3).f0) != 0) = true:=bne_iff_ne.mpr c36
               (first | rw [c36b0] | (simp only [i64_w,i32_w];rw [c36b0]) | skip)
               by_cases c54 : ((rd_T61 l1 x55_3).f0) = 1
               ·rw [if_pos c54] at H
                have c54b0 : (((rd_T61 l1 x55_3).f0) == 1) = true:=beq_iff_eq.mpr c54
                have c54b1 : (((rd_T61 l1 x55_3).f0) != 1) = false:=bne_eq_false_iff_eq.mpr c54
                clear c54
                replace H:=Option.bind_eq_some_iff.mp H
                obtain ⟨⟨t298,t299,t300,t301⟩,A550,H⟩:=H
                replace H : ((cursor_Cursor_Number.f k3 x283000_3 x283001_3 x283002_3 (IntKind.u64.wrap ((rd_T61 l1 x55_3).f1))).bind fun bt303 => (tachographlaw03_CursorPlays.j3 k3 (bt303.1 == t301) l1 (l1.length : Int) x55_3 bt303.2.1 bt303.2.2.1 bt303.2.2.2 t298 t299 t300)) = some r:=H
                have A55:=Aside0.mk A550
                clear A550
                replace H:=Option.bind_eq_some_iff.mp H
                obtain ⟨⟨t303,t304,t305,t306⟩,A560,H⟩:=H
                replace H : (tachographlaw03_CursorPlays.j3 k3 (t303 == t301) l1 (l1.length : Int) x55_3 t304 t305 t306 t298 t299 t300) = some r:=H
                have A56:=Aside0.mk A560
                clear A560
                have H':=Aside0.mk H
                clear H
                have hnb57:=NB283_288.out
                have hnc57:=NB288_283.out
                have hnb58:=NB283_282.out
                have hnc58:=NB282_283.out
                have hcz59_0 : w32.cell? ⟨gb283,0,none⟩ = some (.string x284000_3):=(blk_cell BK283.out 0).trans rfl
                have hcz59_1 : w32.cell? ⟨gb283,1,none⟩ = some (.int .i64 x284001_3):=(blk_cell BK283.out 1).trans rfl
                have hcz59_2 : w32.cell? ⟨gb283,2,none⟩ = some (.int .i64 x284002_3):=(blk_cell BK283.out 2).trans rfl
                have hfz59_0:=blk_frozen BK283.out 0
                have hfz59_1:=blk_frozen BK283.out 1
                have hfz59_2:=blk_frozen BK283.out 2
                have hnb60:=NB288_282.out
                have hnc60:=NB282_288.out
                have hcz61_0 : w32.cell? ⟨gb288,0,none⟩ = some (.int .i64 0):=(blk_cell BK288.out 0).trans rfl
                have hcz61_1 : w32.cell? ⟨gb288,1,none⟩ = some (.int .i64 0):=(blk_cell BK288.out 1).trans rfl
                have hfz61_0:=blk_frozen BK288.out 0
                have hfz61_1:=blk_frozen BK288.out 1
                try go_wp2_with (first | ((with_reducible refine gate_callee (f:=37) rfl ?_);refine goesL_ (some 80) rfl rfl Try.func37 (by kernel_rfl) rfl #[.agg #[.string x284000_3,.int .i64 x284001_3,.int .i64 x284002_3],.int .u64 (IntKind.u64.wrap ((rd_T61 l1 x55_3).f1))] rfl (by (try simp only [List.map_toArray,List.map_cons,List.map_nil]);first | done | rfl | (simp only [List.length_drop,List.length_take];rfl)) ?_;(with_reducible refine (tachographref03_Cursor_Number.calls k3 x284000_3 x284001_3 x284002_3 (IntKind.u64.wrap ((rd_T61 l1 x55_3).f1)) t298 t299 t300 t301 _ A55.out).mono ?_);rintro e w62 ⟨rfl,hb⟩;refine ⟨_,rfl,?_⟩;have n0_:=Aside0.mk (blk_below (g:=gb283) (o:=.cells #[.string x284000_3,.int .i64 x284001_3,.int .i64 x284002_3] 59 (0,0)) (by (with_reducible repeat (first | refine blk_drewN ?_ _ | refine blk_drew ?_ | refine blk_alloc ?_ _));refine blk_far ?_ NB283_288.out _;(with_reducible repeat (first | refine blk_drewN ?_ _ | refine blk_drew ?_ | refine blk_alloc ?_ _));refine blk_far ?_ NB283_288.out _;(with_reducible repeat (first | refine blk_drewN ?_ _ | refine blk_drew ?_ | refine blk_alloc ?_ _));exact BK283.out) hb);have n1_:=Aside0.mk (IsS102.below (show IsS102 w ((w32.setCell ⟨gb288,0,none⟩ (.int .i64 ((rd_T61 l1 x55_3).f0))).setCell ⟨gb288,1,none⟩ (.int .i64 ((rd_T61 l1 x55_3).f1))) g282 x283000_3 x283001_3 x283002_3 from by repeat (first | (with_reducible first | exact HI282.out | apply IsS102.alloc | apply IsS102.drewN | apply IsS102.drew | apply IsS102.set_0 | apply IsS102.set_1 | apply IsS102.set_2 | refine IsS102.far ?_ NB282_283.out _ | refine IsS102.far ?_ NB282_288.out _) | exact HI282.out)) hb);have n2_:=Aside0.mk (blk_below (g:=gb288) (o:=.cells #[.int .i64 ((rd_T61 l1 x55_3).f0),.int .i64 ((rd_T61 l1 x55_3).f1)] 61 (0,0)) (by (with_reducible repeat (first | refine blk_drewN ?_ _ | refine blk_drew ?_ | refine blk_alloc ?_ _));refine blk_put (cs:=#[.int .i64 ((rd_T61 l1 x55_3).f0),.int .i64 0]) ?_ 1 _ rfl;(with_reducible repeat (first | refine blk_drewN ?_ _ | refine blk_drew ?_ | refine blk_alloc ?_ _));refine blk_put (cs:=#[.int .i64 0,.int .i64 0]) ?_ 0 _ rfl;(with_reducible repeat (first | refine blk_drewN ?_ _ | refine blk_drew ?_ | refine blk_alloc ?_ _));exact BK288.out) hb);have n3_:=Aside0.mk (below_step (by repeat (first | (with_reducible first | exact HB.out | apply below_alloc | apply pw_below_drewN | apply below_drew1 | refine below_set ?_ (IsS102.ge HI282.out) | refine below_set ?_ GE283.out | refine below_set ?_ GE288.out) | exact HB.out)) hb);clear BK283;clear HI282;clear BK288;clear HB;have BK283:=n0_;have HI282:=n1_;have BK288:=n2_;have HB:=n3_;clear n0_ n1_ n2_ n3_;(try clear hb);(try clear hb2);(try clear hk);(try clear hi)) | ((with_reducible refine gate_dst (N:=14) rfl ?_);(try (refine gate_guard (by rfl) ?_;dsimp only));refine box_event ?hg (N:=14) ?hd (cs:=#[.string (⟨#[]⟩ : ByteArray),.int .i64 0,.int .i64 0]) (t:=59) ?hr ?_;(case hd => rfl);(case hg => rfl);(case hr => first | (go_simp;done) | (go_simp;rfl));intro gb302 hg w63 hbox hb;have n0_:=Aside0.mk (blk_below (g:=gb283) (o:=.cells #[.string x284000_3,.int .i64 x284001_3,.int .i64 x284002_3] 59 (0,0)) (by (with_reducible repeat (first | refine blk_drewN ?_ _ | refine blk_drew ?_ | refine blk_alloc ?_ _));exact BK283.out) hb);have n1_:=Aside0.mk (IsS102.below (by repeat (first | (with_reducible first | exact HI282.out | apply IsS102.alloc | apply IsS102.drewN | apply IsS102.drew | apply IsS102.set_0 | apply IsS102.set_1 | apply IsS102.set_2 | refine IsS102.far ?_ NB282_283.out _ | refine IsS102.far ?_ NB282_288.out _) | exact HI282.out)) hb);have n2_:=Aside0.mk (blk_below (g:=gb288) (o:=.cells #[.int .i64 ((rd_T61 l1 x55_3).f0),.int .i64 ((rd_T61 l1 x55_3).f1)] 61 (0,0)) (by (with_reducible repeat (first | refine blk_drewN ?_ _ | refine blk_drew ?_ | refine blk_alloc ?_ _));exact BK288.out) hb);have n3_:=Aside0.mk (below_step (by repeat (first | (with_reducible first | exact HB.out | apply below_alloc | apply pw_below_drewN | apply below_drew1 | refine below_set ?_ (IsS102.ge HI282.out) | refine below_set ?_ GE283.out | refine below_set ?_ GE288.out) | exact HB.out)) hb);have n4_:=Aside0.mk (hbox);have n5_:=Aside0.mk ((by rw [hg];exact (below_size (by repeat (first | (with_reducible first | exact HB.out | apply below_alloc | apply pw_below_drewN | apply below_drew1 | refine below_set ?_ (IsS102.ge HI282.out) | refine below_set ?_ GE283.out | refine below_set ?_ GE288.out) | exact HB.out))) : w.heap.size ≤ gb302));have n6_:=Aside0.mk ((by rw [hg];exact (below_size (by repeat (first | (with_reducible first | exact HB.out | apply below_alloc | apply pw_below_drewN | apply below_drew1 | refine below_set ?_ (IsS102.ge HI282.out) | refine below_set ?_ GE283.out | refine below_set ?_ GE288.out) | exact HB.out))) : w.heap.size ≤ gb302));have n7_:=Aside0.mk ((by rw [hg];exact Nat.ne_of_lt (blk_lt (g:=gb283) (o:=.cells #[.string x284000_3,.int .i64 x284001_3,.int .i64 x284002_3] 59 (0,0)) (by (with_reducible repeat (first | refine blk_drewN ?_ _ | refine blk_drew ?_ | refine blk_alloc ?_ _));exact BK283.out)) : gb283 ≠ gb302));have n8_:=Aside0.mk ((by rw [hg];exact Nat.ne_of_gt (blk_lt (g:=gb283) (o:=.cells #[.string x284000_3,.int .i64 x284001_3,.int .i64 x284002_3] 59 (0,0)) (by (with_reducible repeat (first | refine blk_drewN ?_ _ | refine blk_drew ?_ | refine blk_alloc ?_ _));exact BK283.out)) : gb302 ≠ gb283));have n9_:=Aside0.mk ((by rw [hg];exact Nat.ne_of_lt (blk_lt (g:=gb288) (o:=.cells #[.int .i64 ((rd_T61 l1 x55_3).f0),.int .i64 ((rd_T61 l1 x55_3).f1)] 61 (0,0)) (by (with_reducible repeat (first | refine blk_drewN ?_ _ | refine blk_drew ?_ | refine blk_alloc ?_ _));exact BK288.out)) : gb288 ≠ gb302));have n10_:=Aside0.mk ((by rw [hg];exact Nat.ne_of_gt (blk_lt (g:=gb288) (o:=.cells #[.int .i64 ((rd_T61 l1 x55_3).f0),.int .i64 ((rd_T61 l1 x55_3).f1)] 61 (0,0)) (by (with_reducible repeat (first | refine blk_drewN ?_ _ | refine blk_drew ?_ | refine blk_alloc ?_ _));exact BK288.out)) : gb302 ≠ gb288));have n11_:=Aside0.mk ((by rw [hg];exact Nat.ne_of_lt (IsS102.lt (show IsS102 w _ g282 x283000_3 x283001_3 x283002_3 from by repeat (first | (with_reducible first | exact HI282.out | apply IsS102.alloc | apply IsS102.drewN | apply IsS102.drew | apply IsS102.set_0 | apply IsS102.set_1 | apply IsS102.set_2 | refine IsS102.far ?_ NB282_283.out _ | refine IsS102.far ?_ NB282_288.out _) | exact HI282.out))) : g282 ≠ gb302));have n12_:=Aside0.mk ((by rw [hg];exact Nat.ne_of_gt (IsS102.lt (show IsS102 w _ g282 x283000_3 x283001_3 x283002_3 from by repeat (first | (with_reducible first | exact HI282.out | apply IsS102.alloc | apply IsS102.drewN | apply IsS102.drew | apply IsS102.set_0 | apply IsS102.set_1 | apply IsS102.set_2 | refine IsS102.far ?_ NB282_283.out _ | refine IsS102.far ?_ NB282_288.out _) | exact HI282.out))) : gb302 ≠ g282));clear BK283;clear HI282;clear BK288;clear HB;have BK283:=n0_;have HI282:=n1_;have BK288:=n2_;have HB:=n3_;have BK302:=n4_;have GW302:=n5_;have GE302:=n6_;have NB283_302:=n7_;have NB302_283:=n8_;have NB288_302:=n9_;have NB302_288:=n10_;have NB282_302:=n11_;have NB302_282:=n12_;clear n0_ n1_ n2_ n3_ n4_ n5_ n6_ n7_ n8_ n9_ n10_ n11_ n12_;clear hb hbox hg;have hnb64:=NB302_283.out;have hnc64:=NB283_302.out;have hnb65:=NB302_288.out;have hnc65:=NB288_302.out;have hnb66:=NB302_282.out;have hnc66:=NB282_302.out;have hcz67_0 : w63.cell? ⟨gb302,0,none⟩ = some (.string (⟨#[]⟩ : ByteArray)):=(blk_cell BK302.out 0).trans rfl;have hcz67_1 : w63.cell? ⟨gb302,1,none⟩ = some (.int .i64 0):=(blk_cell BK302.out 1).trans rfl;have hcz67_2 : w63.cell? ⟨gb302,2,none⟩ = some (.int .i64 0):=(blk_cell BK302.out 2).trans rfl;have hfz67_0:=blk_frozen BK302.out 0;have hfz67_1:=blk_frozen BK302.out 1;have hfz67_2:=blk_frozen BK302.out 2))
                have n0_ : Aside0 ((((w63.setCell ⟨gb302,0,none⟩ (.string t298)).setCell ⟨gb302,1,none⟩ (.int .i64 t299)).setCell ⟨gb302,2,none⟩ (.int .i64 t300)).heap[gb283]? = some (.cells #[.string x284000_3,.int .i64 x284001_3,.int .i64 x284002_3] 59 (0,0))):=⟨by (with_reducible repeat (first | refine blk_drewN ?_ _ | refine blk_drew ?_ | refine blk_alloc ?_ _));refine blk_far ?_ NB283_302.out _;(with_reducible repeat (first | refine blk_drewN ?_ _ | refine blk_drew ?_ | refine blk_alloc ?_ _));refine blk_far ?_ NB283_302.out _;(with_reducible repeat (first | refine blk_drewN ?_ _ | refine blk_drew ?_ | refine blk_alloc ?_ _));refine blk_far ?_ NB283_302.out _;(with_reducible repeat (first | refine blk_drewN ?_ _ | refine blk_drew ?_ | refine blk_alloc ?_ _));exact BK283.out⟩
                have n1_ : Aside0 ((((w63.setCell ⟨gb302,0,none⟩ (.string t298)).setCell ⟨gb302,1,none⟩ (.int .i64 t299)).setCell ⟨gb302,2,none⟩ (.int .i64 t300)).heap[gb288]? = some (.cells #[.int .i64 ((rd_T61 l1 x55_3).f0),.int .i64 ((rd_T61 l1 x55_3).f1)] 61 (0,0))):=⟨by (with_reducible repeat (first | refine blk_drewN ?_ _ | refine blk_drew ?_ | refine blk_alloc ?_ _));refine blk_far ?_ NB288_302.out _;(with_reducible repeat (first | refine blk_drewN ?_ _ | refine blk_drew ?_ | refine blk_alloc ?_ _));refine blk_far ?_ NB288_302.out _;(with_reducible repeat (first | refine blk_drewN ?_ _ | refine blk_drew ?_ | refine blk_alloc ?_ _));refine blk_far ?_ NB288_302.out _;(with_reducible repeat (first | refine blk_drewN ?_ _ | refine blk_drew ?_ | refine blk_alloc ?_ _));exact BK288.out⟩
                have n2_ : Aside0 ((((w63.setCell ⟨gb302,0,none⟩ (.string t298)).setCell ⟨gb302,1,none⟩ (.int .i64 t299)).setCell ⟨gb302,2,none⟩ (.int .i64 t300)).heap[gb302]? = some (.cells #[.string t298,.int .i64 t299,.int .i64 t300] 59 (0,0))):=⟨by (with_reducible repeat (first | refine blk_drewN ?_ _ | refine blk_drew ?_ | refine blk_alloc ?_ _));refine blk_put (cs:=#[.string t298,.int .i64 t299,.int .i64 0]) ?_ 2 _ rfl;(with_reducible repeat (first | refine blk_drewN ?_ _ | refine blk_drew ?_ | refine blk_alloc ?_ _));refine blk_put (cs:=#[.string t298,.int .i64 0,.int .i64 0]) ?_ 1 _ rfl;(with_reducible repeat (first | refine blk_drewN ?_ _ | refine blk_drew ?_ | refine blk_alloc ?_ _));refine blk_put (cs:=#[.string (⟨#[]⟩ : ByteArray),.int .i64 0,.int .i64 0]) ?_ 0 _ rfl;(with_reducible repeat (first | refine blk_drewN ?_ _ | refine blk_drew ?_ | refine blk_alloc ?_ _));exact BK302.out⟩
                have n3_ : Aside0 (IsS102 w (((w63.setCell ⟨gb302,0,none⟩ (.string t298)).setCell ⟨gb302,1,none⟩ (.int .i64 t299)).setCell ⟨gb302,2,none⟩ (.int .i64 t300)) g282 x283000_3 x283001_3 x283002_3):=⟨by repeat (first | (with_reducible first | exact HI282.out | apply IsS102.alloc | apply IsS102.drewN | apply IsS102.drew | apply IsS102.set_0 | apply IsS102.set_1 | apply IsS102.set_2 | refine IsS102.far ?_ NB282_283.out _ | refine IsS102.far ?_ NB282_288.out _ | refine IsS102.far ?_ NB282_302.out _) | exact HI282.out)⟩
                have n4_ : Aside0 (Below w.heap.size w (((w63.setCell ⟨gb302,0,none⟩ (.string t298)).setCell ⟨gb302,1,none⟩ (.int .i64 t299)).setCell ⟨gb302,2,none⟩ (.int .i64 t300))):=⟨by repeat (first | (with_reducible first | exact HB.out | apply below_alloc | apply pw_below_drewN | apply below_drew1 | refine below_set ?_ (IsS102.ge HI282.out) | refine below_set ?_ GE283.out | refine below_set ?_ GE288.out | refine below_set ?_ GE302.out) | exact HB.out)⟩
                (try clear BK283)
                (try clear BK288)
                (try clear BK302)
                (try clear HI282)
                (try clear HB)
                generalize (((w63.setCell ⟨gb302,0,none⟩ (.string t298)).setCell ⟨gb302,1,none⟩ (.int .i64 t299)).setCell ⟨gb302,2,none⟩ (.int .i64 t300)) = w68 at n0_ n1_ n2_ n3_ n4_ ⊢
                have BK283:=n0_
                have BK288:=n1_
                have BK302:=n2_
                have HI282:=n3_
                have HB:=n4_
                clear n0_ n1_ n2_ n3_ n4_
                have n0_:=Aside0.mk (blk_drew BK283.out)
                have n1_:=Aside0.mk (blk_drew BK288.out)
                have n2_:=Aside0.mk (blk_drew BK302.out)
                have n3_:=Aside0.mk (IsS102.drew HI282.out)
                have n4_:=Aside0.mk (below_drew1 HB.out)
                clear BK283
                clear BK288
                clear BK302
                clear HI282
                clear HB
                have BK283:=n0_
                have BK288:=n1_
                have BK302:=n2_
                have HI282:=n3_
                have HB:=n4_
                clear n0_ n1_ n2_ n3_ n4_
                refine start_ (n:=10) (S:=fun w' => w'.cell? ⟨gb302,0,none⟩ = some (.string t298) ∧ w'.cell? ⟨gb302,1,none⟩ = some (.int .i64 t299) ∧ w'.cell? ⟨gb302,2,none⟩ = some (.int .i64 t300) ∧ w'.cell? ⟨gb288,0,none⟩ = some (.int .i64 ((rd_T61 l1 x55_3).f0)) ∧ w'.cell? ⟨gb288,1,none⟩ = some (.int .i64 ((rd_T61 l1 x55_3).f1))) (ds:=[]) #[n_,n_,n_,n_,n_,n_,n_,n_,n_,n_] (by kernel_rfl) rfl rfl ⟨(blk_cell BK302.out 0).trans rfl,(blk_cell BK302.out 1).trans rfl,(blk_cell BK302.out 2).trans rfl,(blk_cell BK288.out 0).trans rfl,(blk_cell BK288.out 1).trans rfl⟩ (fun hHeld => ?_);refine with_tabW tachographlaw03_CursorPlays.tab22 tachographlaw03_CursorPlays.bits22 (fun HT_ HW_ => ?_)
                generalize w68.drew = w69 at BK283 BK288 BK302 HI282 HB hHeld ⊢
                refine pure_ (i:=1) (N:=some 84) (v:=?_) (a':=?_) #[n_,y_,n_,n_,n_,n_,n_,n_,n_,n_] rfl rfl (any_of HT_.out (by kernel_rfl)) (fun _ _ _ h => h) (Or.inl ⟨by rfl,?_⟩) ?_ ?_
                rotate_left
                ·intro w'
                 go_simp
                 with_reducible rfl
                rotate_left
                ·simp only [Act.put,sA_,sB_,sC_,i64_w,i32_w]
                 rfl
                refine pure_ (i:=2) (N:=some 85) (v:=?_) (a':=?_) #[n_,y_,y_,n_,n_,n_,n_,n_,n_,n_] rfl rfl (any_of HT_.out (by kernel_rfl)) (fun _ _ _ h => h) (Or.inl ⟨by rfl,?_⟩) ?_ ?_
                rotate_left
                ·intro w'
                 go_simp
                 with_reducible rfl
                rotate_left
                ·simp only [Act.put,sA_,sB_,sC_,i64_w,i32_w]
                 rfl
                refine pure_ (i:=6) (N:=some 89) (v:=?_) (a':=?_) #[n_,y_,y_,n_,n_,n_,y_,n_,n_,n_] rfl rfl (any_of HT_.out (by kernel_rfl)) (fun _ _ _ h => h) (Or.inl ⟨by rfl,?_⟩) ?_ ?_
                rotate_left
                ·intro w'
                 go_simp
                 with_reducible rfl
                rotate_left
                ·simp only [Act.put,sA_,sB_,sC_,i64_w,i32_w]
                 rfl
                refine take_ (i:=0) (N:=some 83) (v:=?_) (a':=?_) #[y_,y_,y_,n_,n_,n_,y_,n_,n_,n_] rfl rfl (take_ofW HT_.out HW_.out (by kernel_rfl)) (fun _ _ _ h => h) (Or.inl ⟨by rfl,?_⟩) hHeld ?_ ?_
                rotate_left
                ·rintro w' ⟨s0,s1,s2,s3,s4⟩
                 go_simp
                 with_reducible rfl
                rotate_left
                ·simp only [Act.put,sA_,sB_,sC_,i64_w,i32_w]
                 rfl
                refine take_ (i:=3) (N:=some 86) (v:=?_) (a':=?_) #[y_,y_,y_,y_,n_,n_,y_,n_,n_,n_] rfl rfl (take_ofW HT_.out HW_.out (by kernel_rfl)) (fun _ _ _ h => h) (Or.inl ⟨by rfl,?_⟩) hHeld ?_ ?_
                rotate_left
                ·rintro w' ⟨s0,s1,s2,s3,s4⟩
                 go_simp
                 with_reducible rfl
                rotate_left
                ·simp only [Act.put,sA_,sB_,sC_,i64_w,i32_w]
                 rfl
                refine pure_ (i:=4) (N:=some 87) (v:=?_) (a':=?_) #[y_,y_,y_,y_,y_,n_,y_,n_,n_,n_] rfl rfl (any_of HT_.out (by kernel_rfl)) (fun _ _ _ h => h) (Or.inl ⟨by rfl,?_⟩) ?_ ?_
                rotate_left
                ·intro w'
                 go_simp
                 with_reducible rfl
                rotate_left
                ·simp only [Act.put,sA_,sB_,sC_,i64_w,i32_w]
                 rfl
                refine one_ (i:=5) (N:=some 88) #[y_,y_,y_,y_,y_,y_,y_,n_,n_,n_] rfl rfl (one_of HT_.out (by kernel_rfl)) (by decide) (fun K hK => ?_)
                refine goes_ Try.func38 (by kernel_rfl) rfl #[.pointer (some ⟨g282,0,none⟩),.int .u64 (IntKind.u64.wrap ((rd_T61 l1 x55_3).f1))] (by rfl) rfl rfl (by (try simp only [List.map_toArray,List.map_cons,List.map_nil]);first | done | rfl | (simp only [List.length_drop,List.length_take];rfl)) ?_
                with_reducible refine (cursor_Cursor_Number.calls k3 g282 x283000_3 x283001_3 x283002_3 (IntKind.u64.wrap ((rd_T61 l1 x55_3).f1)) t303 t304 t305 t306 w _ ?side1 ?side2 A56.out).mono ?_
                (case side1 => repeat (first | (with_reducible first | exact HI282.out | apply IsS102.alloc | apply IsS102.drewN | apply IsS102.drew | apply IsS102.set_0 | apply IsS102.set_1 | apply IsS102.set_2 | refine IsS102.far ?_ NB282_283.out _ | refine IsS102.far ?_ NB282_288.out _ | refine IsS102.far ?_ NB282_302.out _) | exact HI282.out))
                (case side2 => repeat (first | (with_reducible first | exact HB.out | apply below_alloc | apply pw_below_drewN | apply below_drew1 | refine below_set ?_ (IsS102.ge HI282.out) | refine below_set ?_ GE283.out | refine below_set ?_ GE288.out | refine below_set ?_ GE302.out) | exact HB.out))
                rintro e w70 ⟨rfl,hi,hb,hk⟩
                refine ⟨_,rfl,?_⟩
                have n0_:=Aside0.mk (KeepBut.blk hk (g':=gb283) (o:=.cells #[.string x284000_3,.int .i64 x284001_3,.int .i64 x284002_3] 59 (0,0)) (by (with_reducible repeat (first | refine blk_drewN ?_ _ | refine blk_drew ?_ | refine blk_alloc ?_ _));exact BK283.out) NB283_282.out (by simp))
                have n1_:=Aside0.mk (KeepBut.blk hk (g':=gb288) (o:=.cells #[.int .i64 ((rd_T61 l1 x55_3).f0),.int .i64 ((rd_T61 l1 x55_3).f1)] 61 (0,0)) (by (with_reducible repeat (first | refine blk_drewN ?_ _ | refine blk_drew ?_ | refine blk_alloc ?_ _));exact BK288.out) NB288_282.out (by simp))
                have n2_:=Aside0.mk (KeepBut.blk hk (g':=gb302) (o:=.cells #[.string t298,.int .i64 t299,.int .i64 t300] 59 (0,0)) (by (with_reducible repeat (first | refine blk_drewN ?_ _ | refine blk_drew ?_ | refine blk_alloc ?_ _));exact BK302.out) NB302_282.out (by simp))
                have n3_:=Aside0.mk (hb)
                have n4_:=Aside0.mk (hi)
                clear BK283
                clear BK288
                clear BK302
                clear HB
                clear HI282
                have BK283:=n0_
                have BK288:=n1_
                have BK302:=n2_
                have HB:=n3_
                have HI282:=n4_
                clear n0_ n1_ n2_ n3_ n4_
                (try clear hb)
                (try clear hb2)
                (try clear hk)
                (try clear hi)
                refine hK.out _ _ ⟨(blk_cell BK302.out 0).trans rfl,(blk_cell BK302.out 1).trans rfl,(blk_cell BK302.out 2).trans rfl,(blk_cell BK288.out 0).trans rfl,(blk_cell BK288.out 1).trans rfl⟩ (fun hHeld => ?_)
                clear hK K
                refine norm_ (a':=?_) ?_ ?_
                rotate_left
                ·show Act.put _ (some 88) _ = _
                 simp only [Act.put,sA_,sB_,sC_,i64_w,i32_w]
                 rfl
                refine pure_ (i:=7) (N:=some 90) (v:=?_) (a':=?_) #[y_,y_,y_,y_,y_,y_,y_,y_,n_,n_] rfl rfl (any_of HT_.out (by kernel_rfl)) (fun _ _ _ h => h) (Or.inl ⟨by rfl,?_⟩) ?_ ?_
                rotate_left
                ·intro w'
                 go_simp
                 with_reducible rfl
                rotate_left
                ·simp only [Act.put,sA_,sB_,sC_,i64_w,i32_w]
                 rfl
                refine one_ (i:=8) (N:=none) #[y_,y_,y_,y_,y_,y_,y_,y_,y_,n_] rfl rfl (one_of HT_.out (by kernel_rfl)) (by decide) (fun K hK => ?_)
                have hs71 : w70.cell? ⟨gb283,0,none⟩ = some (.string x284000_3):=(blk_cell BK283.out 0).trans rfl
                have hfs71:=blk_frozen BK283.out 0
                have hns71_1:=NB288_283.out
                have hns71_2:=NB302_283.out
                have hms71_1:=NB283_288.out
                have hms71_2:=NB283_302.out
                have hs72 : w70.cell? ⟨gb283,1,none⟩ = some (.int .i64 x284001_3):=(blk_cell BK283.out 1).trans rfl
                have hfs72:=blk_frozen BK283.out 1
                have hns72_1:=NB288_283.out
                have hns72_2:=NB302_283.out
                have hms72_1:=NB283_288.out
                have hms72_2:=NB283_302.out
                have hs73 : w70.cell? ⟨gb283,2,none⟩ = some (.int .i64 x284002_3):=(blk_cell BK283.out 2).trans rfl
                have hfs73:=blk_frozen BK283.out 2
                have hns73_1:=NB288_283.out
                have hns73_2:=NB302_283.out
                have hms73_1:=NB283_288.out
                have hms73_2:=NB283_302.out
                refine skip_ (w1:=?_) (by rfl) rfl ?_ ?_
                rotate_left
                ·go_simp
                 rfl
                refine hK.out _ _ ⟨((cell_far (p:=⟨gb283,_,none⟩) NB302_283.out _).trans (((cell_far (p:=⟨gb283,_,none⟩) NB302_283.out _).trans (((cell_far (p:=⟨gb283,_,none⟩) NB302_283.out _).trans (hHeld.1)))))),((cell_far (p:=⟨gb283,_,none⟩) NB302_283.out _).trans (((cell_far (p:=⟨gb283,_,none⟩) NB302_283.out _).trans (((cell_far (p:=⟨gb283,_,none⟩) NB302_283.out _).trans (hHeld.2.1)))))),((cell_far (p:=⟨gb283,_,none⟩) NB302_283.out _).trans (((cell_far (p:=⟨gb283,_,none⟩) NB302_283.out _).trans (((cell_far (p:=⟨gb283,_,none⟩) NB302_283.out _).trans (hHeld.2.2.1)))))),((cell_far (p:=⟨gb283,_,none⟩) NB288_283.out _).trans (((cell_far (p:=⟨gb283,_,none⟩) NB288_283.out _).trans (((cell_far (p:=⟨gb283,_,none⟩) NB288_283.out _).trans (hHeld.2.2.2.1)))))),((cell_far (p:=⟨gb283,_,none⟩) NB288_283.out _).trans (((cell_far (p:=⟨gb283,_,none⟩) NB288_283.out _).trans (((cell_far (p:=⟨gb283,_,none⟩) NB288_283.out _).trans (hHeld.2.2.2.2))))))⟩ (fun hHeld => ?_)
                clear hK K
                refine pure_ (i:=9) (N:=some 11) (v:=?_) (a':=?_) #[y_,y_,y_,y_,y_,y_,y_,y_,y_,y_] rfl rfl (any_of HT_.out (by kernel_rfl)) (fun _ _ _ h => h) (Or.inl ⟨by rfl,?_⟩) ?_ ?_
                rotate_left
                ·intro w'
                 go_simp
                 with_reducible rfl
                rotate_left
                ·simp only [Act.put,sA_,sB_,sC_,i64_w,i32_w]
                 rfl
                refine done_ (done_of HT_.out (by kernel_rfl)) ?_
                try go_wp2
                go_meet
                case rel => exact ⟨_,((t303 == t301)),(t304),(t305),(t306),(t298),(t299),(t300),(by first | rfl | (simp;done) | (simp [*];done)),H',⟨by have:=HJ2.out;have:=HK2.out;have:=HK3.out;first | omega | exact Nat.le_refl _⟩,⟨by (try simp only [hl5_2]);(with_reducible repeat (first | refine blk_drewN ?_ _ | refine blk_drew ?_ | refine blk_alloc ?_ _));refine blk_put (cs:=#[.string t298,.int .i64 t299,.int .i64 x284002_3]) ?_ 2 _ rfl;(with_reducible repeat (first | refine blk_drewN ?_ _ | refine blk_drew ?_ | refine blk_alloc ?_ _));refine blk_put (cs:=#[.string t298,.int .i64 x284001_3,.int .i64 x284002_3]) ?_ 1 _ rfl;(with_reducible repeat (first | refine blk_drewN ?_ _ | refine blk_drew ?_ | refine blk_alloc ?_ _));refine blk_put (cs:=#[.string x284000_3,.int .i64 x284001_3,.int .i64 x284002_3]) ?_ 0 _ rfl;(with_reducible repeat (first | refine blk_drewN ?_ _ | refine blk_drew ?_ | refine blk_alloc ?_ _));exact BK283.out⟩,⟨by (try simp only [hl5_2]);(with_reducible repeat (first | refine blk_drewN ?_ _ | refine blk_drew ?_ | refine blk_alloc ?_ _));refine blk_far ?_ NB288_283.out _;(with_reducible repeat (first | refine blk_drewN ?_ _ | refine blk_drew ?_ | refine blk_alloc ?_ _));refine blk_far ?_ NB288_283.out _;(with_reducible repeat (first | refine blk_drewN ?_ _ | refine blk_drew ?_ | refine blk_alloc ?_ _));refine blk_far ?_ NB288_283.out _;(with_reducible repeat (first | refine blk_drewN ?_ _ | refine blk_drew ?_ | refine blk_alloc ?_ _));exact BK288.out⟩,⟨by repeat (first | (with_reducible first | exact HI282.out | apply IsS102.alloc | apply IsS102.drewN | apply IsS102.drew | apply IsS102.set_0 | apply IsS102.set_1 | apply IsS102.set_2 | refine IsS102.far ?_ NB282_283.out _ | refine IsS102.far ?_ NB282_288.out _ | refine IsS102.far ?_ NB282_302.out _) | exact HI282.out)⟩,⟨by repeat (first | (with_reducible first | exact HB.out | apply below_alloc | apply pw_below_drewN | apply below_drew1 | refine below_set ?_ (IsS102.ge HI282.out) | refine below_set ?_ GE283.out | refine below_set ?_ GE288.out | refine below_set ?_ GE302.out) | exact HB.out)⟩⟩
               ·rw [if_neg c54] at H
                have c54b0 : (((rd_T61 l1 x55_3).f0) == 1) = false:=beq_eq_false_iff_ne.mpr c54
                have c54b1 : (((rd_T61 l1 x55_3).f0) != 1) = true:=bne_iff_ne.mpr c54
                by_cases c74 : ((rd_T61 l1 x55_3).f0) = 2
                ·rw [if_pos c74] at H
                 have c74b0 : (((rd_T61 l1 x55_3).f0) == 2) = true:=beq_iff_eq.mpr c74
                 have c74b1 : (((rd_T61 l1 x55_3).f0) != 2) = false:=bne_eq_false_iff_eq.mpr c74
                 clear c74
                 replace H:=Option.bind_eq_some_iff.mp H
                 obtain ⟨⟨t307,t308,t309,t310⟩,A750,H⟩:=H
                 replace H : ((cursor_Cursor_Signed.f k3 x283000_3 x283001_3 x283002_3).bind fun bt312 => (tachographlaw03_CursorPlays.j3 k3 (bt312.1 == t310) l1 (l1.length : Int) x55_3 bt312.2.1 bt312.2.2.1 bt312.2.2.2 t307 t308 t309)) = some r:=H
                 have A75:=Aside0.mk A750
                 clear A750
                 replace H:=Option.bind_eq_some_iff.mp H
                 obtain ⟨⟨t312,t313,t314,t315⟩,A760,H⟩:=H
                 replace H : (tachographlaw03_CursorPlays.j3 k3 (t312 == t310) l1 (l1.length : Int) x55_3 t313 t314 t315 t307 t308 t309) = some r:=H
                 have A76:=Aside0.mk A760
                 clear A760
                 have H':=Aside0.mk H
                 clear H
                 have hnb77:=NB283_288.out
                 have hnc77:=NB288_283.out
                 have hnb78:=NB283_282.out
                 have hnc78:=NB282_283.out
                 have hcz79_0 : w32.cell? ⟨gb283,0,none⟩ = some (.string x284000_3):=(blk_cell BK283.out 0).trans rfl
                 have hcz79_1 : w32.cell? ⟨gb283,1,none⟩ = some (.int .i64 x284001_3):=(blk_cell BK283.out 1).trans rfl
                 have hcz79_2 : w32.cell? ⟨gb283,2,none⟩ = some (.int .i64 x284002_3):=(blk_cell BK283.out 2).trans rfl
                 have hfz79_0:=blk_frozen BK283.out 0
                 have hfz79_1:=blk_frozen BK283.out 1
                 have hfz79_2:=blk_frozen BK283.out 2
                 try go_wp2_with (first | ((with_reducible refine gate_callee (f:=39) rfl ?_);refine goesL_ (some 95) rfl rfl Try.func39 (by kernel_rfl) rfl #[.agg #[.string x284000_3,.int .i64 x284001_3,.int .i64 x284002_3]] rfl (by (try simp only [List.map_toArray,List.map_cons,List.map_nil]);first | done | rfl | (simp only [List.length_drop,List.length_take];rfl)) ?_;(with_reducible refine (tachographref03_Cursor_Signed.calls k3 x284000_3 x284001_3 x284002_3 t307 t308 t309 t310 _ A75.out).mono ?_);rintro e w80 ⟨rfl,hb⟩;refine ⟨_,rfl,?_⟩;have n0_:=Aside0.mk (blk_below (g:=gb283) (o:=.cells #[.string x284000_3,.int .i64 x284001_3,.int .i64 x284002_3] 59 (0,0)) (by (with_reducible repeat (first | refine blk_drewN ?_ _ | refine blk_drew ?_ | refine blk_alloc ?_ _));refine blk_far ?_ NB283_288.out _;(with_reducible repeat (first | refine blk_drewN ?_ _ | refine blk_drew ?_ | refine blk_alloc ?_ _));refine blk_far ?_ NB283_288.out _;(with_reducible repeat (first | refine blk_drewN ?_ _ | refine blk_drew ?_ | refine blk_alloc ?_ _));exact BK283.out) hb);have n1_:=Aside0.mk (IsS102.below (show IsS102 w ((w32.setCell ⟨gb288,0,none⟩ (.int .i64 ((rd_T61 l1 x55_3).f0))).setCell ⟨gb288,1,none⟩ (.int .i64 ((rd_T61 l1 x55_3).f1))) g282 x283000_3 x283001_3 x283002_3 from by repeat (first | (with_reducible first | exact HI282.out | apply IsS102.alloc | apply IsS102.drewN | apply IsS102.drew | apply IsS102.set_0 | apply IsS102.set_1 | apply IsS102.set_2 | refine IsS102.far ?_ NB282_283.out _ | refine IsS102.far ?_ NB282_288.out _) | exact HI282.out)) hb);have n2_:=Aside0.mk (blk_below (g:=gb288) (o:=.cells #[.int .i64 ((rd_T61 l1 x55_3).f0),.int .i64 ((rd_T61 l1 x55_3).f1)] 61 (0,0)) (by (with_reducible repeat (first | refine blk_drewN ?_ _ | refine blk_drew ?_ | refine blk_alloc ?_ _));refine blk_put (cs:=#[.int .i64 ((rd_T61 l1 x55_3).f0),.int .i64 0]) ?_ 1 _ rfl;(with_reducible repeat (first | refine blk_drewN ?_ _ | refine blk_drew ?_ | refine blk_alloc ?_ _));refine blk_put (cs:=#[.int .i64 0,.int .i64 0]) ?_ 0 _ rfl;(with_reducible repeat (first | refine blk_drewN ?_ _ | refine blk_drew ?_ | refine blk_alloc ?_ _));exact BK288.out) hb);have n3_:=Aside0.mk (below_step (by repeat (first | (with_reducible first | exact HB.out | apply below_alloc | apply pw_below_drewN | apply below_drew1 | refine below_set ?_ (IsS102.ge HI282.out) | refine below_set ?_ GE283.out | refine below_set ?_ GE288.out) | exact HB.out)) hb);clear BK283;clear HI282;clear BK288;clear HB;have BK283:=n0_;have HI282:=n1_;have BK288:=n2_;have HB:=n3_;clear n0_ n1_ n2_ n3_;(try clear hb);(try clear hb2);(try clear hk);(try clear hi)) | ((with_reducible refine gate_dst (N:=16) rfl ?_);(try (refine gate_guard (by rfl) ?_;dsimp only));refine box_event ?hg (N:=16) ?hd (cs:=#[.string (⟨#[]⟩ : ByteArray),.int .i64 0,.int .i64 0]) (t:=59) ?hr ?_;(case hd => rfl);(case hg => rfl);(case hr => first | (go_simp;done) | (go_simp;rfl));intro gb311 hg w81 hbox hb;have n0_:=Aside0.mk (blk_below (g:=gb283) (o:=.cells #[.string x284000_3,.int .i64 x284001_3,.int .i64 x284002_3] 59 (0,0)) (by (with_reducible repeat (first | refine blk_drewN ?_ _ | refine blk_drew ?_ | refine blk_alloc ?_ _));exact BK283.out) hb);have n1_:=Aside0.mk (IsS102.below (by repeat (first | (with_reducible first | exact HI282.out | apply IsS102.alloc | apply IsS102.drewN | apply IsS102.drew | apply IsS102.set_0 | apply IsS102.set_1 | apply IsS102.set_2 | refine IsS102.far ?_ NB282_283.out _ | refine IsS102.far ?_ NB282_288.out _) | exact HI282.out)) hb);have n2_:=Aside0.mk (blk_below (g:=gb288) (o:=.cells #[.int .i64 ((rd_T61 l1 x55_3).f0),.int .i64 ((rd_T61 l1 x55_3).f1)] 61 (0,0)) (by (with_reducible repeat (first | refine blk_drewN ?_ _ | refine blk_drew ?_ | refine blk_alloc ?_ _));exact BK288.out) hb);have n3_:=Aside0.mk (below_step (by repeat (first | (with_reducible first | exact HB.out | apply below_alloc | apply pw_below_drewN | apply below_drew1 | refine below_set ?_ (IsS102.ge HI282.out) | refine below_set ?_ GE283.out | refine below_set ?_ GE288.out) | exact HB.out)) hb);have n4_:=Aside0.mk (hbox);have n5_:=Aside0.mk ((by rw [hg];exact (below_size (by repeat (first | (with_reducible first | exact HB.out | apply below_alloc | apply pw_below_drewN | apply below_drew1 | refine below_set ?_ (IsS102.ge HI282.out) | refine below_set ?_ GE283.out | refine below_set ?_ GE288.out) | exact HB.out))) : w.heap.size ≤ gb311));have n6_:=Aside0.mk ((by rw [hg];exact (below_size (by repeat (first | (with_reducible first | exact HB.out | apply below_alloc | apply pw_below_drewN | apply below_drew1 | refine below_set ?_ (IsS102.ge HI282.out) | refine below_set ?_ GE283.out | refine below_set ?_ GE288.out) | exact HB.out))) : w.heap.size ≤ gb311));have n7_:=Aside0.mk ((by rw [hg];exact Nat.ne_of_lt (blk_lt (g:=gb283) (o:=.cells #[.string x284000_3,.int .i64 x284001_3,.int .i64 x284002_3] 59 (0,0)) (by (with_reducible repeat (first | refine blk_drewN ?_ _ | refine blk_drew ?_ | refine blk_alloc ?_ _));exact BK283.out)) : gb283 ≠ gb311));have n8_:=Aside0.mk ((by rw [hg];exact Nat.ne_of_gt (blk_lt (g:=gb283) (o:=.cells #[.string x284000_3,.int .i64 x284001_3,.int .i64 x284002_3] 59 (0,0)) (by (with_reducible repeat (first | refine blk_drewN ?_ _ | refine blk_drew ?_ | refine blk_alloc ?_ _));exact BK283.out)) : gb311 ≠ gb283));have n9_:=Aside0.mk ((by rw [hg];exact Nat.ne_of_lt (blk_lt (g:=gb288) (o:=.cells #[.int .i64 ((rd_T61 l1 x55_3).f0),.int .i64 ((rd_T61 l1 x55_3).f1)] 61 (0,0)) (by (with_reducible repeat (first | refine blk_drewN ?_ _ | refine blk_drew ?_ | refine blk_alloc ?_ _));exact BK288.out)) : gb288 ≠ gb311));have n10_:=Aside0.mk ((by rw [hg];exact Nat.ne_of_gt (blk_lt (g:=gb288) (o:=.cells #[.int .i64 ((rd_T61 l1 x55_3).f0),.int .i64 ((rd_T61 l1 x55_3).f1)] 61 (0,0)) (by (with_reducible repeat (first | refine blk_drewN ?_ _ | refine blk_drew ?_ | refine blk_alloc ?_ _));exact BK288.out)) : gb311 ≠ gb288));have n11_:=Aside0.mk ((by rw [hg];exact Nat.ne_of_lt (IsS102.lt (show IsS102 w _ g282 x283000_3 x283001_3 x283002_3 from by repeat (first | (with_reducible first | exact HI282.out | apply IsS102.alloc | apply IsS102.drewN | apply IsS102.drew | apply IsS102.set_0 | apply IsS102.set_1 | apply IsS102.set_2 | refine IsS102.far ?_ NB282_283.out _ | refine IsS102.far ?_ NB282_288.out _) | exact HI282.out))) : g282 ≠ gb311));have n12_:=Aside0.mk ((by rw [hg];exact Nat.ne_of_gt (IsS102.lt (show IsS102 w _ g282 x283000_3 x283001_3 x283002_3 from by repeat (first | (with_reducible first | exact HI282.out | apply IsS102.alloc | apply IsS102.drewN | apply IsS102.drew | apply IsS102.set_0 | apply IsS102.set_1 | apply IsS102.set_2 | refine IsS102.far ?_ NB282_283.out _ | refine IsS102.far ?_ NB282_288.out _) | exact HI282.out))) : gb311 ≠ g282));clear BK283;clear HI282;clear BK288;clear HB;have BK283:=n0_;have HI282:=n1_;have BK288:=n2_;have HB:=n3_;have BK311:=n4_;have GW311:=n5_;have GE311:=n6_;have NB283_311:=n7_;have NB311_283:=n8_;have NB288_311:=n9_;have NB311_288:=n10_;have NB282_311:=n11_;have NB311_282:=n12_;clear n0_ n1_ n2_ n3_ n4_ n5_ n6_ n7_ n8_ n9_ n10_ n11_ n12_;clear hb hbox hg;have hnb82:=NB311_283.out;have hnc82:=NB283_311.out;have hnb83:=NB311_288.out;have hnc83:=NB288_311.out;have hnb84:=NB311_282.out;have hnc84:=NB282_311.out;have hcz85_0 : w81.cell? ⟨gb311,0,none⟩ = some (.string (⟨#[]⟩ : ByteArray)):=(blk_cell BK311.out 0).trans rfl;have hcz85_1 : w81.cell? ⟨gb311,1,none⟩ = some (.int .i64 0):=(blk_cell BK311.out 1).trans rfl;have hcz85_2 : w81.cell? ⟨gb311,2,none⟩ = some (.int .i64 0):=(blk_cell BK311.out 2).trans rfl;have hfz85_0:=blk_frozen BK311.out 0;have hfz85_1:=blk_frozen BK311.out 1;have hfz85_2:=blk_frozen BK311.out 2))
                 have n0_ : Aside0 ((((w81.setCell ⟨gb311,0,none⟩ (.string t307)).setCell ⟨gb311,1,none⟩ (.int .i64 t308)).setCell ⟨gb311,2,none⟩ (.int .i64 t309)).heap[gb283]? = some (.cells #[.string x284000_3,.int .i64 x284001_3,.int .i64 x284002_3] 59 (0,0))):=⟨by (with_reducible repeat (first | refine blk_drewN ?_ _ | refine blk_drew ?_ | refine blk_alloc ?_ _));refine blk_far ?_ NB283_311.out _;(with_reducible repeat (first | refine blk_drewN ?_ _ | refine blk_drew ?_ | refine blk_alloc ?_ _));refine blk_far ?_ NB283_311.out _;(with_reducible repeat (first | refine blk_drewN ?_ _ | refine blk_drew ?_ | refine blk_alloc ?_ _));refine blk_far ?_ NB283_311.out _;(with_reducible repeat (first | refine blk_drewN ?_ _ | refine blk_drew ?_ | refine blk_alloc ?_ _));exact BK283.out⟩
                 have n1_ : Aside0 ((((w81.setCell ⟨gb311,0,none⟩ (.string t307)).setCell ⟨gb311,1,none⟩ (.int .i64 t308)).setCell ⟨gb311,2,none⟩ (.int .i64 t309)).heap[gb288]? = some (.cells #[.int .i64 ((rd_T61 l1 x55_3).f0),.int .i64 ((rd_T61 l1 x55_3).f1)] 61 (0,0))):=⟨by (with_reducible repeat (first | refine blk_drewN ?_ _ | refine blk_drew ?_ | refine blk_alloc ?_ _));refine blk_far ?_ NB288_311.out _;(with_reducible repeat (first | refine blk_drewN ?_ _ | refine blk_drew ?_ | refine blk_alloc ?_ _));refine blk_far ?_ NB288_311.out _;(with_reducible repeat (first | refine blk_drewN ?_ _ | refine blk_drew ?_ | refine blk_alloc ?_ _));refine blk_far ?_ NB288_311.out _;(with_reducible repeat (first | refine blk_drewN ?_ _ | refine blk_drew ?_ | refine blk_alloc ?_ _));exact BK288.out⟩
                 have n2_ : Aside0 ((((w81.setCell ⟨gb311,0,none⟩ (.string t307)).setCell ⟨gb311,1,none⟩ (.int .i64 t308)).setCell ⟨gb311,2,none⟩ (.int .i64 t309)).heap[gb311]? = some (.cells #[.string t307,.int .i64 t308,.int .i64 t309] 59 (0,0))):=⟨by (with_reducible repeat (first | refine blk_drewN ?_ _ | refine blk_drew ?_ | refine blk_alloc ?_ _));refine blk_put (cs:=#[.string t307,.int .i64 t308,.int .i64 0]) ?_ 2 _ rfl;(with_reducible repeat (first | refine blk_drewN ?_ _ | refine blk_drew ?_ | refine blk_alloc ?_ _));refine blk_put (cs:=#[.string t307,.int .i64 0,.int .i64 0]) ?_ 1 _ rfl;(with_reducible repeat (first | refine blk_drewN ?_ _ | refine blk_drew ?_ | refine blk_alloc ?_ _));refine blk_put (cs:=#[.string (⟨#[]⟩ : ByteArray),.int .i64 0,.int .i64 0]) ?_ 0 _ rfl;(with_reducible repeat (first | refine blk_drewN ?_ _ | refine blk_drew ?_ | refine blk_alloc ?_ _));exact BK311.out⟩
                 have n3_ : Aside0 (IsS102 w (((w81.setCell ⟨gb311,0,none⟩ (.string t307)).setCell ⟨gb311,1,none⟩ (.int .i64 t308)).setCell ⟨gb311,2,none⟩ (.int .i64 t309)) g282 x283000_3 x283001_3 x283002_3):=⟨by repeat (first | (with_reducible first | exact HI282.out | apply IsS102.alloc | apply IsS102.drewN | apply IsS102.drew | apply IsS102.set_0 | apply IsS102.set_1 | apply IsS102.set_2 | refine IsS102.far ?_ NB282_283.out _ | refine IsS102.far ?_ NB282_288.out _ | refine IsS102.far ?_ NB282_311.out _) | exact HI282.out)⟩
                 have n4_ : Aside0 (Below w.heap.size w (((w81.setCell ⟨gb311,0,none⟩ (.string t307)).setCell ⟨gb311,1,none⟩ (.int .i64 t308)).setCell ⟨gb311,2,none⟩ (.int .i64 t309))):=⟨by repeat (first | (with_reducible first | exact HB.out | apply below_alloc | apply pw_below_drewN | apply below_drew1 | refine below_set ?_ (IsS102.ge HI282.out) | refine below_set ?_ GE283.out | refine below_set ?_ GE288.out | refine below_set ?_ GE311.out) | exact HB.out)⟩
                 (try clear BK283)
                 (try clear BK288)
                 (try clear BK311)
                 (try clear HI282)
                 (try clear HB)
                 generalize (((w81.setCell ⟨gb311,0,none⟩ (.string t307)).setCell ⟨gb311,1,none⟩ (.int .i64 t308)).setCell ⟨gb311,2,none⟩ (.int .i64 t309)) = w86 at n0_ n1_ n2_ n3_ n4_ ⊢
                 have BK283:=n0_
                 have BK288:=n1_
                 have BK311:=n2_
                 have HI282:=n3_
                 have HB:=n4_
                 clear n0_ n1_ n2_ n3_ n4_
                 have n0_:=Aside0.mk (blk_drew BK283.out)
                 have n1_:=Aside0.mk (blk_drew BK288.out)
                 have n2_:=Aside0.mk (blk_drew BK311.out)
                 have n3_:=Aside0.mk (IsS102.drew HI282.out)
                 have n4_:=Aside0.mk (below_drew1 HB.out)
                 clear BK283
                 clear BK288
                 clear BK311
                 clear HI282
                 clear HB
                 have BK283:=n0_
                 have BK288:=n1_
                 have BK311:=n2_
                 have HI282:=n3_
                 have HB:=n4_
                 clear n0_ n1_ n2_ n3_ n4_
                 refine start_ (n:=7) (S:=fun w' => w'.cell? ⟨gb311,0,none⟩ = some (.string t307) ∧ w'.cell? ⟨gb311,1,none⟩ = some (.int .i64 t308) ∧ w'.cell? ⟨gb311,2,none⟩ = some (.int .i64 t309)) (ds:=[]) #[n_,n_,n_,n_,n_,n_,n_] (by kernel_rfl) rfl rfl ⟨(blk_cell BK311.out 0).trans rfl,(blk_cell BK311.out 1).trans rfl,(blk_cell BK311.out 2).trans rfl⟩ (fun hHeld => ?_)
                 generalize w86.drew = w87 at BK283 BK288 BK311 HI282 HB hHeld ⊢
                 refine pure_ (i:=1) (N:=some 99) (v:=?_) (a':=?_) #[n_,y_,n_,n_,n_,n_,n_] rfl rfl (by kernel_rfl) (fun _ _ _ h => h) (Or.inl ⟨by rfl,?_⟩) ?_ ?_
                 rotate_left
                 ·intro w'
                  go_simp
                  with_reducible rfl
                 rotate_left
                 ·simp only [Act.put,sA_,sB_,sC_,i64_w,i32_w]
                  rfl
                 refine pure_ (i:=3) (N:=some 101) (v:=?_) (a':=?_) #[n_,y_,n_,y_,n_,n_,n_] rfl rfl (by kernel_rfl) (fun _ _ _ h => h) (Or.inl ⟨by rfl,?_⟩) ?_ ?_
                 rotate_left
                 ·intro w'
                  go_simp
                  with_reducible rfl
                 rotate_left
                 ·simp only [Act.put,sA_,sB_,sC_,i64_w,i32_w]
                  rfl
                 refine take_ (i:=0) (N:=some 98) (v:=?_) (a':=?_) #[y_,y_,n_,y_,n_,n_,n_] rfl rfl (by kernel_rfl) (fun _ _ _ h => h) (Or.inl ⟨by rfl,?_⟩) hHeld ?_ ?_
                 rotate_left
                 ·rintro w' ⟨s0,s1,s2⟩
                  go_simp
                  with_reducible rfl
                 rotate_left
                 ·simp only [Act.put,sA_,sB_,sC_,i64_w,i32_w]
                  rfl
                 refine one_ (i:=2) (N:=some 100) #[y_,y_,y_,y_,n_,n_,n_] rfl rfl (by kernel_rfl) (by decide) (fun K hK => ?_)
                 refine goes_ Try.func40 (by kernel_rfl) rfl #[.pointer (some ⟨g282,0,none⟩)] (by rfl) rfl rfl (by (try simp only [List.map_toArray,List.map_cons,List.map_nil]);first | done | rfl | (simp only [List.length_drop,List.length_take];rfl)) ?_
                 with_reducible refine (cursor_Cursor_Signed.calls k3 g282 x283000_3 x283001_3 x283002_3 t312 t313 t314 t315 w _ ?side1 ?side2 A76.out).mono ?_
                 (case side1 => repeat (first | (with_reducible first | exact HI282.out | apply IsS102.alloc | apply IsS102.drewN | apply IsS102.drew | apply IsS102.set_0 | apply IsS102.set_1 | apply IsS102.set_2 | refine IsS102.far ?_ NB282_283.out _ | refine IsS102.far ?_ NB282_288.out _ | refine IsS102.far ?_ NB282_311.out _) | exact HI282.out))
                 (case side2 => repeat (first | (with_reducible first | exact HB.out | apply below_alloc | apply pw_below_drewN | apply below_drew1 | refine below_set ?_ (IsS102.ge HI282.out) | refine below_set ?_ GE283.out | refine below_set ?_ GE288.out | refine below_set ?_ GE311.out) | exact HB.out))
                 rintro e w88 ⟨rfl,hi,hb,hk⟩
                 refine ⟨_,rfl,?_⟩
                 have n0_:=Aside0.mk (KeepBut.blk hk (g':=gb283) (o:=.cells #[.string x284000_3,.int .i64 x284001_3,.int .i64 x284002_3] 59 (0,0)) (by (with_reducible repeat (first | refine blk_drewN ?_ _ | refine blk_drew ?_ | refine blk_alloc ?_ _));exact BK283.out) NB283_282.out (by simp))
                 have n1_:=Aside0.mk (KeepBut.blk hk (g':=gb288) (o:=.cells #[.int .i64 ((rd_T61 l1 x55_3).f0),.int .i64 ((rd_T61 l1 x55_3).f1)] 61 (0,0)) (by (with_reducible repeat (first | refine blk_drewN ?_ _ | refine blk_drew ?_ | refine blk_alloc ?_ _));exact BK288.out) NB288_282.out (by simp))
                 have n2_:=Aside0.mk (KeepBut.blk hk (g':=gb311) (o:=.cells #[.string t307,.int .i64 t308,.int .i64 t309] 59 (0,0)) (by (with_reducible repeat (first | refine blk_drewN ?_ _ | refine blk_drew ?_ | refine blk_alloc ?_ _));exact BK311.out) NB311_282.out (by simp))
                 have n3_:=Aside0.mk (hb)
                 have n4_:=Aside0.mk (hi)
                 clear BK283
                 clear BK288
                 clear BK311
                 clear HB
                 clear HI282
                 have BK283:=n0_
                 have BK288:=n1_
                 have BK311:=n2_
                 have HB:=n3_
                 have HI282:=n4_
                 clear n0_ n1_ n2_ n3_ n4_
                 (try clear hb)
                 (try clear hb2)
                 (try clear hk)
                 (try clear hi)
                 refine hK.out _ _ ⟨(blk_cell BK311.out 0).trans rfl,(blk_cell BK311.out 1).trans rfl,(blk_cell BK311.out 2).trans rfl⟩ (fun hHeld => ?_)
                 clear hK K
                 refine norm_ (a':=?_) ?_ ?_
                 rotate_left
                 ·show Act.put _ (some 100) _ = _
                  simp only [Act.put,sA_,sB_,sC_,i64_w,i32_w]
                  rfl
                 refine pure_ (i:=4) (N:=some 102) (v:=?_) (a':=?_) #[y_,y_,y_,y_,y_,n_,n_] rfl rfl (by kernel_rfl) (fun _ _ _ h => h) (Or.inl ⟨by rfl,?_⟩) ?_ ?_
                 rotate_left
                 ·intro w'
                  go_simp
                  with_reducible rfl
                 rotate_left
                 ·simp only [Act.put,sA_,sB_,sC_,i64_w,i32_w]
                  rfl
                 refine one_ (i:=5) (N:=none) #[y_,y_,y_,y_,y_,y_,n_] rfl rfl (by kernel_rfl) (by decide) (fun K hK => ?_)
                 have hs89 : w88.cell? ⟨gb283,0,none⟩ = some (.string x284000_3):=(blk_cell BK283.out 0).trans rfl
                 have hfs89:=blk_frozen BK283.out 0
                 have hns89_1:=NB288_283.out
                 have hns89_2:=NB311_283.out
                 have hms89_1:=NB283_288.out
                 have hms89_2:=NB283_311.out
                 have hs90 : w88.cell? ⟨gb283,1,none⟩ = some (.int .i64 x284001_3):=(blk_cell BK283.out 1).trans rfl
                 have hfs90:=blk_frozen BK283.out 1
                 have hns90_1:=NB288_283.out
                 have hns90_2:=NB311_283.out
                 have hms90_1:=NB283_288.out
                 have hms90_2:=NB283_311.out
                 have hs91 : w88.cell? ⟨gb283,2,none⟩ = some (.int .i64 x284002_3):=(blk_cell BK283.out 2).trans rfl
                 have hfs91:=blk_frozen BK283.out 2
                 have hns91_1:=NB288_283.out
                 have hns91_2:=NB311_283.out
                 have hms91_1:=NB283_288.out
                 have hms91_2:=NB283_311.out
                 refine skip_ (w1:=?_) (by rfl) rfl ?_ ?_
                 rotate_left
                 ·go_simp
                  rfl
                 refine hK.out _ _ ⟨((cell_far (p:=⟨gb283,_,none⟩) NB311_283.out _).trans (((cell_far (p:=⟨gb283,_,none⟩) NB311_283.out _).trans (((cell_far (p:=⟨gb283,_,none⟩) NB311_283.out _).trans (hHeld.1)))))),((cell_far (p:=⟨gb283,_,none⟩) NB311_283.out _).trans (((cell_far (p:=⟨gb283,_,none⟩) NB311_283.out _).trans (((cell_far (p:=⟨gb283,_,none⟩) NB311_283.out _).trans (hHeld.2.1)))))),((cell_far (p:=⟨gb283,_,none⟩) NB311_283.out _).trans (((cell_far (p:=⟨gb283,_,none⟩) NB311_283.out _).trans (((cell_far (p:=⟨gb283,_,none⟩) NB311_283.out _).trans (hHeld.2.2))))))⟩ (fun hHeld => ?_)
                 clear hK K
                 refine pure_ (i:=6) (N:=some 11) (v:=?_) (a':=?_) #[y_,y_,y_,y_,y_,y_,y_] rfl rfl (by kernel_rfl) (fun _ _ _ h => h) (Or.inl ⟨by rfl,?_⟩) ?_ ?_
                 rotate_left
                 ·intro w'
                  go_simp
                  with_reducible rfl
                 rotate_left
                 ·simp only [Act.put,sA_,sB_,sC_,i64_w,i32_w]
                  rfl
                 refine done_ (by kernel_rfl) ?_
                 try go_wp2
                 go_meet
                 case rel => exact ⟨_,((t312 == t310)),(t313),(t314),(t315),(t307),(t308),(t309),(by first | rfl | (simp;done) | (simp [*];done)),H',⟨by have:=HJ2.out;have:=HK2.out;have:=HK3.out;first | omega | exact Nat.le_refl _⟩,⟨by (try simp only [hl5_2]);(with_reducible repeat (first | refine blk_drewN ?_ _ | refine blk_drew ?_ | refine blk_alloc ?_ _));refine blk_put (cs:=#[.string t307,.int .i64 t308,.int .i64 x284002_3]) ?_ 2 _ rfl;(with_reducible repeat (first | refine blk_drewN ?_ _ | refine blk_drew ?_ | refine blk_alloc ?_ _));refine blk_put (cs:=#[.string t307,.int .i64 x284001_3,.int .i64 x284002_3]) ?_ 1 _ rfl;(with_reducible repeat (first | refine blk_drewN ?_ _ | refine blk_drew ?_ | refine blk_alloc ?_ _));refine blk_put (cs:=#[.string x284000_3,.int .i64 x284001_3,.int .i64 x284002_3]) ?_ 0 _ rfl;(with_reducible repeat (first | refine blk_drewN ?_ _ | refine blk_drew ?_ | refine blk_alloc ?_ _));exact BK283.out⟩,⟨by (try simp only [hl5_2]);(with_reducible repeat (first | refine blk_drewN ?_ _ | refine blk_drew ?_ | refine blk_alloc ?_ _));refine blk_far ?_ NB288_283.out _;(with_reducible repeat (first | refine blk_drewN ?_ _ | refine blk_drew ?_ | refine blk_alloc ?_ _));refine blk_far ?_ NB288_283.out _;(with_reducible repeat (first | refine blk_drewN ?_ _ | refine blk_drew ?_ | refine blk_alloc ?_ _));refine blk_far ?_ NB288_283.out _;(with_reducible repeat (first | refine blk_drewN ?_ _ | refine blk_drew ?_ | refine blk_alloc ?_ _));exact BK288.out⟩,⟨by repeat (first | (with_reducible first | exact HI282.out | apply IsS102.alloc | apply IsS102.drewN | apply IsS102.drew | apply IsS102.set_0 | apply IsS102.set_1 | apply IsS102.set_2 | refine IsS102.far ?_ NB282_283.out _ | refine IsS102.far ?_ NB282_288.out _ | refine IsS102.far ?_ NB282_311.out _) | exact HI282.out)⟩,⟨by repeat (first | (with_reducible first | exact HB.out | apply below_alloc | apply pw_below_drewN | apply below_drew1 | refine below_set ?_ (IsS102.ge HI282.out) | refine below_set ?_ GE283.out | refine below_set ?_ GE288.out | refine below_set ?_ GE311.out) | exact HB.out)⟩⟩
                ·rw [if_neg c74] at H
                 have c74b0 : (((rd_T61 l1 x55_3).f0) == 2) = false:=beq_eq_false_iff_ne.mpr c74
                 have c74b1 : (((rd_T61 l1 x55_3).f0) != 2) = true:=bne_iff_ne.mpr c74
                 by_cases c92 : ((rd_T61 l1 x55_3).f0) = 3
                 ·rw [if_pos c92] at H
                  have c92b0 : (((rd_T61 l1 x55_3).f0) == 3) = true:=beq_iff_eq.mpr c92
                  have c92b1 : (((rd_T61 l1 x55_3).f0) != 3) = false:=bne_eq_false_iff_eq.mpr c92
                  clear c92
                  replace H:=Option.bind_eq_some_iff.mp H
                  obtain ⟨⟨t316,t317,t318,t319⟩,A930,H⟩:=H
                  replace H : ((cursor_Cursor_Text.f k3 x283000_3 x283001_3 x283002_3 ((rd_T61 l1 x55_3).f1)).bind fun bt321 => (tachographlaw03_CursorPlays.j3 k3 (bt321.1.toList == t319.toList) l1 (l1.length : Int) x55_3 bt321.2.1 bt321.2.2.1 bt321.2.2.2 t316 t317 t318)) = some r:=H
                  have A93:=Aside0.mk A930
                  clear A930
                  replace H:=Option.bind_eq_some_iff.mp H
                  obtain ⟨⟨t321,t322,t323,t324⟩,A940,H⟩:=H
                  replace H : (tachographlaw03_CursorPlays.j3 k3 (t321.toList == t319.toList) l1 (l1.length : Int) x55_3 t322 t323 t324 t316 t317 t318) = some r:=H
                  have A94:=Aside0.mk A940
                  clear A940
                  have H':=Aside0.mk H
                  clear H
                  have hnb95:=NB283_288.out
                  have hnc95:=NB288_283.out
                  have hnb96:=NB283_282.out
                  have hnc96:=NB282_283.out
                  have hcz97_0 : w32.cell? ⟨gb283,0,none⟩ = some (.string x284000_3):=(blk_cell BK283.out 0).trans rfl
                  have hcz97_1 : w32.cell? ⟨gb283,1,none⟩ = some (.int .i64 x284001_3):=(blk_cell BK283.out 1).trans rfl
                  have hcz97_2 : w32.cell? ⟨gb283,2,none⟩ = some (.int .i64 x284002_3):=(blk_cell BK283.out 2).trans rfl
                  have hfz97_0:=blk_frozen BK283.out 0
                  have hfz97_1:=blk_frozen BK283.out 1
                  have hfz97_2:=blk_frozen BK283.out 2
                  have hnb98:=NB288_282.out
                  have hnc98:=NB282_288.out
                  have hcz99_0 : w32.cell? ⟨gb288,0,none⟩ = some (.int .i64 0):=(blk_cell BK288.out 0).trans rfl
                  have hcz99_1 : w32.cell? ⟨gb288,1,none⟩ = some (.int .i64 0):=(blk_cell BK288.out 1).trans rfl
                  have hfz99_0:=blk_frozen BK288.out 0
                  have hfz99_1:=blk_frozen BK288.out 1
                  try go_wp2_with (first | ((with_reducible refine gate_callee (f:=41) rfl ?_);refine goesL_ (some 109) rfl rfl Try.func41 (by kernel_rfl) rfl #[.agg #[.string x284000_3,.int .i64 x284001_3,.int .i64 x284002_3],.int .i64 ((rd_T61 l1 x55_3).f1)] rfl (by (try simp only [List.map_toArray,List.map_cons,List.map_nil]);first | done | rfl | (simp only [List.length_drop,List.length_take];rfl)) ?_;(with_reducible refine (tachographref03_Cursor_Text.calls k3 x284000_3 x284001_3 x284002_3 ((rd_T61 l1 x55_3).f1) t316 t317 t318 t319 _ A93.out).mono ?_);rintro e w100 ⟨rfl,hb⟩;refine ⟨_,rfl,?_⟩;have n0_:=Aside0.mk (blk_below (g:=gb283) (o:=.cells #[.string x284000_3,.int .i64 x284001_3,.int .i64 x284002_3] 59 (0,0)) (by (with_reducible repeat (first | refine blk_drewN ?_ _ | refine blk_drew ?_ | refine blk_alloc ?_ _));refine blk_far ?_ NB283_288.out _;(with_reducible repeat (first | refine blk_drewN ?_ _ | refine blk_drew ?_ | refine blk_alloc ?_ _));refine blk_far ?_ NB283_288.out _;(with_reducible repeat (first | refine blk_drewN ?_ _ | refine blk_drew ?_ | refine blk_alloc ?_ _));exact BK283.out) hb);have n1_:=Aside0.mk (IsS102.below (show IsS102 w ((w32.setCell ⟨gb288,0,none⟩ (.int .i64 ((rd_T61 l1 x55_3).f0))).setCell ⟨gb288,1,none⟩ (.int .i64 ((rd_T61 l1 x55_3).f1))) g282 x283000_3 x283001_3 x283002_3 from by repeat (first | (with_reducible first | exact HI282.out | apply IsS102.alloc | apply IsS102.drewN | apply IsS102.drew | apply IsS102.set_0 | apply IsS102.set_1 | apply IsS102.set_2 | refine IsS102.far ?_ NB282_283.out _ | refine IsS102.far ?_ NB282_288.out _) | exact HI282.out)) hb);have n2_:=Aside0.mk (blk_below (g:=gb288) (o:=.cells #[.int .i64 ((rd_T61 l1 x55_3).f0),.int .i64 ((rd_T61 l1 x55_3).f1)] 61 (0,0)) (by (with_reducible repeat (first | refine blk_drewN ?_ _ | refine blk_drew ?_ | refine blk_alloc ?_ _));refine blk_put (cs:=#[.int .i64 ((rd_T61 l1 x55_3).f0),.int .i64 0]) ?_ 1 _ rfl;(with_reducible repeat (first | refine blk_drewN ?_ _ | refine blk_drew ?_ | refine blk_alloc ?_ _));refine blk_put (cs:=#[.int .i64 0,.int .i64 0]) ?_ 0 _ rfl;(with_reducible repeat (first | refine blk_drewN ?_ _ | refine blk_drew ?_ | refine blk_alloc ?_ _));exact BK288.out) hb);have n3_:=Aside0.mk (below_step (by repeat (first | (with_reducible first | exact HB.out | apply below_alloc | apply pw_below_drewN | apply below_drew1 | refine below_set ?_ (IsS102.ge HI282.out) | refine below_set ?_ GE283.out | refine below_set ?_ GE288.out) | exact HB.out)) hb);clear BK283;clear HI282;clear BK288;clear HB;have BK283:=n0_;have HI282:=n1_;have BK288:=n2_;have HB:=n3_;clear n0_ n1_ n2_ n3_;(try clear hb);(try clear hb2);(try clear hk);(try clear hi)) | ((with_reducible refine gate_dst (N:=18) rfl ?_);(try (refine gate_guard (by rfl) ?_;dsimp only));refine box_event ?hg (N:=18) ?hd (cs:=#[.string (⟨#[]⟩ : ByteArray),.int .i64 0,.int .i64 0]) (t:=59) ?hr ?_;(case hd => rfl);(case hg => rfl);(case hr => first | (go_simp;done) | (go_simp;rfl));intro gb320 hg w101 hbox hb;have n0_:=Aside0.mk (blk_below (g:=gb283) (o:=.cells #[.string x284000_3,.int .i64 x284001_3,.int .i64 x284002_3] 59 (0,0)) (by (with_reducible repeat (first | refine blk_drewN ?_ _ | refine blk_drew ?_ | refine blk_alloc ?_ _));exact BK283.out) hb);have n1_:=Aside0.mk (IsS102.below (by repeat (first | (with_reducible first | exact HI282.out | apply IsS102.alloc | apply IsS102.drewN | apply IsS102.drew | apply IsS102.set_0 | apply IsS102.set_1 | apply IsS102.set_2 | refine IsS102.far ?_ NB282_283.out _ | refine IsS102.far ?_ NB282_288.out _) | exact HI282.out)) hb);have n2_:=Aside0.mk (blk_below (g:=gb288) (o:=.cells #[.int .i64 ((rd_T61 l1 x55_3).f0),.int .i64 ((rd_T61 l1 x55_3).f1)] 61 (0,0)) (by (with_reducible repeat (first | refine blk_drewN ?_ _ | refine blk_drew ?_ | refine blk_alloc ?_ _));exact BK288.out) hb);have n3_:=Aside0.mk (below_step (by repeat (first | (with_reducible first | exact HB.out | apply below_alloc | apply pw_below_drewN | apply below_drew1 | refine below_set ?_ (IsS102.ge HI282.out) | refine below_set ?_ GE283.out | refine below_set ?_ GE288.out) | exact HB.out)) hb);have n4_:=Aside0.mk (hbox);have n5_:=Aside0.mk ((by rw [hg];exact (below_size (by repeat (first | (with_reducible first | exact HB.out | apply below_alloc | apply pw_below_drewN | apply below_drew1 | refine below_set ?_ (IsS102.ge HI282.out) | refine below_set ?_ GE283.out | refine below_set ?_ GE288.out) | exact HB.out))) : w.heap.size ≤ gb320));have n6_:=Aside0.mk ((by rw [hg];exact (below_size (by repeat (first | (with_reducible first | exact HB.out | apply below_alloc | apply pw_below_drewN | apply below_drew1 | refine below_set ?_ (IsS102.ge HI282.out) | refine below_set ?_ GE283.out | refine below_set ?_ GE288.out) | exact HB.out))) : w.heap.size ≤ gb320));have n7_:=Aside0.mk ((by rw [hg];exact Nat.ne_of_lt (blk_lt (g:=gb283) (o:=.cells #[.string x284000_3,.int .i64 x284001_3,.int .i64 x284002_3] 59 (0,0)) (by (with_reducible repeat (first | refine blk_drewN ?_ _ | refine blk_drew ?_ | refine blk_alloc ?_ _));exact BK283.out)) : gb283 ≠ gb320));have n8_:=Aside0.mk ((by rw [hg];exact Nat.ne_of_gt (blk_lt (g:=gb283) (o:=.cells #[.string x284000_3,.int .i64 x284001_3,.int .i64 x284002_3] 59 (0,0)) (by (with_reducible repeat (first | refine blk_drewN ?_ _ | refine blk_drew ?_ | refine blk_alloc ?_ _));exact BK283.out)) : gb320 ≠ gb283));have n9_:=Aside0.mk ((by rw [hg];exact Nat.ne_of_lt (blk_lt (g:=gb288) (o:=.cells #[.int .i64 ((rd_T61 l1 x55_3).f0),.int .i64 ((rd_T61 l1 x55_3).f1)] 61 (0,0)) (by (with_reducible repeat (first | refine blk_drewN ?_ _ | refine blk_drew ?_ | refine blk_alloc ?_ _));exact BK288.out)) : gb288 ≠ gb320));have n10_:=Aside0.mk ((by rw [hg];exact Nat.ne_of_gt (blk_lt (g:=gb288) (o:=.cells #[.int .i64 ((rd_T61 l1 x55_3).f0),.int .i64 ((rd_T61 l1 x55_3).f1)] 61 (0,0)) (by (with_reducible repeat (first | refine blk_drewN ?_ _ | refine blk_drew ?_ | refine blk_alloc ?_ _));exact BK288.out)) : gb320 ≠ gb288));have n11_:=Aside0.mk ((by rw [hg];exact Nat.ne_of_lt (IsS102.lt (show IsS102 w _ g282 x283000_3 x283001_3 x283002_3 from by repeat (first | (with_reducible first | exact HI282.out | apply IsS102.alloc | apply IsS102.drewN | apply IsS102.drew | apply IsS102.set_0 | apply IsS102.set_1 | apply IsS102.set_2 | refine IsS102.far ?_ NB282_283.out _ | refine IsS102.far ?_ NB282_288.out _) | exact HI282.out))) : g282 ≠ gb320));have n12_:=Aside0.mk ((by rw [hg];exact Nat.ne_of_gt (IsS102.lt (show IsS102 w _ g282 x283000_3 x283001_3 x283002_3 from by repeat (first | (with_reducible first | exact HI282.out | apply IsS102.alloc | apply IsS102.drewN | apply IsS102.drew | apply IsS102.set_0 | apply IsS102.set_1 | apply IsS102.set_2 | refine IsS102.far ?_ NB282_283.out _ | refine IsS102.far ?_ NB282_288.out _) | exact HI282.out))) : gb320 ≠ g282));clear BK283;clear HI282;clear BK288;clear HB;have BK283:=n0_;have HI282:=n1_;have BK288:=n2_;have HB:=n3_;have BK320:=n4_;have GW320:=n5_;have GE320:=n6_;have NB283_320:=n7_;have NB320_283:=n8_;have NB288_320:=n9_;have NB320_288:=n10_;have NB282_320:=n11_;have NB320_282:=n12_;clear n0_ n1_ n2_ n3_ n4_ n5_ n6_ n7_ n8_ n9_ n10_ n11_ n12_;clear hb hbox hg;have hnb102:=NB320_283.out;have hnc102:=NB283_320.out;have hnb103:=NB320_288.out;have hnc103:=NB288_320.out;have hnb104:=NB320_282.out;have hnc104:=NB282_320.out;have hcz105_0 : w101.cell? ⟨gb320,0,none⟩ = some (.string (⟨#[]⟩ : ByteArray)):=(blk_cell BK320.out 0).trans rfl;have hcz105_1 : w101.cell? ⟨gb320,1,none⟩ = some (.int .i64 0):=(blk_cell BK320.out 1).trans rfl;have hcz105_2 : w101.cell? ⟨gb320,2,none⟩ = some (.int .i64 0):=(blk_cell BK320.out 2).trans rfl;have hfz105_0:=blk_frozen BK320.out 0;have hfz105_1:=blk_frozen BK320.out 1;have hfz105_2:=blk_frozen BK320.out 2))
                  have n0_ : Aside0 ((((w101.setCell ⟨gb320,0,none⟩ (.string t316)).setCell ⟨gb320,1,none⟩ (.int .i64 t317)).setCell ⟨gb320,2,none⟩ (.int .i64 t318)).heap[gb283]? = some (.cells #[.string x284000_3,.int .i64 x284001_3,.int .i64 x284002_3] 59 (0,0))):=⟨by (with_reducible repeat (first | refine blk_drewN ?_ _ | refine blk_drew ?_ | refine blk_alloc ?_ _));refine blk_far ?_ NB283_320.out _;(with_reducible repeat (first | refine blk_drewN ?_ _ | refine blk_drew ?_ | refine blk_alloc ?_ _));refine blk_far ?_ NB283_320.out _;(with_reducible repeat (first | refine blk_drewN ?_ _ | refine blk_drew ?_ | refine blk_alloc ?_ _));refine blk_far ?_ NB283_320.out _;(with_reducible repeat (first | refine blk_drewN ?_ _ | refine blk_drew ?_ | refine blk_alloc ?_ _));exact BK283.out⟩
                  have n1_ : Aside0 ((((w101.setCell ⟨gb320,0,none⟩ (.string t316)).setCell ⟨gb320,1,none⟩ (.int .i64 t317)).setCell ⟨gb320,2,none⟩ (.int .i64 t318)).heap[gb288]? = some (.cells #[.int .i64 ((rd_T61 l1 x55_3).f0),.int .i64 ((rd_T61 l1 x55_3).f1)] 61 (0,0))):=⟨by (with_reducible repeat (first | refine blk_drewN ?_ _ | refine blk_drew ?_ | refine blk_alloc ?_ _));refine blk_far ?_ NB288_320.out _;(with_reducible repeat (first | refine blk_drewN ?_ _ | refine blk_drew ?_ | refine blk_alloc ?_ _));refine blk_far ?_ NB288_320.out _;(with_reducible repeat (first | refine blk_drewN ?_ _ | refine blk_drew ?_ | refine blk_alloc ?_ _));refine blk_far ?_ NB288_320.out _;(with_reducible repeat (first | refine blk_drewN ?_ _ | refine blk_drew ?_ | refine blk_alloc ?_ _));exact BK288.out⟩
                  have n2_ : Aside0 ((((w101.setCell ⟨gb320,0,none⟩ (.string t316)).setCell ⟨gb320,1,none⟩ (.int .i64 t317)).setCell ⟨gb320,2,none⟩ (.int .i64 t318)).heap[gb320]? = some (.cells #[.string t316,.int .i64 t317,.int .i64 t318] 59 (0,0))):=⟨by (with_reducible repeat (first | refine blk_drewN ?_ _ | refine blk_drew ?_ | refine blk_alloc ?_ _));refine blk_put (cs:=#[.string t316,.int .i64 t317,.int .i64 0]) ?_ 2 _ rfl;(with_reducible repeat (first | refine blk_drewN ?_ _ | refine blk_drew ?_ | refine blk_alloc ?_ _));refine blk_put (cs:=#[.string t316,.int .i64 0,.int .i64 0]) ?_ 1 _ rfl;(with_reducible repeat (first | refine blk_drewN ?_ _ | refine blk_drew ?_ | refine blk_alloc ?_ _));refine blk_put (cs:=#[.string (⟨#[]⟩ : ByteArray),.int .i64 0,.int .i64 0]) ?_ 0 _ rfl;(with_reducible repeat (first | refine blk_drewN ?_ _ | refine blk_drew ?_ | refine blk_alloc ?_ _));exact BK320.out⟩
                  have n3_ : Aside0 (IsS102 w (((w101.setCell ⟨gb320,0,none⟩ (.string t316)).setCell ⟨gb320,1,none⟩ (.int .i64 t317)).setCell ⟨gb320,2,none⟩ (.int .i64 t318)) g282 x283000_3 x283001_3 x283002_3):=⟨by repeat (first | (with_reducible first | exact HI282.out | apply IsS102.alloc | apply IsS102.drewN | apply IsS102.drew | apply IsS102.set_0 | apply IsS102.set_1 | apply IsS102.set_2 | refine IsS102.far ?_ NB282_283.out _ | refine IsS102.far ?_ NB282_288.out _ | refine IsS102.far ?_ NB282_320.out _) | exact HI282.out)⟩
                  have n4_ : Aside0 (Below w.heap.size w (((w101.setCell ⟨gb320,0,none⟩ (.string t316)).setCell ⟨gb320,1,none⟩ (.int .i64 t317)).setCell ⟨gb320,2,none⟩ (.int .i64 t318))):=⟨by repeat (first | (with_reducible first | exact HB.out | apply below_alloc | apply pw_below_drewN | apply below_drew1 | refine below_set ?_ (IsS102.ge HI282.out) | refine below_set ?_ GE283.out | refine below_set ?_ GE288.out | refine below_set ?_ GE320.out) | exact HB.out)⟩
                  (try clear BK283)
                  (try clear BK288)
                  (try clear BK320)
                  (try clear HI282)
                  (try clear HB)
                  generalize (((w101.setCell ⟨gb320,0,none⟩ (.string t316)).setCell ⟨gb320,1,none⟩ (.int .i64 t317)).setCell ⟨gb320,2,none⟩ (.int .i64 t318)) = w106 at n0_ n1_ n2_ n3_ n4_ ⊢
                  have BK283:=n0_
                  have BK288:=n1_
                  have BK320:=n2_
                  have HI282:=n3_
                  have HB:=n4_
                  clear n0_ n1_ n2_ n3_ n4_
                  have n0_:=Aside0.mk (blk_drew BK283.out)
                  have n1_:=Aside0.mk (blk_drew BK288.out)
                  have n2_:=Aside0.mk (blk_drew BK320.out)
                  have n3_:=Aside0.mk (IsS102.drew HI282.out)
                  have n4_:=Aside0.mk (below_drew1 HB.out)
                  clear BK283
                  clear BK288
                  clear BK320
                  clear HI282
                  clear HB
                  have BK283:=n0_
                  have BK288:=n1_
                  have BK320:=n2_
                  have HI282:=n3_
                  have HB:=n4_
                  clear n0_ n1_ n2_ n3_ n4_
                  refine start_ (n:=9) (S:=fun w' => w'.cell? ⟨gb320,0,none⟩ = some (.string t316) ∧ w'.cell? ⟨gb320,1,none⟩ = some (.int .i64 t317) ∧ w'.cell? ⟨gb320,2,none⟩ = some (.int .i64 t318) ∧ w'.cell? ⟨gb288,0,none⟩ = some (.int .i64 ((rd_T61 l1 x55_3).f0)) ∧ w'.cell? ⟨gb288,1,none⟩ = some (.int .i64 ((rd_T61 l1 x55_3).f1))) (ds:=[]) #[n_,n_,n_,n_,n_,n_,n_,n_,n_] (by kernel_rfl) rfl rfl ⟨(blk_cell BK320.out 0).trans rfl,(blk_cell BK320.out 1).trans rfl,(blk_cell BK320.out 2).trans rfl,(blk_cell BK288.out 0).trans rfl,(blk_cell BK288.out 1).trans rfl⟩ (fun hHeld => ?_);refine with_tabW tachographlaw03_CursorPlays.tab28 tachographlaw03_CursorPlays.bits28 (fun HT_ HW_ => ?_)
                  generalize w106.drew = w107 at BK283 BK288 BK320 HI282 HB hHeld ⊢
                  refine pure_ (i:=1) (N:=some 113) (v:=?_) (a':=?_) #[n_,y_,n_,n_,n_,n_,n_,n_,n_] rfl rfl (any_of HT_.out (by kernel_rfl)) (fun _ _ _ h => h) (Or.inl ⟨by rfl,?_⟩) ?_ ?_
                  rotate_left
                  ·intro w'
                   go_simp
                   with_reducible rfl
                  rotate_left
                  ·simp only [Act.put,sA_,sB_,sC_,i64_w,i32_w]
                   rfl
                  refine pure_ (i:=2) (N:=some 114) (v:=?_) (a':=?_) #[n_,y_,y_,n_,n_,n_,n_,n_,n_] rfl rfl (any_of HT_.out (by kernel_rfl)) (fun _ _ _ h => h) (Or.inl ⟨by rfl,?_⟩) ?_ ?_
                  rotate_left
                  ·intro w'
                   go_simp
                   with_reducible rfl
                  rotate_left
                  ·simp only [Act.put,sA_,sB_,sC_,i64_w,i32_w]
                   rfl
                  refine pure_ (i:=5) (N:=some 117) (v:=?_) (a':=?_) #[n_,y_,y_,n_,n_,y_,n_,n_,n_] rfl rfl (any_of HT_.out (by kernel_rfl)) (fun _ _ _ h => h) (Or.inl ⟨by rfl,?_⟩) ?_ ?_
                  rotate_left
                  ·intro w'
                   go_simp
                   with_reducible rfl
                  rotate_left
                  ·simp only [Act.put,sA_,sB_,sC_,i64_w,i32_w]
                   rfl
                  refine take_ (i:=0) (N:=some 112) (v:=?_) (a':=?_) #[y_,y_,y_,n_,n_,y_,n_,n_,n_] rfl rfl (take_ofW HT_.out HW_.out (by kernel_rfl)) (fun _ _ _ h => h) (Or.inl ⟨by rfl,?_⟩) hHeld ?_ ?_
                  rotate_left
                  ·rintro w' ⟨s0,s1,s2,s3,s4⟩
                   go_simp
                   with_reducible rfl
                  rotate_left
                  ·simp only [Act.put,sA_,sB_,sC_,i64_w,i32_w]
                   rfl
                  refine take_ (i:=3) (N:=some 115) (v:=?_) (a':=?_) #[y_,y_,y_,y_,n_,y_,n_,n_,n_] rfl rfl (take_ofW HT_.out HW_.out (by kernel_rfl)) (fun _ _ _ h => h) (Or.inl ⟨by rfl,?_⟩) hHeld ?_ ?_
                  rotate_left
                  ·rintro w' ⟨s0,s1,s2,s3,s4⟩
                   go_simp
                   with_reducible rfl
                  rotate_left
                  ·simp only [Act.put,sA_,sB_,sC_,i64_w,i32_w]
                   rfl
                  refine one_ (i:=4) (N:=some 116) #[y_,y_,y_,y_,y_,y_,n_,n_,n_] rfl rfl (one_of HT_.out (by kernel_rfl)) (by decide) (fun K hK => ?_)
                  refine goes_ Try.func42 (by kernel_rfl) rfl #[.pointer (some ⟨g282,0,none⟩),.int .i64 ((rd_T61 l1 x55_3).f1)] (by rfl) rfl rfl (by (try simp only [List.map_toArray,List.map_cons,List.map_nil]);first | done | rfl | (simp only [List.length_drop,List.length_take];rfl)) ?_
                  with_reducible refine (cursor_Cursor_Text.calls k3 g282 x283000_3 x283001_3 x283002_3 ((rd_T61 l1 x55_3).f1) t321 t322 t323 t324 w _ ?side1 ?side2 A94.out).mono ?_
                  (case side1 => repeat (first | (with_reducible first | exact HI282.out | apply IsS102.alloc | apply IsS102.drewN | apply IsS102.drew | apply IsS102.set_0 | apply IsS102.set_1 | apply IsS102.set_2 | refine IsS102.far ?_ NB282_283.out _ | refine IsS102.far ?_ NB282_288.out _ | refine IsS102.far ?_ NB282_320.out _) | exact HI282.out))
                  (case side2 => repeat (first | (with_reducible first | exact HB.out | apply below_alloc | apply pw_below_drewN | apply below_drew1 | refine below_set ?_ (IsS102.ge HI282.out) | refine below_set ?_ GE283.out | refine below_set ?_ GE288.out | refine below_set ?_ GE320.out) | exact HB.out))
                  rintro e w108 ⟨rfl,hi,hb,hk⟩
                  refine ⟨_,rfl,?_⟩
                  have n0_:=Aside0.mk (KeepBut.blk hk (g':=gb283) (o:=.cells #[.string x284000_3,.int .i64 x284001_3,.int .i64 x284002_3] 59 (0,0)) (by (with_reducible repeat (first | refine blk_drewN ?_ _ | refine blk_drew ?_ | refine blk_alloc ?_ _));exact BK283.out) NB283_282.out (by simp))
                  have n1_:=Aside0.mk (KeepBut.blk hk (g':=gb288) (o:=.cells #[.int .i64 ((rd_T61 l1 x55_3).f0),.int .i64 ((rd_T61 l1 x55_3).f1)] 61 (0,0)) (by (with_reducible repeat (first | refine blk_drewN ?_ _ | refine blk_drew ?_ | refine blk_alloc ?_ _));exact BK288.out) NB288_282.out (by simp))
                  have n2_:=Aside0.mk (KeepBut.blk hk (g':=gb320) (o:=.cells #[.string t316,.int .i64 t317,.int .i64 t318] 59 (0,0)) (by (with_reducible repeat (first | refine blk_drewN ?_ _ | refine blk_drew ?_ | refine blk_alloc ?_ _));exact BK320.out) NB320_282.out (by simp))
                  have n3_:=Aside0.mk (hb)
                  have n4_:=Aside0.mk (hi)
                  clear BK283
                  clear BK288
                  clear BK320
                  clear HB
                  clear HI282
                  have BK283:=n0_
                  have BK288:=n1_
                  have BK320:=n2_
                  have HB:=n3_
                  have HI282:=n4_
                  clear n0_ n1_ n2_ n3_ n4_
                  (try clear hb)
                  (try clear hb2)
                  (try clear hk)
                  (try clear hi)
                  refine hK.out _ _ ⟨(blk_cell BK320.out 0).trans rfl,(blk_cell BK320.out 1).trans rfl,(blk_cell BK320.out 2).trans rfl,(blk_cell BK288.out 0).trans rfl,(blk_cell BK288.out 1).trans rfl⟩ (fun hHeld => ?_)
                  clear hK K
                  refine norm_ (a':=?_) ?_ ?_
                  rotate_left
                  ·show Act.put _ (some 116) _ = _
                   simp only [Act.put,sA_,sB_,sC_,i64_w,i32_w]
                   rfl
                  refine pure_ (i:=6) (N:=some 118) (v:=?_) (a':=?_) #[y_,y_,y_,y_,y_,y_,y_,n_,n_] rfl rfl (any_of HT_.out (by kernel_rfl)) (fun _ _ _ h => h) (Or.inl ⟨by rfl,?_⟩) ?_ ?_
                  rotate_left
                  ·intro w'
                   go_simp
                   with_reducible rfl
                  rotate_left
                  ·simp only [Act.put,sA_,sB_,sC_,i64_w,i32_w]
                   rfl
                  refine one_ (i:=7) (N:=none) #[y_,y_,y_,y_,y_,y_,y_,y_,n_] rfl rfl (one_of HT_.out (by kernel_rfl)) (by decide) (fun K hK => ?_)
                  have hs109 : w108.cell? ⟨gb283,0,none⟩ = some (.string x284000_3):=(blk_cell BK283.out 0).trans rfl
                  have hfs109:=blk_frozen BK283.out 0
                  have hns109_1:=NB288_283.out
                  have hns109_2:=NB320_283.out
                  have hms109_1:=NB283_288.out
                  have hms109_2:=NB283_320.out
                  have hs110 : w108.cell? ⟨gb283,1,none⟩ = some (.int .i64 x284001_3):=(blk_cell BK283.out 1).trans rfl
                  have hfs110:=blk_frozen BK283.out 1
                  have hns110_1:=NB288_283.out
                  have hns110_2:=NB320_283.out
                  have hms110_1:=NB283_288.out
                  have hms110_2:=NB283_320.out
                  have hs111 : w108.cell? ⟨gb283,2,none⟩ = some (.int .i64 x284002_3):=(blk_cell BK283.out 2).trans rfl
                  have hfs111:=blk_frozen BK283.out 2
                  have hns111_1:=NB288_283.out
                  have hns111_2:=NB320_283.out
                  have hms111_1:=NB283_288.out
                  have hms111_2:=NB283_320.out
                  refine skip_ (w1:=?_) (by rfl) rfl ?_ ?_
                  rotate_left
                  ·go_simp
                   rfl
                  refine hK.out _ _ ⟨((cell_far (p:=⟨gb283,_,none⟩) NB320_283.out _).trans (((cell_far (p:=⟨gb283,_,none⟩) NB320_283.out _).trans (((cell_far (p:=⟨gb283,_,none⟩) NB320_283.out _).trans (hHeld.1)))))),((cell_far (p:=⟨gb283,_,none⟩) NB320_283.out _).trans (((cell_far (p:=⟨gb283,_,none⟩) NB320_283.out _).trans (((cell_far (p:=⟨gb283,_,none⟩) NB320_283.out _).trans (hHeld.2.1)))))),((cell_far (p:=⟨gb283,_,none⟩) NB320_283.out _).trans (((cell_far (p:=⟨gb283,_,none⟩) NB320_283.out _).trans (((cell_far (p:=⟨gb283,_,none⟩) NB320_283.out _).trans (hHeld.2.2.1)))))),((cell_far (p:=⟨gb283,_,none⟩) NB288_283.out _).trans (((cell_far (p:=⟨gb283,_,none⟩) NB288_283.out _).trans (((cell_far (p:=⟨gb283,_,none⟩) NB288_283.out _).trans (hHeld.2.2.2.1)))))),((cell_far (p:=⟨gb283,_,none⟩) NB288_283.out _).trans (((cell_far (p:=⟨gb283,_,none⟩) NB288_283.out _).trans (((cell_far (p:=⟨gb283,_,none⟩) NB288_283.out _).trans (hHeld.2.2.2.2))))))⟩ (fun hHeld => ?_)
                  clear hK K
                  refine pure_ (i:=8) (N:=some 11) (v:=?_) (a':=?_) #[y_,y_,y_,y_,y_,y_,y_,y_,y_] rfl rfl (any_of HT_.out (by kernel_rfl)) (fun _ _ _ h => h) (Or.inl ⟨by rfl,?_⟩) ?_ ?_
                  rotate_left
                  ·intro w'
                   go_simp
                   with_reducible rfl
                  rotate_left
                  ·simp only [Act.put,sA_,sB_,sC_,i64_w,i32_w]
                   rfl
                  refine done_ (done_of HT_.out (by kernel_rfl)) ?_
                  try go_wp2
                  go_meet
                  case rel => exact ⟨_,((t321.toList == t319.toList)),(t322),(t323),(t324),(t316),(t317),(t318),(by first | rfl | (simp;done) | (simp [*];done)),H',⟨by have:=HJ2.out;have:=HK2.out;have:=HK3.out;first | omega | exact Nat.le_refl _⟩,⟨by (try simp only [hl5_2]);(with_reducible repeat (first | refine blk_drewN ?_ _ | refine blk_drew ?_ | refine blk_alloc ?_ _));refine blk_put (cs:=#[.string t316,.int .i64 t317,.int .i64 x284002_3]) ?_ 2 _ rfl;(with_reducible repeat (first | refine blk_drewN ?_ _ | refine blk_drew ?_ | refine blk_alloc ?_ _));refine blk_put (cs:=#[.string t316,.int .i64 x284001_3,.int .i64 x284002_3]) ?_ 1 _ rfl;(with_reducible repeat (first | refine blk_drewN ?_ _ | refine blk_drew ?_ | refine blk_alloc ?_ _));refine blk_put (cs:=#[.string x284000_3,.int .i64 x284001_3,.int .i64 x284002_3]) ?_ 0 _ rfl;(with_reducible repeat (first | refine blk_drewN ?_ _ | refine blk_drew ?_ | refine blk_alloc ?_ _));exact BK283.out⟩,⟨by (try simp only [hl5_2]);(with_reducible repeat (first | refine blk_drewN ?_ _ | refine blk_drew ?_ | refine blk_alloc ?_ _));refine blk_far ?_ NB288_283.out _;(with_reducible repeat (first | refine blk_drewN ?_ _ | refine blk_drew ?_ | refine blk_alloc ?_ _));refine blk_far ?_ NB288_283.out _;(with_reducible repeat (first | refine blk_drewN ?_ _ | refine blk_drew ?_ | refine blk_alloc ?_ _));refine blk_far ?_ NB288_283.out _;(with_reducible repeat (first | refine blk_drewN ?_ _ | refine blk_drew ?_ | refine blk_alloc ?_ _));exact BK288.out⟩,⟨by repeat (first | (with_reducible first | exact HI282.out | apply IsS102.alloc | apply IsS102.drewN | apply IsS102.drew | apply IsS102.set_0 | apply IsS102.set_1 | apply IsS102.set_2 | refine IsS102.far ?_ NB282_283.out _ | refine IsS102.far ?_ NB282_288.out _ | refine IsS102.far ?_ NB282_320.out _) | exact HI282.out)⟩,⟨by repeat (first | (with_reducible first | exact HB.out | apply below_alloc | apply pw_below_drewN | apply below_drew1 | refine below_set ?_ (IsS102.ge HI282.out) | refine below_set ?_ GE283.out | refine below_set ?_ GE288.out | refine below_set ?_ GE320.out) | exact HB.out)⟩⟩
                 ·rw [if_neg c92] at H
                  have c92b0 : (((rd_T61 l1 x55_3).f0) == 3) = false:=beq_eq_false_iff_ne.mpr c92
                  have c92b1 : (((rd_T61 l1 x55_3).f0) != 3) = true:=bne_iff_ne.mpr c92
                  by_cases c112 : ((rd_T61 l1 x55_3).f0) = 4
                  ·rw [if_pos c112] at H
                   have c112b0 : (((rd_T61 l1 x55_3).f0) == 4) = true:=beq_iff_eq.mpr c112
                   have c112b1 : (((rd_T61 l1 x55_3).f0) != 4) = false:=bne_eq_false_iff_eq.mpr c112
                   clear c112
                   replace H:=Option.bind_eq_some_iff.mp H
                   obtain ⟨⟨t325,t326,t327,t328⟩,A1130,H⟩:=H
                   replace H : ((cursor_Cursor_Done.f x283000_3 x283001_3 x283002_3).bind fun bt330 => (tachographlaw03_CursorPlays.j3 k3 (bt330.1 == t328) l1 (l1.length : Int) x55_3 bt330.2.1 bt330.2.2.1 bt330.2.2.2 t325 t326 t327)) = some r:=H
                   have A113:=Aside0.mk A1130
                   clear A1130
                   replace H:=Option.bind_eq_some_iff.mp H
                   obtain ⟨⟨t330,t331,t332,t333⟩,A1140,H⟩:=H
                   replace H : (tachographlaw03_CursorPlays.j3 k3 (t330 == t328) l1 (l1.length : Int) x55_3 t331 t332 t333 t325 t326 t327) = some r:=H
                   have A114:=Aside0.mk A1140
                   clear A1140
                   have H':=Aside0.mk H
                   clear H
                   have hnb115:=NB283_288.out
                   have hnc115:=NB288_283.out
                   have hnb116:=NB283_282.out
                   have hnc116:=NB282_283.out
                   have hcz117_0 : w32.cell? ⟨gb283,0,none⟩ = some (.string x284000_3):=(blk_cell BK283.out 0).trans rfl
                   have hcz117_1 : w32.cell? ⟨gb283,1,none⟩ = some (.int .i64 x284001_3):=(blk_cell BK283.out 1).trans rfl
                   have hcz117_2 : w32.cell? ⟨gb283,2,none⟩ = some (.int .i64 x284002_3):=(blk_cell BK283.out 2).trans rfl
                   have hfz117_0:=blk_frozen BK283.out 0
                   have hfz117_1:=blk_frozen BK283.out 1
                   have hfz117_2:=blk_frozen BK283.out 2
                   try go_wp2_with (first | ((with_reducible refine gate_callee (f:=43) rfl ?_);refine goesL_ (some 123) rfl rfl Try.func43 (by kernel_rfl) rfl #[.agg #[.string x284000_3,.int .i64 x284001_3,.int .i64 x284002_3]] rfl (by (try simp only [List.map_toArray,List.map_cons,List.map_nil]);first | done | rfl | (simp only [List.length_drop,List.length_take];rfl)) ?_;(with_reducible refine (tachographref03_Cursor_Done.calls x284000_3 x284001_3 x284002_3 t325 t326 t327 t328 _ A113.out).mono ?_);rintro e w118 ⟨rfl,hb⟩;refine ⟨_,rfl,?_⟩;have n0_:=Aside0.mk (blk_below (g:=gb283) (o:=.cells #[.string x284000_3,.int .i64 x284001_3,.int .i64 x284002_3] 59 (0,0)) (by (with_reducible repeat (first | refine blk_drewN ?_ _ | refine blk_drew ?_ | refine blk_alloc ?_ _));refine blk_far ?_ NB283_288.out _;(with_reducible repeat (first | refine blk_drewN ?_ _ | refine blk_drew ?_ | refine blk_alloc ?_ _));refine blk_far ?_ NB283_288.out _;(with_reducible repeat (first | refine blk_drewN ?_ _ | refine blk_drew ?_ | refine blk_alloc ?_ _));exact BK283.out) hb);have n1_:=Aside0.mk (IsS102.below (show IsS102 w ((w32.setCell ⟨gb288,0,none⟩ (.int .i64 ((rd_T61 l1 x55_3).f0))).setCell ⟨gb288,1,none⟩ (.int .i64 ((rd_T61 l1 x55_3).f1))) g282 x283000_3 x283001_3 x283002_3 from by repeat (first | (with_reducible first | exact HI282.out | apply IsS102.alloc | apply IsS102.drewN | apply IsS102.drew | apply IsS102.set_0 | apply IsS102.set_1 | apply IsS102.set_2 | refine IsS102.far ?_ NB282_283.out _ | refine IsS102.far ?_ NB282_288.out _) | exact HI282.out)) hb);have n2_:=Aside0.mk (blk_below (g:=gb288) (o:=.cells #[.int .i64 ((rd_T61 l1 x55_3).f0),.int .i64 ((rd_T61 l1 x55_3).f1)] 61 (0,0)) (by (with_reducible repeat (first | refine blk_drewN ?_ _ | refine blk_drew ?_ | refine blk_alloc ?_ _));refine blk_put (cs:=#[.int .i64 ((rd_T61 l1 x55_3).f0),.int .i64 0]) ?_ 1 _ rfl;(with_reducible repeat (first | refine blk_drewN ?_ _ | refine blk_drew ?_ | refine blk_alloc ?_ _));refine blk_put (cs:=#[.int .i64 0,.int .i64 0]) ?_ 0 _ rfl;(with_reducible repeat (first | refine blk_drewN ?_ _ | refine blk_drew ?_ | refine blk_alloc ?_ _));exact BK288.out) hb);have n3_:=Aside0.mk (below_step (by repeat (first | (with_reducible first | exact HB.out | apply below_alloc | apply pw_below_drewN | apply below_drew1 | refine below_set ?_ (IsS102.ge HI282.out) | refine below_set ?_ GE283.out | refine below_set ?_ GE288.out) | exact HB.out)) hb);clear BK283;clear HI282;clear BK288;clear HB;have BK283:=n0_;have HI282:=n1_;have BK288:=n2_;have HB:=n3_;clear n0_ n1_ n2_ n3_;(try clear hb);(try clear hb2);(try clear hk);(try clear hi)) | ((with_reducible refine gate_dst (N:=20) rfl ?_);(try (refine gate_guard (by rfl) ?_;dsimp only));refine box_event ?hg (N:=20) ?hd (cs:=#[.string (⟨#[]⟩ : ByteArray),.int .i64 0,.int .i64 0]) (t:=59) ?hr ?_;(case hd => rfl);(case hg => rfl);(case hr => first | (go_simp;done) | (go_simp;rfl));intro gb329 hg w119 hbox hb;have n0_:=Aside0.mk (blk_below (g:=gb283) (o:=.cells #[.string x284000_3,.int .i64 x284001_3,.int .i64 x284002_3] 59 (0,0)) (by (with_reducible repeat (first | refine blk_drewN ?_ _ | refine blk_drew ?_ | refine blk_alloc ?_ _));exact BK283.out) hb);have n1_:=Aside0.mk (IsS102.below (by repeat (first | (with_reducible first | exact HI282.out | apply IsS102.alloc | apply IsS102.drewN | apply IsS102.drew | apply IsS102.set_0 | apply IsS102.set_1 | apply IsS102.set_2 | refine IsS102.far ?_ NB282_283.out _ | refine IsS102.far ?_ NB282_288.out _) | exact HI282.out)) hb);have n2_:=Aside0.mk (blk_below (g:=gb288) (o:=.cells #[.int .i64 ((rd_T61 l1 x55_3).f0),.int .i64 ((rd_T61 l1 x55_3).f1)] 61 (0,0)) (by (with_reducible repeat (first | refine blk_drewN ?_ _ | refine blk_drew ?_ | refine blk_alloc ?_ _));exact BK288.out) hb);have n3_:=Aside0.mk (below_step (by repeat (first | (with_reducible first | exact HB.out | apply below_alloc | apply pw_below_drewN | apply below_drew1 | refine below_set ?_ (IsS102.ge HI282.out) | refine below_set ?_ GE283.out | refine below_set ?_ GE288.out) | exact HB.out)) hb);have n4_:=Aside0.mk (hbox);have n5_:=Aside0.mk ((by rw [hg];exact (below_size (by repeat (first | (with_reducible first | exact HB.out | apply below_alloc | apply pw_below_drewN | apply below_drew1 | refine below_set ?_ (IsS102.ge HI282.out) | refine below_set ?_ GE283.out | refine below_set ?_ GE288.out) | exact HB.out))) : w.heap.size ≤ gb329));have n6_:=Aside0.mk ((by rw [hg];exact (below_size (by repeat (first | (with_reducible first | exact HB.out | apply below_alloc | apply pw_below_drewN | apply below_drew1 | refine below_set ?_ (IsS102.ge HI282.out) | refine below_set ?_ GE283.out | refine below_set ?_ GE288.out) | exact HB.out))) : w.heap.size ≤ gb329));have n7_:=Aside0.mk ((by rw [hg];exact Nat.ne_of_lt (blk_lt (g:=gb283) (o:=.cells #[.string x284000_3,.int .i64 x284001_3,.int .i64 x284002_3] 59 (0,0)) (by (with_reducible repeat (first | refine blk_drewN ?_ _ | refine blk_drew ?_ | refine blk_alloc ?_ _));exact BK283.out)) : gb283 ≠ gb329));have n8_:=Aside0.mk ((by rw [hg];exact Nat.ne_of_gt (blk_lt (g:=gb283) (o:=.cells #[.string x284000_3,.int .i64 x284001_3,.int .i64 x284002_3] 59 (0,0)) (by (with_reducible repeat (first | refine blk_drewN ?_ _ | refine blk_drew ?_ | refine blk_alloc ?_ _));exact BK283.out)) : gb329 ≠ gb283));have n9_:=Aside0.mk ((by rw [hg];exact Nat.ne_of_lt (blk_lt (g:=gb288) (o:=.cells #[.int .i64 ((rd_T61 l1 x55_3).f0),.int .i64 ((rd_T61 l1 x55_3).f1)] 61 (0,0)) (by (with_reducible repeat (first | refine blk_drewN ?_ _ | refine blk_drew ?_ | refine blk_alloc ?_ _));exact BK288.out)) : gb288 ≠ gb329));have n10_:=Aside0.mk ((by rw [hg];exact Nat.ne_of_gt (blk_lt (g:=gb288) (o:=.cells #[.int .i64 ((rd_T61 l1 x55_3).f0),.int .i64 ((rd_T61 l1 x55_3).f1)] 61 (0,0)) (by (with_reducible repeat (first | refine blk_drewN ?_ _ | refine blk_drew ?_ | refine blk_alloc ?_ _));exact BK288.out)) : gb329 ≠ gb288));have n11_:=Aside0.mk ((by rw [hg];exact Nat.ne_of_lt (IsS102.lt (show IsS102 w _ g282 x283000_3 x283001_3 x283002_3 from by repeat (first | (with_reducible first | exact HI282.out | apply IsS102.alloc | apply IsS102.drewN | apply IsS102.drew | apply IsS102.set_0 | apply IsS102.set_1 | apply IsS102.set_2 | refine IsS102.far ?_ NB282_283.out _ | refine IsS102.far ?_ NB282_288.out _) | exact HI282.out))) : g282 ≠ gb329));have n12_:=Aside0.mk ((by rw [hg];exact Nat.ne_of_gt (IsS102.lt (show IsS102 w _ g282 x283000_3 x283001_3 x283002_3 from by repeat (first | (with_reducible first | exact HI282.out | apply IsS102.alloc | apply IsS102.drewN | apply IsS102.drew | apply IsS102.set_0 | apply IsS102.set_1 | apply IsS102.set_2 | refine IsS102.far ?_ NB282_283.out _ | refine IsS102.far ?_ NB282_288.out _) | exact HI282.out))) : gb329 ≠ g282));clear BK283;clear HI282;clear BK288;clear HB;have BK283:=n0_;have HI282:=n1_;have BK288:=n2_;have HB:=n3_;have BK329:=n4_;have GW329:=n5_;have GE329:=n6_;have NB283_329:=n7_;have NB329_283:=n8_;have NB288_329:=n9_;have NB329_288:=n10_;have NB282_329:=n11_;have NB329_282:=n12_;clear n0_ n1_ n2_ n3_ n4_ n5_ n6_ n7_ n8_ n9_ n10_ n11_ n12_;clear hb hbox hg;have hnb120:=NB329_283.out;have hnc120:=NB283_329.out;have hnb121:=NB329_288.out;have hnc121:=NB288_329.out;have hnb122:=NB329_282.out;have hnc122:=NB282_329.out;have hcz123_0 : w119.cell? ⟨gb329,0,none⟩ = some (.string (⟨#[]⟩ : ByteArray)):=(blk_cell BK329.out 0).trans rfl;have hcz123_1 : w119.cell? ⟨gb329,1,none⟩ = some (.int .i64 0):=(blk_cell BK329.out 1).trans rfl;have hcz123_2 : w119.cell? ⟨gb329,2,none⟩ = some (.int .i64 0):=(blk_cell BK329.out 2).trans rfl;have hfz123_0:=blk_frozen BK329.out 0;have hfz123_1:=blk_frozen BK329.out 1;have hfz123_2:=blk_frozen BK329.out 2))
                   have n0_ : Aside0 ((((w119.setCell ⟨gb329,0,none⟩ (.string t325)).setCell ⟨gb329,1,none⟩ (.int .i64 t326)).setCell ⟨gb329,2,none⟩ (.int .i64 t327)).heap[gb283]? = some (.cells #[.string x284000_3,.int .i64 x284001_3,.int .i64 x284002_3] 59 (0,0))):=⟨by (with_reducible repeat (first | refine blk_drewN ?_ _ | refine blk_drew ?_ | refine blk_alloc ?_ _));refine blk_far ?_ NB283_329.out _;(with_reducible repeat (first | refine blk_drewN ?_ _ | refine blk_drew ?_ | refine blk_alloc ?_ _));refine blk_far ?_ NB283_329.out _;(with_reducible repeat (first | refine blk_drewN ?_ _ | refine blk_drew ?_ | refine blk_alloc ?_ _));refine blk_far ?_ NB283_329.out _;(with_reducible repeat (first | refine blk_drewN ?_ _ | refine blk_drew ?_ | refine blk_alloc ?_ _));exact BK283.out⟩
                   have n1_ : Aside0 ((((w119.setCell ⟨gb329,0,none⟩ (.string t325)).setCell ⟨gb329,1,none⟩ (.int .i64 t326)).setCell ⟨gb329,2,none⟩ (.int .i64 t327)).heap[gb288]? = some (.cells #[.int .i64 ((rd_T61 l1 x55_3).f0),.int .i64 ((rd_T61 l1 x55_3).f1)] 61 (0,0))):=⟨by (with_reducible repeat (first | refine blk_drewN ?_ _ | refine blk_drew ?_ | refine blk_alloc ?_ _));refine blk_far ?_ NB288_329.out _;(with_reducible repeat (first | refine blk_drewN ?_ _ | refine blk_drew ?_ | refine blk_alloc ?_ _));refine blk_far ?_ NB288_329.out _;(with_reducible repeat (first | refine blk_drewN ?_ _ | refine blk_drew ?_ | refine blk_alloc ?_ _));refine blk_far ?_ NB288_329.out _;(with_reducible repeat (first | refine blk_drewN ?_ _ | refine blk_drew ?_ | refine blk_alloc ?_ _));exact BK288.out⟩
                   have n2_ : Aside0 ((((w119.setCell ⟨gb329,0,none⟩ (.string t325)).setCell ⟨gb329,1,none⟩ (.int .i64 t326)).setCell ⟨gb329,2,none⟩ (.int .i64 t327)).heap[gb329]? = some (.cells #[.string t325,.int .i64 t326,.int .i64 t327] 59 (0,0))):=⟨by (with_reducible repeat (first | refine blk_drewN ?_ _ | refine blk_drew ?_ | refine blk_alloc ?_ _));refine blk_put (cs:=#[.string t325,.int .i64 t326,.int .i64 0]) ?_ 2 _ rfl;(with_reducible repeat (first | refine blk_drewN ?_ _ | refine blk_drew ?_ | refine blk_alloc ?_ _));refine blk_put (cs:=#[.string t325,.int .i64 0,.int .i64 0]) ?_ 1 _ rfl;(with_reducible repeat (first | refine blk_drewN ?_ _ | refine blk_drew ?_ | refine blk_alloc ?_ _));refine blk_put (cs:=#[.string (⟨#[]⟩ : ByteArray),.int .i64 0,.int .i64 0]) ?_ 0 _ rfl;(with_reducible repeat (first | refine blk_drewN ?_ _ | refine blk_drew ?_ | refine blk_alloc ?_ _));exact BK329.out⟩
                   have n3_ : Aside0 (IsS102 w (((w119.setCell ⟨gb329,0,none⟩ (.string t325)).setCell ⟨gb329,1,none⟩ (.int .i64 t326)).setCell ⟨gb329,2,none⟩ (.int .i64 t327)) g282 x283000_3 x283001_3 x283002_3):=⟨by repeat (first | (with_reducible first | exact HI282.out | apply IsS102.alloc | apply IsS102.drewN | apply IsS102.drew | apply IsS102.set_0 | apply IsS102.set_1 | apply IsS102.set_2 | refine IsS102.far ?_ NB282_283.out _ | refine IsS102.far ?_ NB282_288.out _ | refine IsS102.far ?_ NB282_329.out _) | exact HI282.out)⟩
                   have n4_ : Aside0 (Below w.heap.size w (((w119.setCell ⟨gb329,0,none⟩ (.string t325)).setCell ⟨gb329,1,none⟩ (.int .i64 t326)).setCell ⟨gb329,2,none⟩ (.int .i64 t327))):=⟨by repeat (first | (with_reducible first | exact HB.out | apply below_alloc | apply pw_below_drewN | apply below_drew1 | refine below_set ?_ (IsS102.ge HI282.out) | refine below_set ?_ GE283.out | refine below_set ?_ GE288.out | refine below_set ?_ GE329.out) | exact HB.out)⟩
                   (try clear BK283)
                   (try clear BK288)
                   (try clear BK329)
                   (try clear HI282)
                   (try clear HB)
                   generalize (((w119.setCell ⟨gb329,0,none⟩ (.string t325)).setCell ⟨gb329,1,none⟩ (.int .i64 t326)).setCell ⟨gb329,2,none⟩ (.int .i64 t327)) = w124 at n0_ n1_ n2_ n3_ n4_ ⊢
                   have BK283:=n0_
                   have BK288:=n1_
                   have BK329:=n2_
                   have HI282:=n3_
                   have HB:=n4_
                   clear n0_ n1_ n2_ n3_ n4_
                   have n0_:=Aside0.mk (blk_drew BK283.out)
                   have n1_:=Aside0.mk (blk_drew BK288.out)
                   have n2_:=Aside0.mk (blk_drew BK329.out)
                   have n3_:=Aside0.mk (IsS102.drew HI282.out)
                   have n4_:=Aside0.mk (below_drew1 HB.out)
                   clear BK283
                   clear BK288
                   clear BK329
                   clear HI282
                   clear HB
                   have BK283:=n0_
                   have BK288:=n1_
                   have BK329:=n2_
                   have HI282:=n3_
                   have HB:=n4_
                   clear n0_ n1_ n2_ n3_ n4_
                   refine start_ (n:=7) (S:=fun w' => w'.cell? ⟨gb329,0,none⟩ = some (.string t325) ∧ w'.cell? ⟨gb329,1,none⟩ = some (.int .i64 t326) ∧ w'.cell? ⟨gb329,2,none⟩ = some (.int .i64 t327)) (ds:=[]) #[n_,n_,n_,n_,n_,n_,n_] (by kernel_rfl) rfl rfl ⟨(blk_cell BK329.out 0).trans rfl,(blk_cell BK329.out 1).trans rfl,(blk_cell BK329.out 2).trans rfl⟩ (fun hHeld => ?_)
                   generalize w124.drew = w125 at BK283 BK288 BK329 HI282 HB hHeld ⊢
                   refine pure_ (i:=1) (N:=some 127) (v:=?_) (a':=?_) #[n_,y_,n_,n_,n_,n_,n_] rfl rfl (by kernel_rfl) (fun _ _ _ h => h) (Or.inl ⟨by rfl,?_⟩) ?_ ?_
                   rotate_left
                   ·intro w'
                    go_simp
                    with_reducible rfl
                   rotate_left
                   ·simp only [Act.put,sA_,sB_,sC_,i64_w,i32_w]
                    rfl
                   refine pure_ (i:=3) (N:=some 129) (v:=?_) (a':=?_) #[n_,y_,n_,y_,n_,n_,n_] rfl rfl (by kernel_rfl) (fun _ _ _ h => h) (Or.inl ⟨by rfl,?_⟩) ?_ ?_
                   rotate_left
                   ·intro w'
                    go_simp
                    with_reducible rfl
                   rotate_left
                   ·simp only [Act.put,sA_,sB_,sC_,i64_w,i32_w]
                    rfl
                   refine take_ (i:=0) (N:=some 126) (v:=?_) (a':=?_) #[y_,y_,n_,y_,n_,n_,n_] rfl rfl (by kernel_rfl) (fun _ _ _ h => h) (Or.inl ⟨by rfl,?_⟩) hHeld ?_ ?_
                   rotate_left
                   ·rintro w' ⟨s0,s1,s2⟩
                    go_simp
                    with_reducible rfl
                   rotate_left
                   ·simp only [Act.put,sA_,sB_,sC_,i64_w,i32_w]
                    rfl
                   refine one_ (i:=2) (N:=some 128) #[y_,y_,y_,y_,n_,n_,n_] rfl rfl (by kernel_rfl) (by decide) (fun K hK => ?_)
                   refine goes_ Try.func44 (by kernel_rfl) rfl #[.pointer (some ⟨g282,0,none⟩)] (by rfl) rfl rfl (by (try simp only [List.map_toArray,List.map_cons,List.map_nil]);first | done | rfl | (simp only [List.length_drop,List.length_take];rfl)) ?_
                   with_reducible refine (cursor_Cursor_Done.calls g282 x283000_3 x283001_3 x283002_3 t330 t331 t332 t333 w _ ?side1 ?side2 A114.out).mono ?_
                   (case side1 => repeat (first | (with_reducible first | exact HI282.out | apply IsS102.alloc | apply IsS102.drewN | apply IsS102.drew | apply IsS102.set_0 | apply IsS102.set_1 | apply IsS102.set_2 | refine IsS102.far ?_ NB282_283.out _ | refine IsS102.far ?_ NB282_288.out _ | refine IsS102.far ?_ NB282_329.out _) | exact HI282.out))
                   (case side2 => repeat (first | (with_reducible first | exact HB.out | apply below_alloc | apply pw_below_drewN | apply below_drew1 | refine below_set ?_ (IsS102.ge HI282.out) | refine below_set ?_ GE283.out | refine below_set ?_ GE288.out | refine below_set ?_ GE329.out) | exact HB.out))
                   rintro e w126 ⟨rfl,hi,hb,hk⟩
                   refine ⟨_,rfl,?_⟩
                   have n0_:=Aside0.mk (KeepBut.blk hk (g':=gb283) (o:=.cells #[.string x284000_3,.int .i64 x284001_3,.int .i64 x284002_3] 59 (0,0)) (by (with_reducible repeat (first | refine blk_drewN ?_ _ | refine blk_drew ?_ | refine blk_alloc ?_ _));exact BK283.out) NB283_282.out (by simp))
                   have n1_:=Aside0.mk (KeepBut.blk hk (g':=gb288) (o:=.cells #[.int .i64 ((rd_T61 l1 x55_3).f0),.int .i64 ((rd_T61 l1 x55_3).f1)] 61 (0,0)) (by (with_reducible repeat (first | refine blk_drewN ?_ _ | refine blk_drew ?_ | refine blk_alloc ?_ _));exact BK288.out) NB288_282.out (by simp))
                   have n2_:=Aside0.mk (KeepBut.blk hk (g':=gb329) (o:=.cells #[.string t325,.int .i64 t326,.int .i64 t327] 59 (0,0)) (by (with_reducible repeat (first | refine blk_drewN ?_ _ | refine blk_drew ?_ | refine blk_alloc ?_ _));exact BK329.out) NB329_282.out (by simp))
                   have n3_:=Aside0.mk (hb)
                   have n4_:=Aside0.mk (hi)
                   clear BK283
                   clear BK288
                   clear BK329
                   clear HB
                   clear HI282
                   have BK283:=n0_
                   have BK288:=n1_
                   have BK329:=n2_
                   have HB:=n3_
                   have HI282:=n4_
                   clear n0_ n1_ n2_ n3_ n4_
                   (try clear hb)
                   (try clear hb2)
                   (try clear hk)
                   (try clear hi)
                   refine hK.out _ _ ⟨(blk_cell BK329.out 0).trans rfl,(blk_cell BK329.out 1).trans rfl,(blk_cell BK329.out 2).trans rfl⟩ (fun hHeld => ?_)
                   clear hK K
                   refine norm_ (a':=?_) ?_ ?_
                   rotate_left
                   ·show Act.put _ (some 128) _ = _
                    simp only [Act.put,sA_,sB_,sC_,i64_w,i32_w]
                    rfl
                   refine pure_ (i:=4) (N:=some 130) (v:=?_) (a':=?_) #[y_,y_,y_,y_,y_,n_,n_] rfl rfl (by kernel_rfl) (fun _ _ _ h => h) (Or.inl ⟨by rfl,?_⟩) ?_ ?_
                   rotate_left
                   ·intro w'
                    go_simp
                    with_reducible rfl
                   rotate_left
                   ·simp only [Act.put,sA_,sB_,sC_,i64_w,i32_w]
                    rfl
                   refine one_ (i:=5) (N:=none) #[y_,y_,y_,y_,y_,y_,n_] rfl rfl (by kernel_rfl) (by decide) (fun K hK => ?_)
                   have hs127 : w126.cell? ⟨gb283,0,none⟩ = some (.string x284000_3):=(blk_cell BK283.out 0).trans rfl
                   have hfs127:=blk_frozen BK283.out 0
                   have hns127_1:=NB288_283.out
                   have hns127_2:=NB329_283.out
                   have hms127_1:=NB283_288.out
                   have hms127_2:=NB283_329.out
                   have hs128 : w126.cell? ⟨gb283,1,none⟩ = some (.int .i64 x284001_3):=(blk_cell BK283.out 1).trans rfl
                   have hfs128:=blk_frozen BK283.out 1
                   have hns128_1:=NB288_283.out
                   have hns128_2:=NB329_283.out
                   have hms128_1:=NB283_288.out
                   have hms128_2:=NB283_329.out
                   have hs129 : w126.cell? ⟨gb283,2,none⟩ = some (.int .i64 x284002_3):=(blk_cell BK283.out 2).trans rfl
                   have hfs129:=blk_frozen BK283.out 2
                   have hns129_1:=NB288_283.out
                   have hns129_2:=NB329_283.out
                   have hms129_1:=NB283_288.out
                   have hms129_2:=NB283_329.out
                   refine skip_ (w1:=?_) (by rfl) rfl ?_ ?_
                   rotate_left
                   ·go_simp
                    rfl
                   refine hK.out _ _ ⟨((cell_far (p:=⟨gb283,_,none⟩) NB329_283.out _).trans (((cell_far (p:=⟨gb283,_,none⟩) NB329_283.out _).trans (((cell_far (p:=⟨gb283,_,none⟩) NB329_283.out _).trans (hHeld.1)))))),((cell_far (p:=⟨gb283,_,none⟩) NB329_283.out _).trans (((cell_far (p:=⟨gb283,_,none⟩) NB329_283.out _).trans (((cell_far (p:=⟨gb283,_,none⟩) NB329_283.out _).trans (hHeld.2.1)))))),((cell_far (p:=⟨gb283,_,none⟩) NB329_283.out _).trans (((cell_far (p:=⟨gb283,_,none⟩) NB329_283.out _).trans (((cell_far (p:=⟨gb283,_,none⟩) NB329_283.out _).trans (hHeld.2.2))))))⟩ (fun hHeld => ?_)
                   clear hK K
                   refine pure_ (i:=6) (N:=some 11) (v:=?_) (a':=?_) #[y_,y_,y_,y_,y_,y_,y_] rfl rfl (by kernel_rfl) (fun _ _ _ h => h) (Or.inl ⟨by rfl,?_⟩) ?_ ?_
                   rotate_left
                   ·intro w'
                    go_simp
                    with_reducible rfl
                   rotate_left
                   ·simp only [Act.put,sA_,sB_,sC_,i64_w,i32_w]
                    rfl
                   refine done_ (by kernel_rfl) ?_
                   try go_wp2
                   go_meet
                   case rel => exact ⟨_,((t330 == t328)),(t331),(t332),(t333),(t325),(t326),(t327),(by first | rfl | (simp;done) | (simp [*];done)),H',⟨by have:=HJ2.out;have:=HK2.out;have:=HK3.out;first | omega | exact Nat.le_refl _⟩,⟨by (try simp only [hl5_2]);(with_reducible repeat (first | refine blk_drewN ?_ _ | refine blk_drew ?_ | refine blk_alloc ?_ _));refine blk_put (cs:=#[.string t325,.int .i64 t326,.int .i64 x284002_3]) ?_ 2 _ rfl;(with_reducible repeat (first | refine blk_drewN ?_ _ | refine blk_drew ?_ | refine blk_alloc ?_ _));refine blk_put (cs:=#[.string t325,.int .i64 x284001_3,.int .i64 x284002_3]) ?_ 1 _ rfl;(with_reducible repeat (first | refine blk_drewN ?_ _ | refine blk_drew ?_ | refine blk_alloc ?_ _));refine blk_put (cs:=#[.string x284000_3,.int .i64 x284001_3,.int .i64 x284002_3]) ?_ 0 _ rfl;(with_reducible repeat (first | refine blk_drewN ?_ _ | refine blk_drew ?_ | refine blk_alloc ?_ _));exact BK283.out⟩,⟨by (try simp only [hl5_2]);(with_reducible repeat (first | refine blk_drewN ?_ _ | refine blk_drew ?_ | refine blk_alloc ?_ _));refine blk_far ?_ NB288_283.out _;(with_reducible repeat (first | refine blk_drewN ?_ _ | refine blk_drew ?_ | refine blk_alloc ?_ _));refine blk_far ?_ NB288_283.out _;(with_reducible repeat (first | refine blk_drewN ?_ _ | refine blk_drew ?_ | refine blk_alloc ?_ _));refine blk_far ?_ NB288_283.out _;(with_reducible repeat (first | refine blk_drewN ?_ _ | refine blk_drew ?_ | refine blk_alloc ?_ _));exact BK288.out⟩,⟨by repeat (first | (with_reducible first | exact HI282.out | apply IsS102.alloc | apply IsS102.drewN | apply IsS102.drew | apply IsS102.set_0 | apply IsS102.set_1 | apply IsS102.set_2 | refine IsS102.far ?_ NB282_283.out _ | refine IsS102.far ?_ NB282_288.out _ | refine IsS102.far ?_ NB282_329.out _) | exact HI282.out)⟩,⟨by repeat (first | (with_reducible first | exact HB.out | apply below_alloc | apply pw_below_drewN | apply below_drew1 | refine below_set ?_ (IsS102.ge HI282.out) | refine below_set ?_ GE283.out | refine below_set ?_ GE288.out | refine below_set ?_ GE329.out) | exact HB.out)⟩⟩
                  ·rw [if_neg c112] at H
                   have c112b0 : (((rd_T61 l1 x55_3).f0) == 4) = false:=beq_eq_false_iff_ne.mpr c112
                   have c112b1 : (((rd_T61 l1 x55_3).f0) != 4) = true:=bne_iff_ne.mpr c112
                   by_cases c130 : ((rd_T61 l1 x55_3).f0) = 5
                   ·rw [if_pos c130] at H
                    have c130b0 : (((rd_T61 l1 x55_3).f0) == 5) = true:=beq_iff_eq.mpr c130
                    have c130b1 : (((rd_T61 l1 x55_3).f0) != 5) = false:=bne_eq_false_iff_eq.mpr c130
                    clear c130
                    replace H:=Option.bind_eq_some_iff.mp H
                    obtain ⟨⟨t334,t335,t336⟩,A1310,H⟩:=H
                    replace H : ((tachographref03_Cursor_Stop.f x284000_3 x284001_3 x284002_3 ((rd_T61 l1 x55_3).f1)).bind fun bt337 => (tachographlaw03_CursorPlays.j3 k3 true l1 (l1.length : Int) x55_3 t334 t335 t336 bt337.1 bt337.2.1 bt337.2.2)) = some r:=H
                    have A131:=Aside0.mk A1310
                    clear A1310
                    replace H:=Option.bind_eq_some_iff.mp H
                    obtain ⟨⟨t337,t338,t339⟩,A1320,H⟩:=H
                    replace H : (tachographlaw03_CursorPlays.j3 k3 true l1 (l1.length : Int) x55_3 t334 t335 t336 t337 t338 t339) = some r:=H
                    have A132:=Aside0.mk A1320
                    clear A1320
                    have H':=Aside0.mk H
                    clear H
                    have hnb133:=NB288_283.out
                    have hnc133:=NB283_288.out
                    have hnb134:=NB288_282.out
                    have hnc134:=NB282_288.out
                    have hcz135_0 : w32.cell? ⟨gb288,0,none⟩ = some (.int .i64 0):=(blk_cell BK288.out 0).trans rfl
                    have hcz135_1 : w32.cell? ⟨gb288,1,none⟩ = some (.int .i64 0):=(blk_cell BK288.out 1).trans rfl
                    have hfz135_0:=blk_frozen BK288.out 0
                    have hfz135_1:=blk_frozen BK288.out 1
                    go_wp2_with (first | ((with_reducible refine gate_callee (f:=45) rfl ?_);refine goesL_ (some 136) rfl rfl Try.func45 (by kernel_rfl) rfl #[.pointer (some ⟨g282,0,none⟩),.int .i64 ((rd_T61 l1 x55_3).f1)] rfl (by (try simp only [List.map_toArray,List.map_cons,List.map_nil]);first | done | rfl | (simp only [List.length_drop,List.length_take];rfl)) ?_;(with_reducible refine (cursor_Cursor_Stop.calls g282 x283000_3 x283001_3 x283002_3 ((rd_T61 l1 x55_3).f1) t334 t335 t336 w _ ?side1 ?side2 A131.out).mono ?_);(case side1 => repeat (first | (with_reducible first | exact HI282.out | apply IsS102.alloc | apply IsS102.drewN | apply IsS102.drew | apply IsS102.set_0 | apply IsS102.set_1 | apply IsS102.set_2 | refine IsS102.far ?_ NB282_283.out _ | refine IsS102.far ?_ NB282_288.out _) | exact HI282.out));(case side2 => repeat (first | (with_reducible first | exact HB.out | apply below_alloc | apply pw_below_drewN | apply below_drew1 | refine below_set ?_ (IsS102.ge HI282.out) | refine below_set ?_ GE283.out | refine below_set ?_ GE288.out) | exact HB.out));rintro e w136 ⟨rfl,hi,hb,hk⟩;refine ⟨_,rfl,?_⟩;have n0_:=Aside0.mk (KeepBut.blk hk (g':=gb283) (o:=.cells #[.string x284000_3,.int .i64 x284001_3,.int .i64 x284002_3] 59 (0,0)) (by (with_reducible repeat (first | refine blk_drewN ?_ _ | refine blk_drew ?_ | refine blk_alloc ?_ _));refine blk_far ?_ NB283_288.out _;(with_reducible repeat (first | refine blk_drewN ?_ _ | refine blk_drew ?_ | refine blk_alloc ?_ _));refine blk_far ?_ NB283_288.out _;(with_reducible repeat (first | refine blk_drewN ?_ _ | refine blk_drew ?_ | refine blk_alloc ?_ _));exact BK283.out) NB283_282.out (by simp));have n1_:=Aside0.mk (KeepBut.blk hk (g':=gb288) (o:=.cells #[.int .i64 ((rd_T61 l1 x55_3).f0),.int .i64 ((rd_T61 l1 x55_3).f1)] 61 (0,0)) (by (with_reducible repeat (first | refine blk_drewN ?_ _ | refine blk_drew ?_ | refine blk_alloc ?_ _));refine blk_put (cs:=#[.int .i64 ((rd_T61 l1 x55_3).f0),.int .i64 0]) ?_ 1 _ rfl;(with_reducible repeat (first | refine blk_drewN ?_ _ | refine blk_drew ?_ | refine blk_alloc ?_ _));refine blk_put (cs:=#[.int .i64 0,.int .i64 0]) ?_ 0 _ rfl;(with_reducible repeat (first | refine blk_drewN ?_ _ | refine blk_drew ?_ | refine blk_alloc ?_ _));exact BK288.out) NB288_282.out (by simp));have n2_:=Aside0.mk (hb);have n3_:=Aside0.mk (hi);clear BK283;clear BK288;clear HB;clear HI282;have BK283:=n0_;have BK288:=n1_;have HB:=n2_;have HI282:=n3_;clear n0_ n1_ n2_ n3_;(try clear hb);(try clear hb2);(try clear hk);(try clear hi);have hnb137:=NB283_282.out;have hnc137:=NB282_283.out;have hcz138_0 : w136.cell? ⟨gb283,0,none⟩ = some (.string x284000_3):=(blk_cell BK283.out 0).trans rfl;have hcz138_1 : w136.cell? ⟨gb283,1,none⟩ = some (.int .i64 x284001_3):=(blk_cell BK283.out 1).trans rfl;have hcz138_2 : w136.cell? ⟨gb283,2,none⟩ = some (.int .i64 x284002_3):=(blk_cell BK283.out 2).trans rfl;have hfz138_0:=blk_frozen BK283.out 0;have hfz138_1:=blk_frozen BK283.out 1;have hfz138_2:=blk_frozen BK283.out 2;have hcz139_0 : w136.cell? ⟨gb288,0,none⟩ = some (.int .i64 ((rd_T61 l1 x55_3).f0)):=(blk_cell BK288.out 0).trans rfl;have hcz139_1 : w136.cell? ⟨gb288,1,none⟩ = some (.int .i64 ((rd_T61 l1 x55_3).f1)):=(blk_cell BK288.out 1).trans rfl;have hfz139_0:=blk_frozen BK288.out 0;have hfz139_1:=blk_frozen BK288.out 1) | ((with_reducible refine gate_callee (f:=46) rfl ?_);refine goesL_ (some 140) rfl rfl Try.func46 (by kernel_rfl) rfl #[.agg #[.string x284000_3,.int .i64 x284001_3,.int .i64 x284002_3],.int .i64 ((rd_T61 l1 x55_3).f1)] rfl (by (try simp only [List.map_toArray,List.map_cons,List.map_nil]);first | done | rfl | (simp only [List.length_drop,List.length_take];rfl)) ?_;(with_reducible refine (tachographref03_Cursor_Stop.calls x284000_3 x284001_3 x284002_3 ((rd_T61 l1 x55_3).f1) t337 t338 t339 _ A132.out).mono ?_);rintro e w140 ⟨rfl,hb⟩;refine ⟨_,rfl,?_⟩;have n0_:=Aside0.mk (blk_below (g:=gb283) (o:=.cells #[.string x284000_3,.int .i64 x284001_3,.int .i64 x284002_3] 59 (0,0)) (by (with_reducible repeat (first | refine blk_drewN ?_ _ | refine blk_drew ?_ | refine blk_alloc ?_ _));exact BK283.out) hb);have n1_:=Aside0.mk (IsS102.below (by repeat (first | (with_reducible first | exact HI282.out | apply IsS102.alloc | apply IsS102.drewN | apply IsS102.drew | apply IsS102.set_0 | apply IsS102.set_1 | apply IsS102.set_2 | refine IsS102.far ?_ NB282_283.out _ | refine IsS102.far ?_ NB282_288.out _) | exact HI282.out)) hb);have n2_:=Aside0.mk (blk_below (g:=gb288) (o:=.cells #[.int .i64 ((rd_T61 l1 x55_3).f0),.int .i64 ((rd_T61 l1 x55_3).f1)] 61 (0,0)) (by (with_reducible repeat (first | refine blk_drewN ?_ _ | refine blk_drew ?_ | refine blk_alloc ?_ _));exact BK288.out) hb);have n3_:=Aside0.mk (below_step (by repeat (first | (with_reducible first | exact HB.out | apply below_alloc | apply pw_below_drewN | apply below_drew1 | refine below_set ?_ (IsS102.ge HI282.out) | refine below_set ?_ GE283.out | refine below_set ?_ GE288.out) | exact HB.out)) hb);clear BK283;clear HI282;clear BK288;clear HB;have BK283:=n0_;have HI282:=n1_;have BK288:=n2_;have HB:=n3_;clear n0_ n1_ n2_ n3_;(try clear hb);(try clear hb2);(try clear hk);(try clear hi);have hcz141_0 : w140.cell? ⟨gb283,0,none⟩ = some (.string x284000_3):=(blk_cell BK283.out 0).trans rfl;have hcz141_1 : w140.cell? ⟨gb283,1,none⟩ = some (.int .i64 x284001_3):=(blk_cell BK283.out 1).trans rfl;have hcz141_2 : w140.cell? ⟨gb283,2,none⟩ = some (.int .i64 x284002_3):=(blk_cell BK283.out 2).trans rfl;have hfz141_0:=blk_frozen BK283.out 0;have hfz141_1:=blk_frozen BK283.out 1;have hfz141_2:=blk_frozen BK283.out 2))
                    go_meet
                    case rel => exact ⟨_,(true),(t334),(t335),(t336),(t337),(t338),(t339),(by first | rfl | (simp;done) | (simp [*];done)),H',⟨by have:=HJ2.out;have:=HK2.out;have:=HK3.out;first | omega | exact Nat.le_refl _⟩,⟨by (try simp only [hl5_2]);(with_reducible repeat (first | refine blk_drewN ?_ _ | refine blk_drew ?_ | refine blk_alloc ?_ _));refine blk_put (cs:=#[.string t337,.int .i64 t338,.int .i64 x284002_3]) ?_ 2 _ rfl;(with_reducible repeat (first | refine blk_drewN ?_ _ | refine blk_drew ?_ | refine blk_alloc ?_ _));refine blk_put (cs:=#[.string t337,.int .i64 x284001_3,.int .i64 x284002_3]) ?_ 1 _ rfl;(with_reducible repeat (first | refine blk_drewN ?_ _ | refine blk_drew ?_ | refine blk_alloc ?_ _));refine blk_put (cs:=#[.string x284000_3,.int .i64 x284001_3,.int .i64 x284002_3]) ?_ 0 _ rfl;(with_reducible repeat (first | refine blk_drewN ?_ _ | refine blk_drew ?_ | refine blk_alloc ?_ _));exact BK283.out⟩,⟨by (try simp only [hl5_2]);(with_reducible repeat (first | refine blk_drewN ?_ _ | refine blk_drew ?_ | refine blk_alloc ?_ _));refine blk_far ?_ NB288_283.out _;(with_reducible repeat (first | refine blk_drewN ?_ _ | refine blk_drew ?_ | refine blk_alloc ?_ _));refine blk_far ?_ NB288_283.out _;(with_reducible repeat (first | refine blk_drewN ?_ _ | refine blk_drew ?_ | refine blk_alloc ?_ _));refine blk_far ?_ NB288_283.out _;(with_reducible repeat (first | refine blk_drewN ?_ _ | refine blk_drew ?_ | refine blk_alloc ?_ _));exact BK288.out⟩,⟨by repeat (first | (with_reducible first | exact HI282.out | apply IsS102.alloc | apply IsS102.drewN | apply IsS102.drew | apply IsS102.set_0 | apply IsS102.set_1 | apply IsS102.set_2 | refine IsS102.far ?_ NB282_283.out _ | refine IsS102.far ?_ NB282_288.out _) | exact HI282.out)⟩,⟨by repeat (first | (with_reducible first | exact HB.out | apply below_alloc | apply pw_below_drewN | apply below_drew1 | refine below_set ?_ (IsS102.ge HI282.out) | refine below_set ?_ GE283.out | refine below_set ?_ GE288.out) | exact HB.out)⟩⟩
                   ·rw [if_neg c130] at H
                    have c130b0 : (((rd_T61 l1 x55_3).f0) == 5) = false:=beq_eq_false_iff_ne.mpr c130
                    have c130b1 : (((rd_T61 l1 x55_3).f0) != 5) = true:=bne_iff_ne.mpr c130
                    have H':=Aside0.mk H
                    clear H
                    go_wp2
                    go_meet
                    case rel => exact ⟨_,(true),(x283000_3),(x283001_3),(x283002_3),(x284000_3),(x284001_3),(x284002_3),(by first | rfl | (simp;done) | (simp [*];done)),H',⟨by have:=HJ2.out;have:=HK2.out;have:=HK3.out;first | omega | exact Nat.le_refl _⟩,⟨by (try simp only [hl5_2]);(with_reducible repeat (first | refine blk_drewN ?_ _ | refine blk_drew ?_ | refine blk_alloc ?_ _));refine blk_far ?_ NB283_288.out _;(with_reducible repeat (first | refine blk_drewN ?_ _ | refine blk_drew ?_ | refine blk_alloc ?_ _));refine blk_far ?_ NB283_288.out _;(with_reducible repeat (first | refine blk_drewN ?_ _ | refine blk_drew ?_ | refine blk_alloc ?_ _));exact BK283.out⟩,⟨by (try simp only [hl5_2]);(with_reducible repeat (first | refine blk_drewN ?_ _ | refine blk_drew ?_ | refine blk_alloc ?_ _));refine blk_put (cs:=#[.int .i64 ((rd_T61 l1 x55_3).f0),.int .i64 0]) ?_ 1 _ rfl;(with_reducible repeat (first | refine blk_drewN ?_ _ | refine blk_drew ?_ | refine blk_alloc ?_ _));refine blk_put (cs:=#[.int .i64 0,.int .i64 0]) ?_ 0 _ rfl;(with_reducible repeat (first | refine blk_drewN ?_ _ | refine blk_drew ?_ | refine blk_alloc ?_ _));exact BK288.out⟩,⟨by repeat (first | (with_reducible first | exact HI282.out | apply IsS102.alloc | apply IsS102.drewN | apply IsS102.drew | apply IsS102.set_0 | apply IsS102.set_1 | apply IsS102.set_2 | refine IsS102.far ?_ NB282_283.out _ | refine IsS102.far ?_ NB282_288.out _) | exact HI282.out)⟩,⟨by repeat (first | (with_reducible first | exact HB.out | apply below_alloc | apply pw_below_drewN | apply below_drew1 | refine below_set ?_ (IsS102.ge HI282.out) | refine below_set ?_ GE283.out | refine below_set ?_ GE288.out) | exact HB.out)⟩⟩
             case rest =>
              clear HC31
              (try clear c1);(try clear p2);(try clear c3);(try clear c4);(try clear c5);(try clear c7);(try clear c8);(try clear c9);(try clear c10);(try clear c11);(try clear c12);(try clear c13);(try clear c39);(try clear c40);(try clear c41);(try clear c42);(try clear c43);(try clear c44);(try clear c45);(try clear c46);(try clear c54);(try clear c54b0);(try clear c54b1);(try clear c74);(try clear c74b0);(try clear c74b1);(try clear c77);(try clear c78);(try clear c82);(try clear c83);(try clear c84);(try clear c92);(try clear c92b0);(try clear c92b1);(try clear c95);(try clear c96);(try clear c98);(try clear c102);(try clear c103);(try clear c104);(try clear c112);(try clear c112b0);(try clear c112b1);(try clear c115);(try clear c116);(try clear c120);(try clear c121);(try clear c122);(try clear c130);(try clear c130b0);(try clear c130b1);(try clear c133);(try clear c134);(try clear c137);(try clear hcz105_0);(try clear hcz105_1);(try clear hcz105_2);(try clear hcz117_0);(try clear hcz117_1);(try clear hcz117_2);(try clear hcz123_0);(try clear hcz123_1);(try clear hcz123_2);(try clear hcz135_0);(try clear hcz135_1);(try clear hcz138_0);(try clear hcz138_1);(try clear hcz138_2);(try clear hcz139_0);(try clear hcz139_1);(try clear hcz141_0);(try clear hcz141_1);(try clear hcz141_2);(try clear hcz79_0);(try clear hcz79_1);(try clear hcz79_2);(try clear hcz85_0);(try clear hcz85_1);(try clear hcz85_2);(try clear hcz97_0);(try clear hcz97_1);(try clear hcz97_2);(try clear hcz99_0);(try clear hcz99_1);(try clear hfz105_0);(try clear hfz105_1);(try clear hfz105_2);(try clear hfz117_0);(try clear hfz117_1);(try clear hfz117_2);(try clear hfz123_0);(try clear hfz123_1);(try clear hfz123_2);(try clear hfz135_0);(try clear hfz135_1);(try clear hfz138_0);(try clear hfz138_1);(try clear hfz138_2);(try clear hfz139_0);(try clear hfz139_1);(try clear hfz141_0);(try clear hfz141_1);(try clear hfz141_2);(try clear hfz79_0);(try clear hfz79_1);(try clear hfz79_2);(try clear hfz85_0);(try clear hfz85_1);(try clear hfz85_2);(try clear hfz97_0);(try clear hfz97_1);(try clear hfz97_2);(try clear hfz99_0);(try clear hfz99_1)
              obtain ⟨kq,x11_30,x283000_30,x283001_30,x283002_30,x284000_30,x284001_30,x284002_30,rfl,HA,HJ30,BK283,BK288,HI282,HB⟩:=hcut
              cases kq with
              | zero => exact absurd HA.out (by simp [tachographlaw03_CursorPlays.j3])
              | succ kj30 =>
               have H:=HA.out
               clear HA
               simp only [tachographlaw03_CursorPlays.j3] at H
               by_cases c142 : x11_30 = true
               ·subst c142
                have H1 : ((cursor_Cursor_At.f x283000_30 x283001_30 x283002_30).bind fun bt340 => (if bt340.1 = x284001_30 then ((cursor_Cursor_Left.f bt340.2.1 bt340.2.2.1 bt340.2.2.2).bind fun bt344 => (if bt344.1 = (x284000_30.size : Int) then ((cursor_Cursor_Err.f bt344.2.1 bt344.2.2.1 bt344.2.2.2).bind fun bt348 => (if bt348.1 = x284002_30 then (tachographlaw03_CursorPlays.l1 kj30 l1 (l1.length : Int) (wrap64 (x55_3 + 1)) bt348.2.1 bt348.2.2.1 bt348.2.2.2 x284000_30 x284001_30 x284002_30) else (some false))) else (some false))) else (some false))) = some r:=by rw [if_pos rfl] at H;exact H
                clear H
                have H:=H1
                clear H1
                replace H:=Option.bind_eq_some_iff.mp H
                obtain ⟨⟨t340,t341,t342,t343⟩,A1430,H⟩:=H
                replace H : (if t340 = x284001_30 then ((cursor_Cursor_Left.f t341 t342 t343).bind fun bt344 => (if bt344.1 = (x284000_30.size : Int) then ((cursor_Cursor_Err.f bt344.2.1 bt344.2.2.1 bt344.2.2.2).bind fun bt348 => (if bt348.1 = x284002_30 then (tachographlaw03_CursorPlays.l1 kj30 l1 (l1.length : Int) (wrap64 (x55_3 + 1)) bt348.2.1 bt348.2.2.1 bt348.2.2.2 x284000_30 x284001_30 x284002_30) else (some false))) else (some false))) else (some false)) = some r:=H
                have A143:=Aside0.mk A1430
                clear A1430
                by_cases c144 : t340 = x284001_30
                ·rw [if_pos c144] at H
                 have c144b0 : (t340 == x284001_30) = true:=beq_iff_eq.mpr c144
                 have c144b1 : (t340 != x284001_30) = false:=bne_eq_false_iff_eq.mpr c144
                 clear c144
                 replace H:=Option.bind_eq_some_iff.mp H
                 obtain ⟨⟨t344,t345,t346,t347⟩,A1450,H⟩:=H
                 replace H : (if t344 = (x284000_30.size : Int) then ((cursor_Cursor_Err.f t345 t346 t347).bind fun bt348 => (if bt348.1 = x284002_30 then (tachographlaw03_CursorPlays.l1 kj30 l1 (l1.length : Int) (wrap64 (x55_3 + 1)) bt348.2.1 bt348.2.2.1 bt348.2.2.2 x284000_30 x284001_30 x284002_30) else (some false))) else (some false)) = some r:=H
                 have A145:=Aside0.mk A1450
                 clear A1450
                 by_cases c146 : t344 = (x284000_30.size : Int)
                 ·rw [if_pos c146] at H
                  have c146b0 : (t344 == (x284000_30.size : Int)) = true:=beq_iff_eq.mpr c146
                  have c146b1 : (t344 != (x284000_30.size : Int)) = false:=bne_eq_false_iff_eq.mpr c146
                  clear c146
                  replace H:=Option.bind_eq_some_iff.mp H
                  obtain ⟨⟨t348,t349,t350,t351⟩,A1470,H⟩:=H
                  replace H : (if t348 = x284002_30 then (tachographlaw03_CursorPlays.l1 kj30 l1 (l1.length : Int) (wrap64 (x55_3 + 1)) t349 t350 t351 x284000_30 x284001_30 x284002_30) else (some false)) = some r:=H
                  have A147:=Aside0.mk A1470
                  clear A1470
                  by_cases c148 : t348 = x284002_30
                  ·rw [if_pos c148] at H
                   have c148b0 : (t348 == x284002_30) = true:=beq_iff_eq.mpr c148
                   have c148b1 : (t348 != x284002_30) = false:=bne_eq_false_iff_eq.mpr c148
                   clear c148
                   have H':=Aside0.mk H
                   clear H
                   try go_wp2
                   have n0_:=Aside0.mk (blk_drew BK283.out)
                   have n1_:=Aside0.mk (blk_drew BK288.out)
                   have n2_:=Aside0.mk (IsS102.drew HI282.out)
                   have n3_:=Aside0.mk (below_drew1 HB.out)
                   clear BK283
                   clear BK288
                   clear HI282
                   clear HB
                   have BK283:=n0_
                   have BK288:=n1_
                   have HI282:=n2_
                   have HB:=n3_
                   clear n0_ n1_ n2_ n3_
                   refine start_ (n:=24) (S:=fun w' => w'.cell? ⟨gb283,0,none⟩ = some (.string x284000_30) ∧ w'.cell? ⟨gb283,1,none⟩ = some (.int .i64 x284001_30) ∧ w'.cell? ⟨gb283,2,none⟩ = some (.int .i64 x284002_30)) (ds:=[]) #[n_,n_,n_,n_,n_,n_,n_,n_,n_,n_,n_,n_,n_,n_,n_,n_,n_,n_,n_,n_,n_,n_,n_,n_] (by kernel_rfl) rfl rfl ⟨(blk_cell BK283.out 0).trans rfl,(blk_cell BK283.out 1).trans rfl,(blk_cell BK283.out 2).trans rfl⟩ (fun hHeld => ?_);refine with_tabW tachographlaw03_CursorPlays.tab35 tachographlaw03_CursorPlays.bits35 (fun HT_ HW_ => ?_)
                   generalize wc.drew = w149 at BK283 BK288 HI282 HB hHeld ⊢
                   refine pure_ (i:=0) (N:=some 141) (v:=?_) (a':=?_) #[y_,n_,n_,n_,n_,n_,n_,n_,n_,n_,n_,n_,n_,n_,n_,n_,n_,n_,n_,n_,n_,n_,n_,n_] rfl rfl (any_of HT_.out (by kernel_rfl)) (fun _ _ _ h => h) (Or.inl ⟨by rfl,?_⟩) ?_ ?_
                   rotate_left
                   ·intro w'
                    go_simp
                    with_reducible rfl
                   rotate_left
                   ·simp only [Act.put,sA_,sB_,sC_,i64_w,i32_w]
                    rfl
                   refine pure_ (i:=1) (N:=some 142) (v:=?_) (a':=?_) #[y_,y_,n_,n_,n_,n_,n_,n_,n_,n_,n_,n_,n_,n_,n_,n_,n_,n_,n_,n_,n_,n_,n_,n_] rfl rfl (any_of HT_.out (by kernel_rfl)) (fun _ _ _ h => h) (Or.inl ⟨by rfl,?_⟩) ?_ ?_
                   rotate_left
                   ·intro w'
                    go_simp
                    with_reducible rfl
                   rotate_left
                   ·simp only [Act.put,sA_,sB_,sC_,i64_w,i32_w]
                    rfl
                   refine pure_ (i:=2) (N:=some 143) (v:=?_) (a':=?_) #[y_,y_,y_,n_,n_,n_,n_,n_,n_,n_,n_,n_,n_,n_,n_,n_,n_,n_,n_,n_,n_,n_,n_,n_] rfl rfl (any_of HT_.out (by kernel_rfl)) (fun _ _ _ h => h) (Or.inl ⟨by rfl,?_⟩) ?_ ?_
                   rotate_left
                   ·intro w'
                    go_simp
                    with_reducible rfl
                   rotate_left
                   ·simp only [Act.put,sA_,sB_,sC_,i64_w,i32_w]
                    rfl
                   refine pure_ (i:=3) (N:=some 144) (v:=?_) (a':=?_) #[y_,y_,y_,y_,n_,n_,n_,n_,n_,n_,n_,n_,n_,n_,n_,n_,n_,n_,n_,n_,n_,n_,n_,n_] rfl rfl (any_of HT_.out (by kernel_rfl)) (fun _ _ _ h => h) (Or.inl ⟨by rfl,?_⟩) ?_ ?_
                   rotate_left
                   ·intro w'
                    go_simp
                    with_reducible rfl
                   rotate_left
                   ·simp only [Act.put,sA_,sB_,sC_,i64_w,i32_w]
                    rfl
                   refine pure_ (i:=5) (N:=some 146) (v:=?_) (a':=?_) #[y_,y_,y_,y_,n_,y_,n_,n_,n_,n_,n_,n_,n_,n_,n_,n_,n_,n_,n_,n_,n_,n_,n_,n_] rfl rfl (any_of HT_.out (by kernel_rfl)) (fun _ _ _ h => h) (Or.inl ⟨by rfl,?_⟩) ?_ ?_
                   rotate_left
                   ·intro w'
                    go_simp
                    with_reducible rfl
                   rotate_left
                   ·simp only [Act.put,sA_,sB_,sC_,i64_w,i32_w]
                    rfl
                   refine take_ (i:=6) (N:=some 147) (v:=?_) (a':=?_) #[y_,y_,y_,y_,n_,y_,y_,n_,n_,n_,n_,n_,n_,n_,n_,n_,n_,n_,n_,n_,n_,n_,n_,n_] rfl rfl (take_ofW HT_.out HW_.out (by kernel_rfl)) (fun _ _ _ h => h) (Or.inl ⟨by rfl,?_⟩) hHeld ?_ ?_
                   rotate_left
                   ·rintro w' ⟨s0,s1,s2⟩
                    go_simp
                    with_reducible rfl
                   rotate_left
                   ·simp only [Act.put,sA_,sB_,sC_,i64_w,i32_w]
                    rfl
                   refine one_ (i:=4) (N:=some 145) #[y_,y_,y_,y_,y_,y_,y_,n_,n_,n_,n_,n_,n_,n_,n_,n_,n_,n_,n_,n_,n_,n_,n_,n_] rfl rfl (one_of HT_.out (by kernel_rfl)) (by decide) (fun K hK => ?_)
                   refine goes_ Try.func47 (by kernel_rfl) rfl #[.pointer (some ⟨g282,0,none⟩)] (by rfl) rfl rfl (by (try simp only [List.map_toArray,List.map_cons,List.map_nil]);first | done | rfl | (simp only [List.length_drop,List.length_take];rfl)) ?_
                   with_reducible refine (cursor_Cursor_At.calls g282 x283000_30 x283001_30 x283002_30 t340 t341 t342 t343 w _ ?side1 ?side2 A143.out).mono ?_
                   (case side1 => repeat (first | (with_reducible first | exact HI282.out | apply IsS102.alloc | apply IsS102.drewN | apply IsS102.drew | apply IsS102.set_0 | apply IsS102.set_1 | apply IsS102.set_2 | refine IsS102.far ?_ NB282_283.out _ | refine IsS102.far ?_ NB282_288.out _) | exact HI282.out))
                   (case side2 => repeat (first | (with_reducible first | exact HB.out | apply below_alloc | apply pw_below_drewN | apply below_drew1 | refine below_set ?_ (IsS102.ge HI282.out) | refine below_set ?_ GE283.out | refine below_set ?_ GE288.out) | exact HB.out))
                   rintro e w150 ⟨rfl,hi,hb,hk⟩
                   refine ⟨_,rfl,?_⟩
                   have n0_:=Aside0.mk (KeepBut.blk hk (g':=gb283) (o:=.cells #[.string x284000_30,.int .i64 x284001_30,.int .i64 x284002_30] 59 (0,0)) (by (with_reducible repeat (first | refine blk_drewN ?_ _ | refine blk_drew ?_ | refine blk_alloc ?_ _));exact BK283.out) NB283_282.out (by simp))
                   have n1_:=Aside0.mk (KeepBut.blk hk (g':=gb288) (o:=.cells #[.int .i64 ((rd_T61 l1 x55_3).f0),.int .i64 ((rd_T61 l1 x55_3).f1)] 61 (0,0)) (by (with_reducible repeat (first | refine blk_drewN ?_ _ | refine blk_drew ?_ | refine blk_alloc ?_ _));exact BK288.out) NB288_282.out (by simp))
                   have n2_:=Aside0.mk (hb)
                   have n3_:=Aside0.mk (hi)
                   clear BK283
                   clear BK288
                   clear HB
                   clear HI282
                   have BK283:=n0_
                   have BK288:=n1_
                   have HB:=n2_
                   have HI282:=n3_
                   clear n0_ n1_ n2_ n3_
                   (try clear hb)
                   (try clear hb2)
                   (try clear hk)
                   (try clear hi)
                   refine hK.out _ _ ⟨(blk_cell BK283.out 0).trans rfl,(blk_cell BK283.out 1).trans rfl,(blk_cell BK283.out 2).trans rfl⟩ (fun hHeld => ?_)
                   clear hK K
                   refine norm_ (a':=?_) ?_ ?_
                   rotate_left
                   ·show Act.put _ (some 145) _ = _
                    simp only [Act.put,sA_,sB_,sC_,i64_w,i32_w]
                    rfl
                   refine pure_ (i:=7) (N:=some 148) (v:=?_) (a':=?_) #[y_,y_,y_,y_,y_,y_,y_,y_,n_,n_,n_,n_,n_,n_,n_,n_,n_,n_,n_,n_,n_,n_,n_,n_] rfl rfl (any_of HT_.out (by kernel_rfl)) (fun _ _ _ h => h) (Or.inl ⟨by rfl,?_⟩) ?_ ?_
                   rotate_left
                   ·intro w'
                    go_simp
                    with_reducible rfl
                   rotate_left
                   ·simp only [Act.put,sA_,sB_,sC_,i64_w,i32_w]
                    rfl
                   refine pure_ (i:=8) (N:=some 149) (v:=?_) (a':=?_) #[y_,y_,y_,y_,y_,y_,y_,y_,y_,n_,n_,n_,n_,n_,n_,n_,n_,n_,n_,n_,n_,n_,n_,n_] rfl rfl (any_of HT_.out (by kernel_rfl)) (fun _ _ _ h => h) (Or.inl ⟨by rfl,?_⟩) ?_ ?_
                   rotate_left
                   ·intro w'
                    go_simp
                    with_reducible rfl
                   rotate_left
                   ·simp only [Act.put,sA_,sB_,sC_,i64_w,i32_w]
                    rfl
                   refine pure_ (i:=9) (N:=some 150) (v:=?_) (a':=?_) #[y_,y_,y_,y_,y_,y_,y_,y_,y_,y_,n_,n_,n_,n_,n_,n_,n_,n_,n_,n_,n_,n_,n_,n_] rfl rfl (any_of HT_.out (by kernel_rfl)) (fun _ _ _ h => h) (Or.inl ⟨by rfl,?_⟩) ?_ ?_
                   rotate_left
                   ·intro w'
                    go_simp
                    with_reducible rfl
                   rotate_left
                   ·simp only [Act.put,sA_,sB_,sC_,i64_w,i32_w]
                    rfl
                   refine pure_ (i:=10) (N:=some 151) (v:=?_) (a':=?_) #[y_,y_,y_,y_,y_,y_,y_,y_,y_,y_,y_,n_,n_,n_,n_,n_,n_,n_,n_,n_,n_,n_,n_,n_] rfl rfl (any_of HT_.out (by kernel_rfl)) (fun _ _ _ h => h) (Or.inl ⟨by rfl,?_⟩) ?_ ?_
                   rotate_left
                   ·intro w'
                    go_simp
                    with_reducible rfl
                   rotate_left
                   ·simp only [Act.put,sA_,sB_,sC_,i64_w,i32_w]
                    rfl
                   refine pure_ (i:=12) (N:=some 153) (v:=?_) (a':=?_) #[y_,y_,y_,y_,y_,y_,y_,y_,y_,y_,y_,n_,y_,n_,n_,n_,n_,n_,n_,n_,n_,n_,n_,n_] rfl rfl (any_of HT_.out (by kernel_rfl)) (fun _ _ _ h => h) (Or.inl ⟨by rfl,?_⟩) ?_ ?_
                   rotate_left
                   ·intro w'
                    go_simp
                    with_reducible rfl
                   rotate_left
                   ·simp only [Act.put,sA_,sB_,sC_,i64_w,i32_w]
                    rfl
                   refine take_ (i:=13) (N:=some 154) (v:=?_) (a':=?_) #[y_,y_,y_,y_,y_,y_,y_,y_,y_,y_,y_,n_,y_,y_,n_,n_,n_,n_,n_,n_,n_,n_,n_,n_] rfl rfl (take_ofW HT_.out HW_.out (by kernel_rfl)) (fun _ _ _ h => h) (Or.inl ⟨by rfl,?_⟩) hHeld ?_ ?_
                   rotate_left
                   ·rintro w' ⟨s0,s1,s2⟩
                    go_simp
                    with_reducible rfl
                   rotate_left
                   ·simp only [Act.put,sA_,sB_,sC_,i64_w,i32_w]
                    rfl
                   refine pure_ (i:=14) (N:=some 155) (v:=?_) (a':=?_) #[y_,y_,y_,y_,y_,y_,y_,y_,y_,y_,y_,n_,y_,y_,y_,n_,n_,n_,n_,n_,n_,n_,n_,n_] rfl rfl (any_of HT_.out (by kernel_rfl)) (fun _ _ _ h => h) (Or.inl ⟨by rfl,?_⟩) ?_ ?_
                   rotate_left
                   ·intro w'
                    go_simp
                    with_reducible rfl
                   rotate_left
                   ·simp only [Act.put,sA_,sB_,sC_,i64_w,i32_w]
                    rfl
                   refine one_ (i:=11) (N:=some 152) #[y_,y_,y_,y_,y_,y_,y_,y_,y_,y_,y_,y_,y_,y_,y_,n_,n_,n_,n_,n_,n_,n_,n_,n_] rfl rfl (one_of HT_.out (by kernel_rfl)) (by decide) (fun K hK => ?_)
                   refine goes_ Try.func48 (by kernel_rfl) rfl #[.pointer (some ⟨g282,0,none⟩)] (by rfl) rfl rfl (by (try simp only [List.map_toArray,List.map_cons,List.map_nil]);first | done | rfl | (simp only [List.length_drop,List.length_take];rfl)) ?_
                   with_reducible refine (cursor_Cursor_Left.calls g282 t341 t342 t343 t344 t345 t346 t347 w _ ?side1 ?side2 A145.out).mono ?_
                   (case side1 => repeat (first | (with_reducible first | exact HI282.out | apply IsS102.alloc | apply IsS102.drewN | apply IsS102.drew | apply IsS102.set_0 | apply IsS102.set_1 | apply IsS102.set_2 | refine IsS102.far ?_ NB282_283.out _ | refine IsS102.far ?_ NB282_288.out _) | exact HI282.out))
                   (case side2 => repeat (first | (with_reducible first | exact HB.out | apply below_alloc | apply pw_below_drewN | apply below_drew1 | refine below_set ?_ (IsS102.ge HI282.out) | refine below_set ?_ GE283.out | refine below_set ?_ GE288.out) | exact HB.out))
                   rintro e w151 ⟨rfl,hi,hb,hk⟩
                   refine ⟨_,rfl,?_⟩
                   have n0_:=Aside0.mk (KeepBut.blk hk (g':=gb283) (o:=.cells #[.string x284000_30,.int .i64 x284001_30,.int .i64 x284002_30] 59 (0,0)) (by (with_reducible repeat (first | refine blk_drewN ?_ _ | refine blk_drew ?_ | refine blk_alloc ?_ _));exact BK283.out) NB283_282.out (by simp))
                   have n1_:=Aside0.mk (KeepBut.blk hk (g':=gb288) (o:=.cells #[.int .i64 ((rd_T61 l1 x55_3).f0),.int .i64 ((rd_T61 l1 x55_3).f1)] 61 (0,0)) (by (with_reducible repeat (first | refine blk_drewN ?_ _ | refine blk_drew ?_ | refine blk_alloc ?_ _));exact BK288.out) NB288_282.out (by simp))
                   have n2_:=Aside0.mk (hb)
                   have n3_:=Aside0.mk (hi)
                   clear BK283
                   clear BK288
                   clear HB
                   clear HI282
                   have BK283:=n0_
                   have BK288:=n1_
                   have HB:=n2_
                   have HI282:=n3_
                   clear n0_ n1_ n2_ n3_
                   (try clear hb)
                   (try clear hb2)
                   (try clear hk)
                   (try clear hi)
                   refine hK.out _ _ ⟨(blk_cell BK283.out 0).trans rfl,(blk_cell BK283.out 1).trans rfl,(blk_cell BK283.out 2).trans rfl⟩ (fun hHeld => ?_)
                   clear hK K
                   refine norm_ (a':=?_) ?_ ?_
                   rotate_left
                   ·show Act.put _ (some 152) _ = _
                    simp only [Act.put,sA_,sB_,sC_,i64_w,i32_w]
                    rfl
                   refine pure_ (i:=15) (N:=some 156) (v:=?_) (a':=?_) #[y_,y_,y_,y_,y_,y_,y_,y_,y_,y_,y_,y_,y_,y_,y_,y_,n_,n_,n_,n_,n_,n_,n_,n_] rfl rfl (any_of HT_.out (by kernel_rfl)) (fun _ _ _ h => h) (Or.inl ⟨by rfl,?_⟩) ?_ ?_
                   rotate_left
                   ·intro w'
                    go_simp
                    with_reducible rfl
                   rotate_left
                   ·simp only [Act.put,sA_,sB_,sC_,i64_w,i32_w]
                    rfl
                   refine pure_ (i:=16) (N:=some 157) (v:=?_) (a':=?_) #[y_,y_,y_,y_,y_,y_,y_,y_,y_,y_,y_,y_,y_,y_,y_,y_,y_,n_,n_,n_,n_,n_,n_,n_] rfl rfl (any_of HT_.out (by kernel_rfl)) (fun _ _ _ h => h) (Or.inl ⟨by rfl,?_⟩) ?_ ?_
                   rotate_left
                   ·intro w'
                    go_simp
                    with_reducible rfl
                   rotate_left
                   ·simp only [Act.put,sA_,sB_,sC_,i64_w,i32_w]
                    rfl
                   refine pure_ (i:=17) (N:=some 158) (v:=?_) (a':=?_) #[y_,y_,y_,y_,y_,y_,y_,y_,y_,y_,y_,y_,y_,y_,y_,y_,y_,y_,n_,n_,n_,n_,n_,n_] rfl rfl (any_of HT_.out (by kernel_rfl)) (fun _ _ _ h => h) (Or.inl ⟨by rfl,?_⟩) ?_ ?_
                   rotate_left
                   ·intro w'
                    go_simp
                    with_reducible rfl
                   rotate_left
                   ·simp only [Act.put,sA_,sB_,sC_,i64_w,i32_w]
                    rfl
                   refine pure_ (i:=18) (N:=some 159) (v:=?_) (a':=?_) #[y_,y_,y_,y_,y_,y_,y_,y_,y_,y_,y_,y_,y_,y_,y_,y_,y_,y_,y_,n_,n_,n_,n_,n_] rfl rfl (any_of HT_.out (by kernel_rfl)) (fun _ _ _ h => h) (Or.inl ⟨by rfl,?_⟩) ?_ ?_
                   rotate_left
                   ·intro w'
                    go_simp
                    with_reducible rfl
                   rotate_left
                   ·simp only [Act.put,sA_,sB_,sC_,i64_w,i32_w]
                    rfl
                   refine pure_ (i:=20) (N:=some 161) (v:=?_) (a':=?_) #[y_,y_,y_,y_,y_,y_,y_,y_,y_,y_,y_,y_,y_,y_,y_,y_,y_,y_,y_,n_,y_,n_,n_,n_] rfl rfl (any_of HT_.out (by kernel_rfl)) (fun _ _ _ h => h) (Or.inl ⟨by rfl,?_⟩) ?_ ?_
                   rotate_left
                   ·intro w'
                    go_simp
                    with_reducible rfl
                   rotate_left
                   ·simp only [Act.put,sA_,sB_,sC_,i64_w,i32_w]
                    rfl
                   refine take_ (i:=21) (N:=some 162) (v:=?_) (a':=?_) #[y_,y_,y_,y_,y_,y_,y_,y_,y_,y_,y_,y_,y_,y_,y_,y_,y_,y_,y_,n_,y_,y_,n_,n_] rfl rfl (take_ofW HT_.out HW_.out (by kernel_rfl)) (fun _ _ _ h => h) (Or.inl ⟨by rfl,?_⟩) hHeld ?_ ?_
                   rotate_left
                   ·rintro w' ⟨s0,s1,s2⟩
                    go_simp
                    with_reducible rfl
                   rotate_left
                   ·simp only [Act.put,sA_,sB_,sC_,i64_w,i32_w]
                    rfl
                   refine one_ (i:=19) (N:=some 160) #[y_,y_,y_,y_,y_,y_,y_,y_,y_,y_,y_,y_,y_,y_,y_,y_,y_,y_,y_,y_,y_,y_,n_,n_] rfl rfl (one_of HT_.out (by kernel_rfl)) (by decide) (fun K hK => ?_)
                   refine goes_ Try.func49 (by kernel_rfl) rfl #[.pointer (some ⟨g282,0,none⟩)] (by rfl) rfl rfl (by (try simp only [List.map_toArray,List.map_cons,List.map_nil]);first | done | rfl | (simp only [List.length_drop,List.length_take];rfl)) ?_
                   with_reducible refine (cursor_Cursor_Err.calls g282 t345 t346 t347 t348 t349 t350 t351 w _ ?side1 ?side2 A147.out).mono ?_
                   (case side1 => repeat (first | (with_reducible first | exact HI282.out | apply IsS102.alloc | apply IsS102.drewN | apply IsS102.drew | apply IsS102.set_0 | apply IsS102.set_1 | apply IsS102.set_2 | refine IsS102.far ?_ NB282_283.out _ | refine IsS102.far ?_ NB282_288.out _) | exact HI282.out))
                   (case side2 => repeat (first | (with_reducible first | exact HB.out | apply below_alloc | apply pw_below_drewN | apply below_drew1 | refine below_set ?_ (IsS102.ge HI282.out) | refine below_set ?_ GE283.out | refine below_set ?_ GE288.out) | exact HB.out))
                   rintro e w152 ⟨rfl,hi,hb,hk⟩
                   refine ⟨_,rfl,?_⟩
                   have n0_:=Aside0.mk (KeepBut.blk hk (g':=gb283) (o:=.cells #[.string x284000_30,.int .i64 x284001_30,.int .i64 x284002_30] 59 (0,0)) (by (with_reducible repeat (first | refine blk_drewN ?_ _ | refine blk_drew ?_ | refine blk_alloc ?_ _));exact BK283.out) NB283_282.out (by simp))
                   have n1_:=Aside0.mk (KeepBut.blk hk (g':=gb288) (o:=.cells #[.int .i64 ((rd_T61 l1 x55_3).f0),.int .i64 ((rd_T61 l1 x55_3).f1)] 61 (0,0)) (by (with_reducible repeat (first | refine blk_drewN ?_ _ | refine blk_drew ?_ | refine blk_alloc ?_ _));exact BK288.out) NB288_282.out (by simp))
                   have n2_:=Aside0.mk (hb)
                   have n3_:=Aside0.mk (hi)
                   clear BK283
                   clear BK288
                   clear HB
                   clear HI282
                   have BK283:=n0_
                   have BK288:=n1_
                   have HB:=n2_
                   have HI282:=n3_
                   clear n0_ n1_ n2_ n3_
                   (try clear hb)
                   (try clear hb2)
                   (try clear hk)
                   (try clear hi)
                   refine hK.out _ _ ⟨(blk_cell BK283.out 0).trans rfl,(blk_cell BK283.out 1).trans rfl,(blk_cell BK283.out 2).trans rfl⟩ (fun hHeld => ?_)
                   clear hK K
                   refine norm_ (a':=?_) ?_ ?_
                   rotate_left
                   ·show Act.put _ (some 160) _ = _
                    simp only [Act.put,sA_,sB_,sC_,i64_w,i32_w]
                    rfl
                   refine pure_ (i:=22) (N:=some 163) (v:=?_) (a':=?_) #[y_,y_,y_,y_,y_,y_,y_,y_,y_,y_,y_,y_,y_,y_,y_,y_,y_,y_,y_,y_,y_,y_,y_,n_] rfl rfl (any_of HT_.out (by kernel_rfl)) (fun _ _ _ h => h) (Or.inl ⟨by rfl,?_⟩) ?_ ?_
                   rotate_left
                   ·intro w'
                    go_simp
                    with_reducible rfl
                   rotate_left
                   ·simp only [Act.put,sA_,sB_,sC_,i64_w,i32_w]
                    rfl
                   refine pure_ (i:=23) (N:=some 164) (v:=?_) (a':=?_) #[y_,y_,y_,y_,y_,y_,y_,y_,y_,y_,y_,y_,y_,y_,y_,y_,y_,y_,y_,y_,y_,y_,y_,y_] rfl rfl (any_of HT_.out (by kernel_rfl)) (fun _ _ _ h => h) (Or.inl ⟨by rfl,?_⟩) ?_ ?_
                   rotate_left
                   ·intro w'
                    go_simp
                    with_reducible rfl
                   rotate_left
                   ·simp only [Act.put,sA_,sB_,sC_,i64_w,i32_w]
                    rfl
                   refine done_ (done_of HT_.out (by kernel_rfl)) ?_
                   try go_wp2
                   go_roundg kj30
                   case measure => have:=HJ2.out;have:=HK2.out;have:=HK3.out;have:=HJ30.out;omega
                   case rel => exact ⟨(wrap64 (x55_3 + 1)),(t349),(t350),(t351),(x284000_30),(x284001_30),(x284002_30),(by first | rfl | (simp;done) | (simp [*];done)),H',⟨by have:=HJ2.out;have:=HK2.out;have:=HK3.out;have:=HJ30.out;omega⟩,⟨by (try simp only [hl5_2]);(with_reducible repeat (first | refine blk_drewN ?_ _ | refine blk_drew ?_ | refine blk_alloc ?_ _));exact BK283.out⟩,⟨by repeat (first | (with_reducible first | exact HI282.out | apply IsS102.alloc | apply IsS102.drewN | apply IsS102.drew | apply IsS102.set_0 | apply IsS102.set_1 | apply IsS102.set_2 | refine IsS102.far ?_ NB282_283.out _ | refine IsS102.far ?_ NB282_288.out _) | exact HI282.out)⟩,⟨by repeat (first | (with_reducible first | exact HB.out | apply below_alloc | apply pw_below_drewN | apply below_drew1 | refine below_set ?_ (IsS102.ge HI282.out) | refine below_set ?_ GE283.out | refine below_set ?_ GE288.out) | exact HB.out)⟩⟩
                  ·rw [if_neg c148] at H
                   have c148b0 : (t348 == x284002_30) = false:=beq_eq_false_iff_ne.mpr c148
                   have c148b1 : (t348 != x284002_30) = true:=bne_iff_ne.mpr c148
                   obtain rfl:=Option.some.inj H
                   try go_wp2
                   have n0_:=Aside0.mk (blk_drew BK283.out)
                   have n1_:=Aside0.mk (blk_drew BK288.out)
                   have n2_:=Aside0.mk (IsS102.drew HI282.out)
                   have n3_:=Aside0.mk (below_drew1 HB.out)
                   clear BK283
                   clear BK288
                   clear HI282
                   clear HB
                   have BK283:=n0_
                   have BK288:=n1_
                   have HI282:=n2_
                   have HB:=n3_
                   clear n0_ n1_ n2_ n3_
                   refine start_ (n:=24) (S:=fun w' => w'.cell? ⟨gb283,0,none⟩ = some (.string x284000_30) ∧ w'.cell? ⟨gb283,1,none⟩ = some (.int .i64 x284001_30) ∧ w'.cell? ⟨gb283,2,none⟩ = some (.int .i64 x284002_30)) (ds:=[]) #[n_,n_,n_,n_,n_,n_,n_,n_,n_,n_,n_,n_,n_,n_,n_,n_,n_,n_,n_,n_,n_,n_,n_,n_] (by kernel_rfl) rfl rfl ⟨(blk_cell BK283.out 0).trans rfl,(blk_cell BK283.out 1).trans rfl,(blk_cell BK283.out 2).trans rfl⟩ (fun hHeld => ?_);refine with_tabW tachographlaw03_CursorPlays.tab35 tachographlaw03_CursorPlays.bits35 (fun HT_ HW_ => ?_)
                   generalize wc.drew = w153 at BK283 BK288 HI282 HB hHeld ⊢
                   refine pure_ (i:=0) (N:=some 141) (v:=?_) (a':=?_) #[y_,n_,n_,n_,n_,n_,n_,n_,n_,n_,n_,n_,n_,n_,n_,n_,n_,n_,n_,n_,n_,n_,n_,n_] rfl rfl (any_of HT_.out (by kernel_rfl)) (fun _ _ _ h => h) (Or.inl ⟨by rfl,?_⟩) ?_ ?_
                   rotate_left
                   ·intro w'
                    go_simp
                    with_reducible rfl
                   rotate_left
                   ·simp only [Act.put,sA_,sB_,sC_,i64_w,i32_w]
                    rfl
                   refine pure_ (i:=1) (N:=some 142) (v:=?_) (a':=?_) #[y_,y_,n_,n_,n_,n_,n_,n_,n_,n_,n_,n_,n_,n_,n_,n_,n_,n_,n_,n_,n_,n_,n_,n_] rfl rfl (any_of HT_.out (by kernel_rfl)) (fun _ _ _ h => h) (Or.inl ⟨by rfl,?_⟩) ?_ ?_
                   rotate_left
                   ·intro w'
                    go_simp
                    with_reducible rfl
                   rotate_left
                   ·simp only [Act.put,sA_,sB_,sC_,i64_w,i32_w]
                    rfl
                   refine pure_ (i:=2) (N:=some 143) (v:=?_) (a':=?_) #[y_,y_,y_,n_,n_,n_,n_,n_,n_,n_,n_,n_,n_,n_,n_,n_,n_,n_,n_,n_,n_,n_,n_,n_] rfl rfl (any_of HT_.out (by kernel_rfl)) (fun _ _ _ h => h) (Or.inl ⟨by rfl,?_⟩) ?_ ?_
                   rotate_left
                   ·intro w'
                    go_simp
                    with_reducible rfl
                   rotate_left
                   ·simp only [Act.put,sA_,sB_,sC_,i64_w,i32_w]
                    rfl
                   refine pure_ (i:=3) (N:=some 144) (v:=?_) (a':=?_) #[y_,y_,y_,y_,n_,n_,n_,n_,n_,n_,n_,n_,n_,n_,n_,n_,n_,n_,n_,n_,n_,n_,n_,n_] rfl rfl (any_of HT_.out (by kernel_rfl)) (fun _ _ _ h => h) (Or.inl ⟨by rfl,?_⟩) ?_ ?_
                   rotate_left
                   ·intro w'
                    go_simp
                    with_reducible rfl
                   rotate_left
                   ·simp only [Act.put,sA_,sB_,sC_,i64_w,i32_w]
                    rfl
                   refine pure_ (i:=5) (N:=some 146) (v:=?_) (a':=?_) #[y_,y_,y_,y_,n_,y_,n_,n_,n_,n_,n_,n_,n_,n_,n_,n_,n_,n_,n_,n_,n_,n_,n_,n_] rfl rfl (any_of HT_.out (by kernel_rfl)) (fun _ _ _ h => h) (Or.inl ⟨by rfl,?_⟩) ?_ ?_
                   rotate_left
                   ·intro w'
                    go_simp
                    with_reducible rfl
                   rotate_left
                   ·simp only [Act.put,sA_,sB_,sC_,i64_w,i32_w]
                    rfl
                   refine take_ (i:=6) (N:=some 147) (v:=?_) (a':=?_) #[y_,y_,y_,y_,n_,y_,y_,n_,n_,n_,n_,n_,n_,n_,n_,n_,n_,n_,n_,n_,n_,n_,n_,n_] rfl rfl (take_ofW HT_.out HW_.out (by kernel_rfl)) (fun _ _ _ h => h) (Or.inl ⟨by rfl,?_⟩) hHeld ?_ ?_
                   rotate_left
                   ·rintro w' ⟨s0,s1,s2⟩
                    go_simp
                    with_reducible rfl
                   rotate_left
                   ·simp only [Act.put,sA_,sB_,sC_,i64_w,i32_w]
                    rfl
                   refine one_ (i:=4) (N:=some 145) #[y_,y_,y_,y_,y_,y_,y_,n_,n_,n_,n_,n_,n_,n_,n_,n_,n_,n_,n_,n_,n_,n_,n_,n_] rfl rfl (one_of HT_.out (by kernel_rfl)) (by decide) (fun K hK => ?_)
                   refine goes_ Try.func47 (by kernel_rfl) rfl #[.pointer (some ⟨g282,0,none⟩)] (by rfl) rfl rfl (by (try simp only [List.map_toArray,List.map_cons,List.map_nil]);first | done | rfl | (simp only [List.length_drop,List.length_take];rfl)) ?_
                   with_reducible refine (cursor_Cursor_At.calls g282 x283000_30 x283001_30 x283002_30 t340 t341 t342 t343 w _ ?side1 ?side2 A143.out).mono ?_
                   (case side1 => repeat (first | (with_reducible first | exact HI282.out | apply IsS102.alloc | apply IsS102.drewN | apply IsS102.drew | apply IsS102.set_0 | apply IsS102.set_1 | apply IsS102.set_2 | refine IsS102.far ?_ NB282_283.out _ | refine IsS102.far ?_ NB282_288.out _) | exact HI282.out))
                   (case side2 => repeat (first | (with_reducible first | exact HB.out | apply below_alloc | apply pw_below_drewN | apply below_drew1 | refine below_set ?_ (IsS102.ge HI282.out) | refine below_set ?_ GE283.out | refine below_set ?_ GE288.out) | exact HB.out))
                   rintro e w154 ⟨rfl,hi,hb,hk⟩
                   refine ⟨_,rfl,?_⟩
                   have n0_:=Aside0.mk (KeepBut.blk hk (g':=gb283) (o:=.cells #[.string x284000_30,.int .i64 x284001_30,.int .i64 x284002_30] 59 (0,0)) (by (with_reducible repeat (first | refine blk_drewN ?_ _ | refine blk_drew ?_ | refine blk_alloc ?_ _));exact BK283.out) NB283_282.out (by simp))
                   have n1_:=Aside0.mk (KeepBut.blk hk (g':=gb288) (o:=.cells #[.int .i64 ((rd_T61 l1 x55_3).f0),.int .i64 ((rd_T61 l1 x55_3).f1)] 61 (0,0)) (by (with_reducible repeat (first | refine blk_drewN ?_ _ | refine blk_drew ?_ | refine blk_alloc ?_ _));exact BK288.out) NB288_282.out (by simp))
                   have n2_:=Aside0.mk (hb)
                   have n3_:=Aside0.mk (hi)
                   clear BK283
                   clear BK288
                   clear HB
                   clear HI282
                   have BK283:=n0_
                   have BK288:=n1_
                   have HB:=n2_
                   have HI282:=n3_
                   clear n0_ n1_ n2_ n3_
                   (try clear hb)
                   (try clear hb2)
                   (try clear hk)
                   (try clear hi)
                   refine hK.out _ _ ⟨(blk_cell BK283.out 0).trans rfl,(blk_cell BK283.out 1).trans rfl,(blk_cell BK283.out 2).trans rfl⟩ (fun hHeld => ?_)
                   clear hK K
                   refine norm_ (a':=?_) ?_ ?_
                   rotate_left
                   ·show Act.put _ (some 145) _ = _
                    simp only [Act.put,sA_,sB_,sC_,i64_w,i32_w]
                    rfl
                   refine pure_ (i:=7) (N:=some 148) (v:=?_) (a':=?_) #[y_,y_,y_,y_,y_,y_,y_,y_,n_,n_,n_,n_,n_,n_,n_,n_,n_,n_,n_,n_,n_,n_,n_,n_] rfl rfl (any_of HT_.out (by kernel_rfl)) (fun _ _ _ h => h) (Or.inl ⟨by rfl,?_⟩) ?_ ?_
                   rotate_left
                   ·intro w'
                    go_simp
                    with_reducible rfl
                   rotate_left
                   ·simp only [Act.put,sA_,sB_,sC_,i64_w,i32_w]
                    rfl
                   refine pure_ (i:=8) (N:=some 149) (v:=?_) (a':=?_) #[y_,y_,y_,y_,y_,y_,y_,y_,y_,n_,n_,n_,n_,n_,n_,n_,n_,n_,n_,n_,n_,n_,n_,n_] rfl rfl (any_of HT_.out (by kernel_rfl)) (fun _ _ _ h => h) (Or.inl ⟨by rfl,?_⟩) ?_ ?_
                   rotate_left
                   ·intro w'
                    go_simp
                    with_reducible rfl
                   rotate_left
                   ·simp only [Act.put,sA_,sB_,sC_,i64_w,i32_w]
                    rfl
                   refine pure_ (i:=9) (N:=some 150) (v:=?_) (a':=?_) #[y_,y_,y_,y_,y_,y_,y_,y_,y_,y_,n_,n_,n_,n_,n_,n_,n_,n_,n_,n_,n_,n_,n_,n_] rfl rfl (any_of HT_.out (by kernel_rfl)) (fun _ _ _ h => h) (Or.inl ⟨by rfl,?_⟩) ?_ ?_
                   rotate_left
                   ·intro w'
                    go_simp
                    with_reducible rfl
                   rotate_left
                   ·simp only [Act.put,sA_,sB_,sC_,i64_w,i32_w]
                    rfl
                   refine pure_ (i:=10) (N:=some 151) (v:=?_) (a':=?_) #[y_,y_,y_,y_,y_,y_,y_,y_,y_,y_,y_,n_,n_,n_,n_,n_,n_,n_,n_,n_,n_,n_,n_,n_] rfl rfl (any_of HT_.out (by kernel_rfl)) (fun _ _ _ h => h) (Or.inl ⟨by rfl,?_⟩) ?_ ?_
                   rotate_left
                   ·intro w'
                    go_simp
                    with_reducible rfl
                   rotate_left
                   ·simp only [Act.put,sA_,sB_,sC_,i64_w,i32_w]
                    rfl
                   refine pure_ (i:=12) (N:=some 153) (v:=?_) (a':=?_) #[y_,y_,y_,y_,y_,y_,y_,y_,y_,y_,y_,n_,y_,n_,n_,n_,n_,n_,n_,n_,n_,n_,n_,n_] rfl rfl (any_of HT_.out (by kernel_rfl)) (fun _ _ _ h => h) (Or.inl ⟨by rfl,?_⟩) ?_ ?_
                   rotate_left
                   ·intro w'
                    go_simp
                    with_reducible rfl
                   rotate_left
                   ·simp only [Act.put,sA_,sB_,sC_,i64_w,i32_w]
                    rfl
                   refine take_ (i:=13) (N:=some 154) (v:=?_) (a':=?_) #[y_,y_,y_,y_,y_,y_,y_,y_,y_,y_,y_,n_,y_,y_,n_,n_,n_,n_,n_,n_,n_,n_,n_,n_] rfl rfl (take_ofW HT_.out HW_.out (by kernel_rfl)) (fun _ _ _ h => h) (Or.inl ⟨by rfl,?_⟩) hHeld ?_ ?_
                   rotate_left
                   ·rintro w' ⟨s0,s1,s2⟩
                    go_simp
                    with_reducible rfl
                   rotate_left
                   ·simp only [Act.put,sA_,sB_,sC_,i64_w,i32_w]
                    rfl
                   refine pure_ (i:=14) (N:=some 155) (v:=?_) (a':=?_) #[y_,y_,y_,y_,y_,y_,y_,y_,y_,y_,y_,n_,y_,y_,y_,n_,n_,n_,n_,n_,n_,n_,n_,n_] rfl rfl (any_of HT_.out (by kernel_rfl)) (fun _ _ _ h => h) (Or.inl ⟨by rfl,?_⟩) ?_ ?_
                   rotate_left
                   ·intro w'
                    go_simp
                    with_reducible rfl
                   rotate_left
                   ·simp only [Act.put,sA_,sB_,sC_,i64_w,i32_w]
                    rfl
                   refine one_ (i:=11) (N:=some 152) #[y_,y_,y_,y_,y_,y_,y_,y_,y_,y_,y_,y_,y_,y_,y_,n_,n_,n_,n_,n_,n_,n_,n_,n_] rfl rfl (one_of HT_.out (by kernel_rfl)) (by decide) (fun K hK => ?_)
                   refine goes_ Try.func48 (by kernel_rfl) rfl #[.pointer (some ⟨g282,0,none⟩)] (by rfl) rfl rfl (by (try simp only [List.map_toArray,List.map_cons,List.map_nil]);first | done | rfl | (simp only [List.length_drop,List.length_take];rfl)) ?_
                   with_reducible refine (cursor_Cursor_Left.calls g282 t341 t342 t343 t344 t345 t346 t347 w _ ?side1 ?side2 A145.out).mono ?_
                   (case side1 => repeat (first | (with_reducible first | exact HI282.out | apply IsS102.alloc | apply IsS102.drewN | apply IsS102.drew | apply IsS102.set_0 | apply IsS102.set_1 | apply IsS102.set_2 | refine IsS102.far ?_ NB282_283.out _ | refine IsS102.far ?_ NB282_288.out _) | exact HI282.out))
                   (case side2 => repeat (first | (with_reducible first | exact HB.out | apply below_alloc | apply pw_below_drewN | apply below_drew1 | refine below_set ?_ (IsS102.ge HI282.out) | refine below_set ?_ GE283.out | refine below_set ?_ GE288.out) | exact HB.out))
                   rintro e w155 ⟨rfl,hi,hb,hk⟩
                   refine ⟨_,rfl,?_⟩
                   have n0_:=Aside0.mk (KeepBut.blk hk (g':=gb283) (o:=.cells #[.string x284000_30,.int .i64 x284001_30,.int .i64 x284002_30] 59 (0,0)) (by (with_reducible repeat (first | refine blk_drewN ?_ _ | refine blk_drew ?_ | refine blk_alloc ?_ _));exact BK283.out) NB283_282.out (by simp))
                   have n1_:=Aside0.mk (KeepBut.blk hk (g':=gb288) (o:=.cells #[.int .i64 ((rd_T61 l1 x55_3).f0),.int .i64 ((rd_T61 l1 x55_3).f1)] 61 (0,0)) (by (with_reducible repeat (first | refine blk_drewN ?_ _ | refine blk_drew ?_ | refine blk_alloc ?_ _));exact BK288.out) NB288_282.out (by simp))
                   have n2_:=Aside0.mk (hb)
                   have n3_:=Aside0.mk (hi)
                   clear BK283
                   clear BK288
                   clear HB
                   clear HI282
                   have BK283:=n0_
                   have BK288:=n1_
                   have HB:=n2_
                   have HI282:=n3_
                   clear n0_ n1_ n2_ n3_
                   (try clear hb)
                   (try clear hb2)
                   (try clear hk)
                   (try clear hi)
                   refine hK.out _ _ ⟨(blk_cell BK283.out 0).trans rfl,(blk_cell BK283.out 1).trans rfl,(blk_cell BK283.out 2).trans rfl⟩ (fun hHeld => ?_)
                   clear hK K
                   refine norm_ (a':=?_) ?_ ?_
                   rotate_left
                   ·show Act.put _ (some 152) _ = _
                    simp only [Act.put,sA_,sB_,sC_,i64_w,i32_w]
                    rfl
                   refine pure_ (i:=15) (N:=some 156) (v:=?_) (a':=?_) #[y_,y_,y_,y_,y_,y_,y_,y_,y_,y_,y_,y_,y_,y_,y_,y_,n_,n_,n_,n_,n_,n_,n_,n_] rfl rfl (any_of HT_.out (by kernel_rfl)) (fun _ _ _ h => h) (Or.inl ⟨by rfl,?_⟩) ?_ ?_
                   rotate_left
                   ·intro w'
                    go_simp
                    with_reducible rfl
                   rotate_left
                   ·simp only [Act.put,sA_,sB_,sC_,i64_w,i32_w]
                    rfl
                   refine pure_ (i:=16) (N:=some 157) (v:=?_) (a':=?_) #[y_,y_,y_,y_,y_,y_,y_,y_,y_,y_,y_,y_,y_,y_,y_,y_,y_,n_,n_,n_,n_,n_,n_,n_] rfl rfl (any_of HT_.out (by kernel_rfl)) (fun _ _ _ h => h) (Or.inl ⟨by rfl,?_⟩) ?_ ?_
                   rotate_left
                   ·intro w'
                    go_simp
                    with_reducible rfl
                   rotate_left
                   ·simp only [Act.put,sA_,sB_,sC_,i64_w,i32_w]
                    rfl
                   refine pure_ (i:=17) (N:=some 158) (v:=?_) (a':=?_) #[y_,y_,y_,y_,y_,y_,y_,y_,y_,y_,y_,y_,y_,y_,y_,y_,y_,y_,n_,n_,n_,n_,n_,n_] rfl rfl (any_of HT_.out (by kernel_rfl)) (fun _ _ _ h => h) (Or.inl ⟨by rfl,?_⟩) ?_ ?_
                   rotate_left
                   ·intro w'
                    go_simp
                    with_reducible rfl
                   rotate_left
                   ·simp only [Act.put,sA_,sB_,sC_,i64_w,i32_w]
                    rfl
                   refine pure_ (i:=18) (N:=some 159) (v:=?_) (a':=?_) #[y_,y_,y_,y_,y_,y_,y_,y_,y_,y_,y_,y_,y_,y_,y_,y_,y_,y_,y_,n_,n_,n_,n_,n_] rfl rfl (any_of HT_.out (by kernel_rfl)) (fun _ _ _ h => h) (Or.inl ⟨by rfl,?_⟩) ?_ ?_
                   rotate_left
                   ·intro w'
                    go_simp
                    with_reducible rfl
                   rotate_left
                   ·simp only [Act.put,sA_,sB_,sC_,i64_w,i32_w]
                    rfl
                   refine pure_ (i:=20) (N:=some 161) (v:=?_) (a':=?_) #[y_,y_,y_,y_,y_,y_,y_,y_,y_,y_,y_,y_,y_,y_,y_,y_,y_,y_,y_,n_,y_,n_,n_,n_] rfl rfl (any_of HT_.out (by kernel_rfl)) (fun _ _ _ h => h) (Or.inl ⟨by rfl,?_⟩) ?_ ?_
                   rotate_left
                   ·intro w'
                    go_simp
                    with_reducible rfl
                   rotate_left
                   ·simp only [Act.put,sA_,sB_,sC_,i64_w,i32_w]
                    rfl
                   refine take_ (i:=21) (N:=some 162) (v:=?_) (a':=?_) #[y_,y_,y_,y_,y_,y_,y_,y_,y_,y_,y_,y_,y_,y_,y_,y_,y_,y_,y_,n_,y_,y_,n_,n_] rfl rfl (take_ofW HT_.out HW_.out (by kernel_rfl)) (fun _ _ _ h => h) (Or.inl ⟨by rfl,?_⟩) hHeld ?_ ?_
                   rotate_left
                   ·rintro w' ⟨s0,s1,s2⟩
                    go_simp
                    with_reducible rfl
                   rotate_left
                   ·simp only [Act.put,sA_,sB_,sC_,i64_w,i32_w]
                    rfl
                   refine one_ (i:=19) (N:=some 160) #[y_,y_,y_,y_,y_,y_,y_,y_,y_,y_,y_,y_,y_,y_,y_,y_,y_,y_,y_,y_,y_,y_,n_,n_] rfl rfl (one_of HT_.out (by kernel_rfl)) (by decide) (fun K hK => ?_)
                   refine goes_ Try.func49 (by kernel_rfl) rfl #[.pointer (some ⟨g282,0,none⟩)] (by rfl) rfl rfl (by (try simp only [List.map_toArray,List.map_cons,List.map_nil]);first | done | rfl | (simp only [List.length_drop,List.length_take];rfl)) ?_
                   with_reducible refine (cursor_Cursor_Err.calls g282 t345 t346 t347 t348 t349 t350 t351 w _ ?side1 ?side2 A147.out).mono ?_
                   (case side1 => repeat (first | (with_reducible first | exact HI282.out | apply IsS102.alloc | apply IsS102.drewN | apply IsS102.drew | apply IsS102.set_0 | apply IsS102.set_1 | apply IsS102.set_2 | refine IsS102.far ?_ NB282_283.out _ | refine IsS102.far ?_ NB282_288.out _) | exact HI282.out))
                   (case side2 => repeat (first | (with_reducible first | exact HB.out | apply below_alloc | apply pw_below_drewN | apply below_drew1 | refine below_set ?_ (IsS102.ge HI282.out) | refine below_set ?_ GE283.out | refine below_set ?_ GE288.out) | exact HB.out))
                   rintro e w156 ⟨rfl,hi,hb,hk⟩
                   refine ⟨_,rfl,?_⟩
                   have n0_:=Aside0.mk (KeepBut.blk hk (g':=gb283) (o:=.cells #[.string x284000_30,.int .i64 x284001_30,.int .i64 x284002_30] 59 (0,0)) (by (with_reducible repeat (first | refine blk_drewN ?_ _ | refine blk_drew ?_ | refine blk_alloc ?_ _));exact BK283.out) NB283_282.out (by simp))
                   have n1_:=Aside0.mk (KeepBut.blk hk (g':=gb288) (o:=.cells #[.int .i64 ((rd_T61 l1 x55_3).f0),.int .i64 ((rd_T61 l1 x55_3).f1)] 61 (0,0)) (by (with_reducible repeat (first | refine blk_drewN ?_ _ | refine blk_drew ?_ | refine blk_alloc ?_ _));exact BK288.out) NB288_282.out (by simp))
                   have n2_:=Aside0.mk (hb)
                   have n3_:=Aside0.mk (hi)
                   clear BK283
                   clear BK288
                   clear HB
                   clear HI282
                   have BK283:=n0_
                   have BK288:=n1_
                   have HB:=n2_
                   have HI282:=n3_
                   clear n0_ n1_ n2_ n3_
                   (try clear hb)
                   (try clear hb2)
                   (try clear hk)
                   (try clear hi)
                   refine hK.out _ _ ⟨(blk_cell BK283.out 0).trans rfl,(blk_cell BK283.out 1).trans rfl,(blk_cell BK283.out 2).trans rfl⟩ (fun hHeld => ?_)
                   clear hK K
                   refine norm_ (a':=?_) ?_ ?_
                   rotate_left
                   ·show Act.put _ (some 160) _ = _
                    simp only [Act.put,sA_,sB_,sC_,i64_w,i32_w]
                    rfl
                   refine pure_ (i:=22) (N:=some 163) (v:=?_) (a':=?_) #[y_,y_,y_,y_,y_,y_,y_,y_,y_,y_,y_,y_,y_,y_,y_,y_,y_,y_,y_,y_,y_,y_,y_,n_] rfl rfl (any_of HT_.out (by kernel_rfl)) (fun _ _ _ h => h) (Or.inl ⟨by rfl,?_⟩) ?_ ?_
                   rotate_left
                   ·intro w'
                    go_simp
                    with_reducible rfl
                   rotate_left
                   ·simp only [Act.put,sA_,sB_,sC_,i64_w,i32_w]
                    rfl
                   refine pure_ (i:=23) (N:=some 164) (v:=?_) (a':=?_) #[y_,y_,y_,y_,y_,y_,y_,y_,y_,y_,y_,y_,y_,y_,y_,y_,y_,y_,y_,y_,y_,y_,y_,y_] rfl rfl (any_of HT_.out (by kernel_rfl)) (fun _ _ _ h => h) (Or.inl ⟨by rfl,?_⟩) ?_ ?_
                   rotate_left
                   ·intro w'
                    go_simp
                    with_reducible rfl
                   rotate_left
                   ·simp only [Act.put,sA_,sB_,sC_,i64_w,i32_w]
                    rfl
                   refine done_ (done_of HT_.out (by kernel_rfl)) ?_
                   try go_wp2
                   go_ret
                   exact ⟨by first | rfl | (simp [errW_none,errW_some] <;> rfl) | (simp [*,errW_none,errW_some] <;> rfl),by repeat (first | (with_reducible first | exact HB.out | apply below_alloc | apply pw_below_drewN | apply below_drew1 | refine below_set ?_ (IsS102.ge HI282.out) | refine below_set ?_ GE283.out | refine below_set ?_ GE288.out) | exact HB.out)⟩
                 ·rw [if_neg c146] at H
                  have c146b0 : (t344 == (x284000_30.size : Int)) = false:=beq_eq_false_iff_ne.mpr c146
                  have c146b1 : (t344 != (x284000_30.size : Int)) = true:=bne_iff_ne.mpr c146
                  obtain rfl:=Option.some.inj H
                  try go_wp2
                  have n0_:=Aside0.mk (blk_drew BK283.out)
                  have n1_:=Aside0.mk (blk_drew BK288.out)
                  have n2_:=Aside0.mk (IsS102.drew HI282.out)
                  have n3_:=Aside0.mk (below_drew1 HB.out)
                  clear BK283
                  clear BK288
                  clear HI282
                  clear HB
                  have BK283:=n0_
                  have BK288:=n1_
                  have HI282:=n2_
                  have HB:=n3_
                  clear n0_ n1_ n2_ n3_
                  refine start_ (n:=24) (S:=fun w' => w'.cell? ⟨gb283,0,none⟩ = some (.string x284000_30) ∧ w'.cell? ⟨gb283,1,none⟩ = some (.int .i64 x284001_30) ∧ w'.cell? ⟨gb283,2,none⟩ = some (.int .i64 x284002_30)) (ds:=[]) #[n_,n_,n_,n_,n_,n_,n_,n_,n_,n_,n_,n_,n_,n_,n_,n_,n_,n_,n_,n_,n_,n_,n_,n_] (by kernel_rfl) rfl rfl ⟨(blk_cell BK283.out 0).trans rfl,(blk_cell BK283.out 1).trans rfl,(blk_cell BK283.out 2).trans rfl⟩ (fun hHeld => ?_);refine with_tabW tachographlaw03_CursorPlays.tab35 tachographlaw03_CursorPlays.bits35 (fun HT_ HW_ => ?_)
                  generalize wc.drew = w157 at BK283 BK288 HI282 HB hHeld ⊢
                  refine pure_ (i:=0) (N:=some 141) (v:=?_) (a':=?_) #[y_,n_,n_,n_,n_,n_,n_,n_,n_,n_,n_,n_,n_,n_,n_,n_,n_,n_,n_,n_,n_,n_,n_,n_] rfl rfl (any_of HT_.out (by kernel_rfl)) (fun _ _ _ h => h) (Or.inl ⟨by rfl,?_⟩) ?_ ?_
                  rotate_left
                  ·intro w'
                   go_simp
                   with_reducible rfl
                  rotate_left
                  ·simp only [Act.put,sA_,sB_,sC_,i64_w,i32_w]
                   rfl
                  refine pure_ (i:=1) (N:=some 142) (v:=?_) (a':=?_) #[y_,y_,n_,n_,n_,n_,n_,n_,n_,n_,n_,n_,n_,n_,n_,n_,n_,n_,n_,n_,n_,n_,n_,n_] rfl rfl (any_of HT_.out (by kernel_rfl)) (fun _ _ _ h => h) (Or.inl ⟨by rfl,?_⟩) ?_ ?_
                  rotate_left
                  ·intro w'
                   go_simp
                   with_reducible rfl
                  rotate_left
                  ·simp only [Act.put,sA_,sB_,sC_,i64_w,i32_w]
                   rfl
                  refine pure_ (i:=2) (N:=some 143) (v:=?_) (a':=?_) #[y_,y_,y_,n_,n_,n_,n_,n_,n_,n_,n_,n_,n_,n_,n_,n_,n_,n_,n_,n_,n_,n_,n_,n_] rfl rfl (any_of HT_.out (by kernel_rfl)) (fun _ _ _ h => h) (Or.inl ⟨by rfl,?_⟩) ?_ ?_
                  rotate_left
                  ·intro w'
                   go_simp
                   with_reducible rfl
                  rotate_left
                  ·simp only [Act.put,sA_,sB_,sC_,i64_w,i32_w]
                   rfl
                  refine pure_ (i:=3) (N:=some 144) (v:=?_) (a':=?_) #[y_,y_,y_,y_,n_,n_,n_,n_,n_,n_,n_,n_,n_,n_,n_,n_,n_,n_,n_,n_,n_,n_,n_,n_] rfl rfl (any_of HT_.out (by kernel_rfl)) (fun _ _ _ h => h) (Or.inl ⟨by rfl,?_⟩) ?_ ?_
                  rotate_left
                  ·intro w'
                   go_simp
                   with_reducible rfl
                  rotate_left
                  ·simp only [Act.put,sA_,sB_,sC_,i64_w,i32_w]
                   rfl
                  refine pure_ (i:=5) (N:=some 146) (v:=?_) (a':=?_) #[y_,y_,y_,y_,n_,y_,n_,n_,n_,n_,n_,n_,n_,n_,n_,n_,n_,n_,n_,n_,n_,n_,n_,n_] rfl rfl (any_of HT_.out (by kernel_rfl)) (fun _ _ _ h => h) (Or.inl ⟨by rfl,?_⟩) ?_ ?_
                  rotate_left
                  ·intro w'
                   go_simp
                   with_reducible rfl
                  rotate_left
                  ·simp only [Act.put,sA_,sB_,sC_,i64_w,i32_w]
                   rfl
                  refine take_ (i:=6) (N:=some 147) (v:=?_) (a':=?_) #[y_,y_,y_,y_,n_,y_,y_,n_,n_,n_,n_,n_,n_,n_,n_,n_,n_,n_,n_,n_,n_,n_,n_,n_] rfl rfl (take_ofW HT_.out HW_.out (by kernel_rfl)) (fun _ _ _ h => h) (Or.inl ⟨by rfl,?_⟩) hHeld ?_ ?_
                  rotate_left
                  ·rintro w' ⟨s0,s1,s2⟩
                   go_simp
                   with_reducible rfl
                  rotate_left
                  ·simp only [Act.put,sA_,sB_,sC_,i64_w,i32_w]
                   rfl
                  refine one_ (i:=4) (N:=some 145) #[y_,y_,y_,y_,y_,y_,y_,n_,n_,n_,n_,n_,n_,n_,n_,n_,n_,n_,n_,n_,n_,n_,n_,n_] rfl rfl (one_of HT_.out (by kernel_rfl)) (by decide) (fun K hK => ?_)
                  refine goes_ Try.func47 (by kernel_rfl) rfl #[.pointer (some ⟨g282,0,none⟩)] (by rfl) rfl rfl (by (try simp only [List.map_toArray,List.map_cons,List.map_nil]);first | done | rfl | (simp only [List.length_drop,List.length_take];rfl)) ?_
                  with_reducible refine (cursor_Cursor_At.calls g282 x283000_30 x283001_30 x283002_30 t340 t341 t342 t343 w _ ?side1 ?side2 A143.out).mono ?_
                  (case side1 => repeat (first | (with_reducible first | exact HI282.out | apply IsS102.alloc | apply IsS102.drewN | apply IsS102.drew | apply IsS102.set_0 | apply IsS102.set_1 | apply IsS102.set_2 | refine IsS102.far ?_ NB282_283.out _ | refine IsS102.far ?_ NB282_288.out _) | exact HI282.out))
                  (case side2 => repeat (first | (with_reducible first | exact HB.out | apply below_alloc | apply pw_below_drewN | apply below_drew1 | refine below_set ?_ (IsS102.ge HI282.out) | refine below_set ?_ GE283.out | refine below_set ?_ GE288.out) | exact HB.out))
                  rintro e w158 ⟨rfl,hi,hb,hk⟩
                  refine ⟨_,rfl,?_⟩
                  have n0_:=Aside0.mk (KeepBut.blk hk (g':=gb283) (o:=.cells #[.string x284000_30,.int .i64 x284001_30,.int .i64 x284002_30] 59 (0,0)) (by (with_reducible repeat (first | refine blk_drewN ?_ _ | refine blk_drew ?_ | refine blk_alloc ?_ _));exact BK283.out) NB283_282.out (by simp))
                  have n1_:=Aside0.mk (KeepBut.blk hk (g':=gb288) (o:=.cells #[.int .i64 ((rd_T61 l1 x55_3).f0),.int .i64 ((rd_T61 l1 x55_3).f1)] 61 (0,0)) (by (with_reducible repeat (first | refine blk_drewN ?_ _ | refine blk_drew ?_ | refine blk_alloc ?_ _));exact BK288.out) NB288_282.out (by simp))
                  have n2_:=Aside0.mk (hb)
                  have n3_:=Aside0.mk (hi)
                  clear BK283
                  clear BK288
                  clear HB
                  clear HI282
                  have BK283:=n0_
                  have BK288:=n1_
                  have HB:=n2_
                  have HI282:=n3_
                  clear n0_ n1_ n2_ n3_
                  (try clear hb)
                  (try clear hb2)
                  (try clear hk)
                  (try clear hi)
                  refine hK.out _ _ ⟨(blk_cell BK283.out 0).trans rfl,(blk_cell BK283.out 1).trans rfl,(blk_cell BK283.out 2).trans rfl⟩ (fun hHeld => ?_)
                  clear hK K
                  refine norm_ (a':=?_) ?_ ?_
                  rotate_left
                  ·show Act.put _ (some 145) _ = _
                   simp only [Act.put,sA_,sB_,sC_,i64_w,i32_w]
                   rfl
                  refine pure_ (i:=7) (N:=some 148) (v:=?_) (a':=?_) #[y_,y_,y_,y_,y_,y_,y_,y_,n_,n_,n_,n_,n_,n_,n_,n_,n_,n_,n_,n_,n_,n_,n_,n_] rfl rfl (any_of HT_.out (by kernel_rfl)) (fun _ _ _ h => h) (Or.inl ⟨by rfl,?_⟩) ?_ ?_
                  rotate_left
                  ·intro w'
                   go_simp
                   with_reducible rfl
                  rotate_left
                  ·simp only [Act.put,sA_,sB_,sC_,i64_w,i32_w]
                   rfl
                  refine pure_ (i:=8) (N:=some 149) (v:=?_) (a':=?_) #[y_,y_,y_,y_,y_,y_,y_,y_,y_,n_,n_,n_,n_,n_,n_,n_,n_,n_,n_,n_,n_,n_,n_,n_] rfl rfl (any_of HT_.out (by kernel_rfl)) (fun _ _ _ h => h) (Or.inl ⟨by rfl,?_⟩) ?_ ?_
                  rotate_left
                  ·intro w'
                   go_simp
                   with_reducible rfl
                  rotate_left
                  ·simp only [Act.put,sA_,sB_,sC_,i64_w,i32_w]
                   rfl
                  refine pure_ (i:=9) (N:=some 150) (v:=?_) (a':=?_) #[y_,y_,y_,y_,y_,y_,y_,y_,y_,y_,n_,n_,n_,n_,n_,n_,n_,n_,n_,n_,n_,n_,n_,n_] rfl rfl (any_of HT_.out (by kernel_rfl)) (fun _ _ _ h => h) (Or.inl ⟨by rfl,?_⟩) ?_ ?_
                  rotate_left
                  ·intro w'
                   go_simp
                   with_reducible rfl
                  rotate_left
                  ·simp only [Act.put,sA_,sB_,sC_,i64_w,i32_w]
                   rfl
                  refine pure_ (i:=10) (N:=some 151) (v:=?_) (a':=?_) #[y_,y_,y_,y_,y_,y_,y_,y_,y_,y_,y_,n_,n_,n_,n_,n_,n_,n_,n_,n_,n_,n_,n_,n_] rfl rfl (any_of HT_.out (by kernel_rfl)) (fun _ _ _ h => h) (Or.inl ⟨by rfl,?_⟩) ?_ ?_
                  rotate_left
                  ·intro w'
                   go_simp
                   with_reducible rfl
                  rotate_left
                  ·simp only [Act.put,sA_,sB_,sC_,i64_w,i32_w]
                   rfl
                  refine pure_ (i:=12) (N:=some 153) (v:=?_) (a':=?_) #[y_,y_,y_,y_,y_,y_,y_,y_,y_,y_,y_,n_,y_,n_,n_,n_,n_,n_,n_,n_,n_,n_,n_,n_] rfl rfl (any_of HT_.out (by kernel_rfl)) (fun _ _ _ h => h) (Or.inl ⟨by rfl,?_⟩) ?_ ?_
                  rotate_left
                  ·intro w'
                   go_simp
                   with_reducible rfl
                  rotate_left
                  ·simp only [Act.put,sA_,sB_,sC_,i64_w,i32_w]
                   rfl
                  refine take_ (i:=13) (N:=some 154) (v:=?_) (a':=?_) #[y_,y_,y_,y_,y_,y_,y_,y_,y_,y_,y_,n_,y_,y_,n_,n_,n_,n_,n_,n_,n_,n_,n_,n_] rfl rfl (take_ofW HT_.out HW_.out (by kernel_rfl)) (fun _ _ _ h => h) (Or.inl ⟨by rfl,?_⟩) hHeld ?_ ?_
                  rotate_left
                  ·rintro w' ⟨s0,s1,s2⟩
                   go_simp
                   with_reducible rfl
                  rotate_left
                  ·simp only [Act.put,sA_,sB_,sC_,i64_w,i32_w]
                   rfl
                  refine pure_ (i:=14) (N:=some 155) (v:=?_) (a':=?_) #[y_,y_,y_,y_,y_,y_,y_,y_,y_,y_,y_,n_,y_,y_,y_,n_,n_,n_,n_,n_,n_,n_,n_,n_] rfl rfl (any_of HT_.out (by kernel_rfl)) (fun _ _ _ h => h) (Or.inl ⟨by rfl,?_⟩) ?_ ?_
                  rotate_left
                  ·intro w'
                   go_simp
                   with_reducible rfl
                  rotate_left
                  ·simp only [Act.put,sA_,sB_,sC_,i64_w,i32_w]
                   rfl
                  refine one_ (i:=11) (N:=some 152) #[y_,y_,y_,y_,y_,y_,y_,y_,y_,y_,y_,y_,y_,y_,y_,n_,n_,n_,n_,n_,n_,n_,n_,n_] rfl rfl (one_of HT_.out (by kernel_rfl)) (by decide) (fun K hK => ?_)
                  refine goes_ Try.func48 (by kernel_rfl) rfl #[.pointer (some ⟨g282,0,none⟩)] (by rfl) rfl rfl (by (try simp only [List.map_toArray,List.map_cons,List.map_nil]);first | done | rfl | (simp only [List.length_drop,List.length_take];rfl)) ?_
                  with_reducible refine (cursor_Cursor_Left.calls g282 t341 t342 t343 t344 t345 t346 t347 w _ ?side1 ?side2 A145.out).mono ?_
                  (case side1 => repeat (first | (with_reducible first | exact HI282.out | apply IsS102.alloc | apply IsS102.drewN | apply IsS102.drew | apply IsS102.set_0 | apply IsS102.set_1 | apply IsS102.set_2 | refine IsS102.far ?_ NB282_283.out _ | refine IsS102.far ?_ NB282_288.out _) | exact HI282.out))
                  (case side2 => repeat (first | (with_reducible first | exact HB.out | apply below_alloc | apply pw_below_drewN | apply below_drew1 | refine below_set ?_ (IsS102.ge HI282.out) | refine below_set ?_ GE283.out | refine below_set ?_ GE288.out) | exact HB.out))
                  rintro e w159 ⟨rfl,hi,hb,hk⟩
                  refine ⟨_,rfl,?_⟩
                  have n0_:=Aside0.mk (KeepBut.blk hk (g':=gb283) (o:=.cells #[.string x284000_30,.int .i64 x284001_30,.int .i64 x284002_30] 59 (0,0)) (by (with_reducible repeat (first | refine blk_drewN ?_ _ | refine blk_drew ?_ | refine blk_alloc ?_ _));exact BK283.out) NB283_282.out (by simp))
                  have n1_:=Aside0.mk (KeepBut.blk hk (g':=gb288) (o:=.cells #[.int .i64 ((rd_T61 l1 x55_3).f0),.int .i64 ((rd_T61 l1 x55_3).f1)] 61 (0,0)) (by (with_reducible repeat (first | refine blk_drewN ?_ _ | refine blk_drew ?_ | refine blk_alloc ?_ _));exact BK288.out) NB288_282.out (by simp))
                  have n2_:=Aside0.mk (hb)
                  have n3_:=Aside0.mk (hi)
                  clear BK283
                  clear BK288
                  clear HB
                  clear HI282
                  have BK283:=n0_
                  have BK288:=n1_
                  have HB:=n2_
                  have HI282:=n3_
                  clear n0_ n1_ n2_ n3_
                  (try clear hb)
                  (try clear hb2)
                  (try clear hk)
                  (try clear hi)
                  refine hK.out _ _ ⟨(blk_cell BK283.out 0).trans rfl,(blk_cell BK283.out 1).trans rfl,(blk_cell BK283.out 2).trans rfl⟩ (fun hHeld => ?_)
                  clear hK K
                  refine norm_ (a':=?_) ?_ ?_
                  rotate_left
                  ·show Act.put _ (some 152) _ = _
                   simp only [Act.put,sA_,sB_,sC_,i64_w,i32_w]
                   rfl
                  refine pure_ (i:=15) (N:=some 156) (v:=?_) (a':=?_) #[y_,y_,y_,y_,y_,y_,y_,y_,y_,y_,y_,y_,y_,y_,y_,y_,n_,n_,n_,n_,n_,n_,n_,n_] rfl rfl (any_of HT_.out (by kernel_rfl)) (fun _ _ _ h => h) (Or.inl ⟨by rfl,?_⟩) ?_ ?_
                  rotate_left
                  ·intro w'
                   go_simp
                   with_reducible rfl
                  rotate_left
                  ·simp only [Act.put,sA_,sB_,sC_,i64_w,i32_w]
                   rfl
                  refine pure_ (i:=16) (N:=some 157) (v:=?_) (a':=?_) #[y_,y_,y_,y_,y_,y_,y_,y_,y_,y_,y_,y_,y_,y_,y_,y_,y_,n_,n_,n_,n_,n_,n_,n_] rfl rfl (any_of HT_.out (by kernel_rfl)) (fun _ _ _ h => h) (Or.inl ⟨by rfl,?_⟩) ?_ ?_
                  rotate_left
                  ·intro w'
                   go_simp
                   with_reducible rfl
                  rotate_left
                  ·simp only [Act.put,sA_,sB_,sC_,i64_w,i32_w]
                   rfl
                  refine pure_ (i:=17) (N:=some 158) (v:=?_) (a':=?_) #[y_,y_,y_,y_,y_,y_,y_,y_,y_,y_,y_,y_,y_,y_,y_,y_,y_,y_,n_,n_,n_,n_,n_,n_] rfl rfl (any_of HT_.out (by kernel_rfl)) (fun _ _ _ h => h) (Or.inl ⟨by rfl,?_⟩) ?_ ?_
                  rotate_left
                  ·intro w'
                   go_simp
                   with_reducible rfl
                  rotate_left
                  ·simp only [Act.put,sA_,sB_,sC_,i64_w,i32_w]
                   rfl
                  refine pure_ (i:=18) (N:=some 159) (v:=undef) (a':=?_) #[y_,y_,y_,y_,y_,y_,y_,y_,y_,y_,y_,y_,y_,y_,y_,y_,y_,y_,y_,n_,n_,n_,n_,n_] rfl rfl (any_of HT_.out (by kernel_rfl)) (fun _ _ _ h => h) (Or.inr ⟨by rfl,rfl⟩) ?_ ?_
                  rotate_left
                  ·simp only [Act.put,sA_,sB_,sC_,i64_w,i32_w]
                   rfl
                  refine pure_ (i:=19) (N:=some 160) (v:=undef) (a':=?_) #[y_,y_,y_,y_,y_,y_,y_,y_,y_,y_,y_,y_,y_,y_,y_,y_,y_,y_,y_,y_,n_,n_,n_,n_] rfl rfl (any_of HT_.out (by kernel_rfl)) (fun _ _ _ h => h) (Or.inr ⟨by rfl,rfl⟩) ?_ ?_
                  rotate_left
                  ·simp only [Act.put,sA_,sB_,sC_,i64_w,i32_w]
                   rfl
                  refine pure_ (i:=20) (N:=some 161) (v:=undef) (a':=?_) #[y_,y_,y_,y_,y_,y_,y_,y_,y_,y_,y_,y_,y_,y_,y_,y_,y_,y_,y_,y_,y_,n_,n_,n_] rfl rfl (any_of HT_.out (by kernel_rfl)) (fun _ _ _ h => h) (Or.inr ⟨by rfl,rfl⟩) ?_ ?_
                  rotate_left
                  ·simp only [Act.put,sA_,sB_,sC_,i64_w,i32_w]
                   rfl
                  refine pure_ (i:=21) (N:=some 162) (v:=undef) (a':=?_) #[y_,y_,y_,y_,y_,y_,y_,y_,y_,y_,y_,y_,y_,y_,y_,y_,y_,y_,y_,y_,y_,y_,n_,n_] rfl rfl (any_of HT_.out (by kernel_rfl)) (fun _ _ _ h => h) (Or.inr ⟨by rfl,rfl⟩) ?_ ?_
                  rotate_left
                  ·simp only [Act.put,sA_,sB_,sC_,i64_w,i32_w]
                   rfl
                  refine pure_ (i:=22) (N:=some 163) (v:=undef) (a':=?_) #[y_,y_,y_,y_,y_,y_,y_,y_,y_,y_,y_,y_,y_,y_,y_,y_,y_,y_,y_,y_,y_,y_,y_,n_] rfl rfl (any_of HT_.out (by kernel_rfl)) (fun _ _ _ h => h) (Or.inr ⟨by rfl,rfl⟩) ?_ ?_
                  rotate_left
                  ·simp only [Act.put,sA_,sB_,sC_,i64_w,i32_w]
                   rfl
                  refine pure_ (i:=23) (N:=some 164) (v:=?_) (a':=?_) #[y_,y_,y_,y_,y_,y_,y_,y_,y_,y_,y_,y_,y_,y_,y_,y_,y_,y_,y_,y_,y_,y_,y_,y_] rfl rfl (any_of HT_.out (by kernel_rfl)) (fun _ _ _ h => h) (Or.inl ⟨by rfl,?_⟩) ?_ ?_
                  rotate_left
                  ·intro w'
                   go_simp
                   with_reducible rfl
                  rotate_left
                  ·simp only [Act.put,sA_,sB_,sC_,i64_w,i32_w]
                   rfl
                  refine done_ (done_of HT_.out (by kernel_rfl)) ?_
                  try go_wp2
                  go_ret
                  exact ⟨by first | rfl | (simp [errW_none,errW_some] <;> rfl) | (simp [*,errW_none,errW_some] <;> rfl),by repeat (first | (with_reducible first | exact HB.out | apply below_alloc | apply pw_below_drewN | apply below_drew1 | refine below_set ?_ (IsS102.ge HI282.out) | refine below_set ?_ GE283.out | refine below_set ?_ GE288.out) | exact HB.out)⟩
                ·rw [if_neg c144] at H
                 have c144b0 : (t340 == x284001_30) = false:=beq_eq_false_iff_ne.mpr c144
                 have c144b1 : (t340 != x284001_30) = true:=bne_iff_ne.mpr c144
                 obtain rfl:=Option.some.inj H
                 try go_wp2
                 have n0_:=Aside0.mk (blk_drew BK283.out)
                 have n1_:=Aside0.mk (blk_drew BK288.out)
                 have n2_:=Aside0.mk (IsS102.drew HI282.out)
                 have n3_:=Aside0.mk (below_drew1 HB.out)
                 clear BK283
                 clear BK288
                 clear HI282
                 clear HB
                 have BK283:=n0_
                 have BK288:=n1_
                 have HI282:=n2_
                 have HB:=n3_
                 clear n0_ n1_ n2_ n3_
                 refine start_ (n:=24) (S:=fun w' => w'.cell? ⟨gb283,0,none⟩ = some (.string x284000_30) ∧ w'.cell? ⟨gb283,1,none⟩ = some (.int .i64 x284001_30) ∧ w'.cell? ⟨gb283,2,none⟩ = some (.int .i64 x284002_30)) (ds:=[]) #[n_,n_,n_,n_,n_,n_,n_,n_,n_,n_,n_,n_,n_,n_,n_,n_,n_,n_,n_,n_,n_,n_,n_,n_] (by kernel_rfl) rfl rfl ⟨(blk_cell BK283.out 0).trans rfl,(blk_cell BK283.out 1).trans rfl,(blk_cell BK283.out 2).trans rfl⟩ (fun hHeld => ?_);refine with_tabW tachographlaw03_CursorPlays.tab35 tachographlaw03_CursorPlays.bits35 (fun HT_ HW_ => ?_)
                 generalize wc.drew = w160 at BK283 BK288 HI282 HB hHeld ⊢
                 refine pure_ (i:=0) (N:=some 141) (v:=?_) (a':=?_) #[y_,n_,n_,n_,n_,n_,n_,n_,n_,n_,n_,n_,n_,n_,n_,n_,n_,n_,n_,n_,n_,n_,n_,n_] rfl rfl (any_of HT_.out (by kernel_rfl)) (fun _ _ _ h => h) (Or.inl ⟨by rfl,?_⟩) ?_ ?_
                 rotate_left
                 ·intro w'
                  go_simp
                  with_reducible rfl
                 rotate_left
                 ·simp only [Act.put,sA_,sB_,sC_,i64_w,i32_w]
                  rfl
                 refine pure_ (i:=1) (N:=some 142) (v:=?_) (a':=?_) #[y_,y_,n_,n_,n_,n_,n_,n_,n_,n_,n_,n_,n_,n_,n_,n_,n_,n_,n_,n_,n_,n_,n_,n_] rfl rfl (any_of HT_.out (by kernel_rfl)) (fun _ _ _ h => h) (Or.inl ⟨by rfl,?_⟩) ?_ ?_
                 rotate_left
                 ·intro w'
                  go_simp
                  with_reducible rfl
                 rotate_left
                 ·simp only [Act.put,sA_,sB_,sC_,i64_w,i32_w]
                  rfl
                 refine pure_ (i:=2) (N:=some 143) (v:=?_) (a':=?_) #[y_,y_,y_,n_,n_,n_,n_,n_,n_,n_,n_,n_,n_,n_,n_,n_,n_,n_,n_,n_,n_,n_,n_,n_] rfl rfl (any_of HT_.out (by kernel_rfl)) (fun _ _ _ h => h) (Or.inl ⟨by rfl,?_⟩) ?_ ?_
                 rotate_left
                 ·intro w'
                  go_simp
                  with_reducible rfl
                 rotate_left
                 ·simp only [Act.put,sA_,sB_,sC_,i64_w,i32_w]
                  rfl
                 refine pure_ (i:=3) (N:=some 144) (v:=?_) (a':=?_) #[y_,y_,y_,y_,n_,n_,n_,n_,n_,n_,n_,n_,n_,n_,n_,n_,n_,n_,n_,n_,n_,n_,n_,n_] rfl rfl (any_of HT_.out (by kernel_rfl)) (fun _ _ _ h => h) (Or.inl ⟨by rfl,?_⟩) ?_ ?_
                 rotate_left
                 ·intro w'
                  go_simp
                  with_reducible rfl
                 rotate_left
                 ·simp only [Act.put,sA_,sB_,sC_,i64_w,i32_w]
                  rfl
                 refine pure_ (i:=5) (N:=some 146) (v:=?_) (a':=?_) #[y_,y_,y_,y_,n_,y_,n_,n_,n_,n_,n_,n_,n_,n_,n_,n_,n_,n_,n_,n_,n_,n_,n_,n_] rfl rfl (any_of HT_.out (by kernel_rfl)) (fun _ _ _ h => h) (Or.inl ⟨by rfl,?_⟩) ?_ ?_
                 rotate_left
                 ·intro w'
                  go_simp
                  with_reducible rfl
                 rotate_left
                 ·simp only [Act.put,sA_,sB_,sC_,i64_w,i32_w]
                  rfl
                 refine take_ (i:=6) (N:=some 147) (v:=?_) (a':=?_) #[y_,y_,y_,y_,n_,y_,y_,n_,n_,n_,n_,n_,n_,n_,n_,n_,n_,n_,n_,n_,n_,n_,n_,n_] rfl rfl (take_ofW HT_.out HW_.out (by kernel_rfl)) (fun _ _ _ h => h) (Or.inl ⟨by rfl,?_⟩) hHeld ?_ ?_
                 rotate_left
                 ·rintro w' ⟨s0,s1,s2⟩
                  go_simp
                  with_reducible rfl
                 rotate_left
                 ·simp only [Act.put,sA_,sB_,sC_,i64_w,i32_w]
                  rfl
                 refine one_ (i:=4) (N:=some 145) #[y_,y_,y_,y_,y_,y_,y_,n_,n_,n_,n_,n_,n_,n_,n_,n_,n_,n_,n_,n_,n_,n_,n_,n_] rfl rfl (one_of HT_.out (by kernel_rfl)) (by decide) (fun K hK => ?_)
                 refine goes_ Try.func47 (by kernel_rfl) rfl #[.pointer (some ⟨g282,0,none⟩)] (by rfl) rfl rfl (by (try simp only [List.map_toArray,List.map_cons,List.map_nil]);first | done | rfl | (simp only [List.length_drop,List.length_take];rfl)) ?_
                 with_reducible refine (cursor_Cursor_At.calls g282 x283000_30 x283001_30 x283002_30 t340 t341 t342 t343 w _ ?side1 ?side2 A143.out).mono ?_
                 (case side1 => repeat (first | (with_reducible first | exact HI282.out | apply IsS102.alloc | apply IsS102.drewN | apply IsS102.drew | apply IsS102.set_0 | apply IsS102.set_1 | apply IsS102.set_2 | refine IsS102.far ?_ NB282_283.out _ | refine IsS102.far ?_ NB282_288.out _) | exact HI282.out))
                 (case side2 => repeat (first | (with_reducible first | exact HB.out | apply below_alloc | apply pw_below_drewN | apply below_drew1 | refine below_set ?_ (IsS102.ge HI282.out) | refine below_set ?_ GE283.out | refine below_set ?_ GE288.out) | exact HB.out))
                 rintro e w161 ⟨rfl,hi,hb,hk⟩
                 refine ⟨_,rfl,?_⟩
                 have n0_:=Aside0.mk (KeepBut.blk hk (g':=gb283) (o:=.cells #[.string x284000_30,.int .i64 x284001_30,.int .i64 x284002_30] 59 (0,0)) (by (with_reducible repeat (first | refine blk_drewN ?_ _ | refine blk_drew ?_ | refine blk_alloc ?_ _));exact BK283.out) NB283_282.out (by simp))
                 have n1_:=Aside0.mk (KeepBut.blk hk (g':=gb288) (o:=.cells #[.int .i64 ((rd_T61 l1 x55_3).f0),.int .i64 ((rd_T61 l1 x55_3).f1)] 61 (0,0)) (by (with_reducible repeat (first | refine blk_drewN ?_ _ | refine blk_drew ?_ | refine blk_alloc ?_ _));exact BK288.out) NB288_282.out (by simp))
                 have n2_:=Aside0.mk (hb)
                 have n3_:=Aside0.mk (hi)
                 clear BK283
                 clear BK288
                 clear HB
                 clear HI282
                 have BK283:=n0_
                 have BK288:=n1_
                 have HB:=n2_
                 have HI282:=n3_
                 clear n0_ n1_ n2_ n3_
                 (try clear hb)
                 (try clear hb2)
                 (try clear hk)
                 (try clear hi)
                 refine hK.out _ _ ⟨(blk_cell BK283.out 0).trans rfl,(blk_cell BK283.out 1).trans rfl,(blk_cell BK283.out 2).trans rfl⟩ (fun hHeld => ?_)
                 clear hK K
                 refine norm_ (a':=?_) ?_ ?_
                 rotate_left
                 ·show Act.put _ (some 145) _ = _
                  simp only [Act.put,sA_,sB_,sC_,i64_w,i32_w]
                  rfl
                 refine pure_ (i:=7) (N:=some 148) (v:=?_) (a':=?_) #[y_,y_,y_,y_,y_,y_,y_,y_,n_,n_,n_,n_,n_,n_,n_,n_,n_,n_,n_,n_,n_,n_,n_,n_] rfl rfl (any_of HT_.out (by kernel_rfl)) (fun _ _ _ h => h) (Or.inl ⟨by rfl,?_⟩) ?_ ?_
                 rotate_left
                 ·intro w'
                  go_simp
                  with_reducible rfl
                 rotate_left
                 ·simp only [Act.put,sA_,sB_,sC_,i64_w,i32_w]
                  rfl
                 refine pure_ (i:=8) (N:=some 149) (v:=?_) (a':=?_) #[y_,y_,y_,y_,y_,y_,y_,y_,y_,n_,n_,n_,n_,n_,n_,n_,n_,n_,n_,n_,n_,n_,n_,n_] rfl rfl (any_of HT_.out (by kernel_rfl)) (fun _ _ _ h => h) (Or.inl ⟨by rfl,?_⟩) ?_ ?_
                 rotate_left
                 ·intro w'
                  go_simp
                  with_reducible rfl
                 rotate_left
                 ·simp only [Act.put,sA_,sB_,sC_,i64_w,i32_w]
                  rfl
                 refine pure_ (i:=9) (N:=some 150) (v:=?_) (a':=?_) #[y_,y_,y_,y_,y_,y_,y_,y_,y_,y_,n_,n_,n_,n_,n_,n_,n_,n_,n_,n_,n_,n_,n_,n_] rfl rfl (any_of HT_.out (by kernel_rfl)) (fun _ _ _ h => h) (Or.inl ⟨by rfl,?_⟩) ?_ ?_
                 rotate_left
                 ·intro w'
                  go_simp
                  with_reducible rfl
                 rotate_left
                 ·simp only [Act.put,sA_,sB_,sC_,i64_w,i32_w]
                  rfl
                 refine pure_ (i:=10) (N:=some 151) (v:=undef) (a':=?_) #[y_,y_,y_,y_,y_,y_,y_,y_,y_,y_,y_,n_,n_,n_,n_,n_,n_,n_,n_,n_,n_,n_,n_,n_] rfl rfl (any_of HT_.out (by kernel_rfl)) (fun _ _ _ h => h) (Or.inr ⟨by rfl,rfl⟩) ?_ ?_
                 rotate_left
                 ·simp only [Act.put,sA_,sB_,sC_,i64_w,i32_w]
                  rfl
                 refine pure_ (i:=11) (N:=some 152) (v:=undef) (a':=?_) #[y_,y_,y_,y_,y_,y_,y_,y_,y_,y_,y_,y_,n_,n_,n_,n_,n_,n_,n_,n_,n_,n_,n_,n_] rfl rfl (any_of HT_.out (by kernel_rfl)) (fun _ _ _ h => h) (Or.inr ⟨by rfl,rfl⟩) ?_ ?_
                 rotate_left
                 ·simp only [Act.put,sA_,sB_,sC_,i64_w,i32_w]
                  rfl
                 refine pure_ (i:=12) (N:=some 153) (v:=undef) (a':=?_) #[y_,y_,y_,y_,y_,y_,y_,y_,y_,y_,y_,y_,y_,n_,n_,n_,n_,n_,n_,n_,n_,n_,n_,n_] rfl rfl (any_of HT_.out (by kernel_rfl)) (fun _ _ _ h => h) (Or.inr ⟨by rfl,rfl⟩) ?_ ?_
                 rotate_left
                 ·simp only [Act.put,sA_,sB_,sC_,i64_w,i32_w]
                  rfl
                 refine pure_ (i:=13) (N:=some 154) (v:=undef) (a':=?_) #[y_,y_,y_,y_,y_,y_,y_,y_,y_,y_,y_,y_,y_,y_,n_,n_,n_,n_,n_,n_,n_,n_,n_,n_] rfl rfl (any_of HT_.out (by kernel_rfl)) (fun _ _ _ h => h) (Or.inr ⟨by rfl,rfl⟩) ?_ ?_
                 rotate_left
                 ·simp only [Act.put,sA_,sB_,sC_,i64_w,i32_w]
                  rfl
                 refine pure_ (i:=14) (N:=some 155) (v:=undef) (a':=?_) #[y_,y_,y_,y_,y_,y_,y_,y_,y_,y_,y_,y_,y_,y_,y_,n_,n_,n_,n_,n_,n_,n_,n_,n_] rfl rfl (any_of HT_.out (by kernel_rfl)) (fun _ _ _ h => h) (Or.inr ⟨by rfl,rfl⟩) ?_ ?_
                 rotate_left
                 ·simp only [Act.put,sA_,sB_,sC_,i64_w,i32_w]
                  rfl
                 refine pure_ (i:=15) (N:=some 156) (v:=undef) (a':=?_) #[y_,y_,y_,y_,y_,y_,y_,y_,y_,y_,y_,y_,y_,y_,y_,y_,n_,n_,n_,n_,n_,n_,n_,n_] rfl rfl (any_of HT_.out (by kernel_rfl)) (fun _ _ _ h => h) (Or.inr ⟨by rfl,rfl⟩) ?_ ?_
                 rotate_left
                 ·simp only [Act.put,sA_,sB_,sC_,i64_w,i32_w]
                  rfl
                 refine pure_ (i:=16) (N:=some 157) (v:=?_) (a':=?_) #[y_,y_,y_,y_,y_,y_,y_,y_,y_,y_,y_,y_,y_,y_,y_,y_,y_,n_,n_,n_,n_,n_,n_,n_] rfl rfl (any_of HT_.out (by kernel_rfl)) (fun _ _ _ h => h) (Or.inl ⟨by rfl,?_⟩) ?_ ?_
                 rotate_left
                 ·intro w'
                  go_simp
                  with_reducible rfl
                 rotate_left
                 ·simp only [Act.put,sA_,sB_,sC_,i64_w,i32_w]
                  rfl
                 refine pure_ (i:=17) (N:=some 158) (v:=?_) (a':=?_) #[y_,y_,y_,y_,y_,y_,y_,y_,y_,y_,y_,y_,y_,y_,y_,y_,y_,y_,n_,n_,n_,n_,n_,n_] rfl rfl (any_of HT_.out (by kernel_rfl)) (fun _ _ _ h => h) (Or.inl ⟨by rfl,?_⟩) ?_ ?_
                 rotate_left
                 ·intro w'
                  go_simp
                  with_reducible rfl
                 rotate_left
                 ·simp only [Act.put,sA_,sB_,sC_,i64_w,i32_w]
                  rfl
                 refine pure_ (i:=18) (N:=some 159) (v:=undef) (a':=?_) #[y_,y_,y_,y_,y_,y_,y_,y_,y_,y_,y_,y_,y_,y_,y_,y_,y_,y_,y_,n_,n_,n_,n_,n_] rfl rfl (any_of HT_.out (by kernel_rfl)) (fun _ _ _ h => h) (Or.inr ⟨by rfl,rfl⟩) ?_ ?_
                 rotate_left
                 ·simp only [Act.put,sA_,sB_,sC_,i64_w,i32_w]
                  rfl
                 refine pure_ (i:=19) (N:=some 160) (v:=undef) (a':=?_) #[y_,y_,y_,y_,y_,y_,y_,y_,y_,y_,y_,y_,y_,y_,y_,y_,y_,y_,y_,y_,n_,n_,n_,n_] rfl rfl (any_of HT_.out (by kernel_rfl)) (fun _ _ _ h => h) (Or.inr ⟨by rfl,rfl⟩) ?_ ?_
                 rotate_left
                 ·simp only [Act.put,sA_,sB_,sC_,i64_w,i32_w]
                  rfl
                 refine pure_ (i:=20) (N:=some 161) (v:=undef) (a':=?_) #[y_,y_,y_,y_,y_,y_,y_,y_,y_,y_,y_,y_,y_,y_,y_,y_,y_,y_,y_,y_,y_,n_,n_,n_] rfl rfl (any_of HT_.out (by kernel_rfl)) (fun _ _ _ h => h) (Or.inr ⟨by rfl,rfl⟩) ?_ ?_
                 rotate_left
                 ·simp only [Act.put,sA_,sB_,sC_,i64_w,i32_w]
                  rfl
                 refine pure_ (i:=21) (N:=some 162) (v:=undef) (a':=?_) #[y_,y_,y_,y_,y_,y_,y_,y_,y_,y_,y_,y_,y_,y_,y_,y_,y_,y_,y_,y_,y_,y_,n_,n_] rfl rfl (any_of HT_.out (by kernel_rfl)) (fun _ _ _ h => h) (Or.inr ⟨by rfl,rfl⟩) ?_ ?_
                 rotate_left
                 ·simp only [Act.put,sA_,sB_,sC_,i64_w,i32_w]
                  rfl
                 refine pure_ (i:=22) (N:=some 163) (v:=undef) (a':=?_) #[y_,y_,y_,y_,y_,y_,y_,y_,y_,y_,y_,y_,y_,y_,y_,y_,y_,y_,y_,y_,y_,y_,y_,n_] rfl rfl (any_of HT_.out (by kernel_rfl)) (fun _ _ _ h => h) (Or.inr ⟨by rfl,rfl⟩) ?_ ?_
                 rotate_left
                 ·simp only [Act.put,sA_,sB_,sC_,i64_w,i32_w]
                  rfl
                 refine pure_ (i:=23) (N:=some 164) (v:=?_) (a':=?_) #[y_,y_,y_,y_,y_,y_,y_,y_,y_,y_,y_,y_,y_,y_,y_,y_,y_,y_,y_,y_,y_,y_,y_,y_] rfl rfl (any_of HT_.out (by kernel_rfl)) (fun _ _ _ h => h) (Or.inl ⟨by rfl,?_⟩) ?_ ?_
                 rotate_left
                 ·intro w'
                  go_simp
                  with_reducible rfl
                 rotate_left
                 ·simp only [Act.put,sA_,sB_,sC_,i64_w,i32_w]
                  rfl
                 refine done_ (done_of HT_.out (by kernel_rfl)) ?_
                 try go_wp2
                 go_ret
                 exact ⟨by first | rfl | (simp [errW_none,errW_some] <;> rfl) | (simp [*,errW_none,errW_some] <;> rfl),by repeat (first | (with_reducible first | exact HB.out | apply below_alloc | apply pw_below_drewN | apply below_drew1 | refine below_set ?_ (IsS102.ge HI282.out) | refine below_set ?_ GE283.out | refine below_set ?_ GE288.out) | exact HB.out)⟩
               ·replace c142:=Bool.eq_false_iff.mpr c142
                subst c142
                have H1 : (some false) = some r:=by rw [if_neg (show ¬ (false = true) by decide)] at H;exact H
                clear H
                have H:=H1
                clear H1
                obtain rfl:=Option.some.inj H
                try go_wp2
                have n0_:=Aside0.mk (blk_drew BK283.out)
                have n1_:=Aside0.mk (blk_drew BK288.out)
                have n2_:=Aside0.mk (IsS102.drew HI282.out)
                have n3_:=Aside0.mk (below_drew1 HB.out)
                clear BK283
                clear BK288
                clear HI282
                clear HB
                have BK283:=n0_
                have BK288:=n1_
                have HI282:=n2_
                have HB:=n3_
                clear n0_ n1_ n2_ n3_
                refine start_ (n:=24) (S:=fun w' => True) (ds:=[]) #[n_,n_,n_,n_,n_,n_,n_,n_,n_,n_,n_,n_,n_,n_,n_,n_,n_,n_,n_,n_,n_,n_,n_,n_] (by kernel_rfl) rfl rfl trivial (fun hHeld => ?_);refine with_tabW tachographlaw03_CursorPlays.tab35 tachographlaw03_CursorPlays.bits35 (fun HT_ HW_ => ?_)
                generalize wc.drew = w162 at BK283 BK288 HI282 HB hHeld ⊢
                refine pure_ (i:=0) (N:=some 141) (v:=?_) (a':=?_) #[y_,n_,n_,n_,n_,n_,n_,n_,n_,n_,n_,n_,n_,n_,n_,n_,n_,n_,n_,n_,n_,n_,n_,n_] rfl rfl (any_of HT_.out (by kernel_rfl)) (fun _ _ _ h => h) (Or.inl ⟨by rfl,?_⟩) ?_ ?_
                rotate_left
                ·intro w'
                 go_simp
                 with_reducible rfl
                rotate_left
                ·simp only [Act.put,sA_,sB_,sC_,i64_w,i32_w]
                 rfl
                refine pure_ (i:=1) (N:=some 142) (v:=?_) (a':=?_) #[y_,y_,n_,n_,n_,n_,n_,n_,n_,n_,n_,n_,n_,n_,n_,n_,n_,n_,n_,n_,n_,n_,n_,n_] rfl rfl (any_of HT_.out (by kernel_rfl)) (fun _ _ _ h => h) (Or.inl ⟨by rfl,?_⟩) ?_ ?_
                rotate_left
                ·intro w'
                 go_simp
                 with_reducible rfl
                rotate_left
                ·simp only [Act.put,sA_,sB_,sC_,i64_w,i32_w]
                 rfl
                refine pure_ (i:=2) (N:=some 143) (v:=?_) (a':=?_) #[y_,y_,y_,n_,n_,n_,n_,n_,n_,n_,n_,n_,n_,n_,n_,n_,n_,n_,n_,n_,n_,n_,n_,n_] rfl rfl (any_of HT_.out (by kernel_rfl)) (fun _ _ _ h => h) (Or.inl ⟨by rfl,?_⟩) ?_ ?_
                rotate_left
                ·intro w'
                 go_simp
                 with_reducible rfl
                rotate_left
                ·simp only [Act.put,sA_,sB_,sC_,i64_w,i32_w]
                 rfl
                refine pure_ (i:=3) (N:=some 144) (v:=undef) (a':=?_) #[y_,y_,y_,y_,n_,n_,n_,n_,n_,n_,n_,n_,n_,n_,n_,n_,n_,n_,n_,n_,n_,n_,n_,n_] rfl rfl (any_of HT_.out (by kernel_rfl)) (fun _ _ _ h => h) (Or.inr ⟨by rfl,rfl⟩) ?_ ?_
                rotate_left
                ·simp only [Act.put,sA_,sB_,sC_,i64_w,i32_w]
                 rfl
                refine pure_ (i:=4) (N:=some 145) (v:=undef) (a':=?_) #[y_,y_,y_,y_,y_,n_,n_,n_,n_,n_,n_,n_,n_,n_,n_,n_,n_,n_,n_,n_,n_,n_,n_,n_] rfl rfl (any_of HT_.out (by kernel_rfl)) (fun _ _ _ h => h) (Or.inr ⟨by rfl,rfl⟩) ?_ ?_
                rotate_left
                ·simp only [Act.put,sA_,sB_,sC_,i64_w,i32_w]
                 rfl
                refine pure_ (i:=5) (N:=some 146) (v:=undef) (a':=?_) #[y_,y_,y_,y_,y_,y_,n_,n_,n_,n_,n_,n_,n_,n_,n_,n_,n_,n_,n_,n_,n_,n_,n_,n_] rfl rfl (any_of HT_.out (by kernel_rfl)) (fun _ _ _ h => h) (Or.inr ⟨by rfl,rfl⟩) ?_ ?_
                rotate_left
                ·simp only [Act.put,sA_,sB_,sC_,i64_w,i32_w]
                 rfl
                refine pure_ (i:=6) (N:=some 147) (v:=undef) (a':=?_) #[y_,y_,y_,y_,y_,y_,y_,n_,n_,n_,n_,n_,n_,n_,n_,n_,n_,n_,n_,n_,n_,n_,n_,n_] rfl rfl (any_of HT_.out (by kernel_rfl)) (fun _ _ _ h => h) (Or.inr ⟨by rfl,rfl⟩) ?_ ?_
                rotate_left
                ·simp only [Act.put,sA_,sB_,sC_,i64_w,i32_w]
                 rfl
                refine pure_ (i:=7) (N:=some 148) (v:=undef) (a':=?_) #[y_,y_,y_,y_,y_,y_,y_,y_,n_,n_,n_,n_,n_,n_,n_,n_,n_,n_,n_,n_,n_,n_,n_,n_] rfl rfl (any_of HT_.out (by kernel_rfl)) (fun _ _ _ h => h) (Or.inr ⟨by rfl,rfl⟩) ?_ ?_
                rotate_left
                ·simp only [Act.put,sA_,sB_,sC_,i64_w,i32_w]
                 rfl
                refine pure_ (i:=8) (N:=some 149) (v:=?_) (a':=?_) #[y_,y_,y_,y_,y_,y_,y_,y_,y_,n_,n_,n_,n_,n_,n_,n_,n_,n_,n_,n_,n_,n_,n_,n_] rfl rfl (any_of HT_.out (by kernel_rfl)) (fun _ _ _ h => h) (Or.inl ⟨by rfl,?_⟩) ?_ ?_
                rotate_left
                ·intro w'
                 go_simp
                 with_reducible rfl
                rotate_left
                ·simp only [Act.put,sA_,sB_,sC_,i64_w,i32_w]
                 rfl
                refine pure_ (i:=9) (N:=some 150) (v:=?_) (a':=?_) #[y_,y_,y_,y_,y_,y_,y_,y_,y_,y_,n_,n_,n_,n_,n_,n_,n_,n_,n_,n_,n_,n_,n_,n_] rfl rfl (any_of HT_.out (by kernel_rfl)) (fun _ _ _ h => h) (Or.inl ⟨by rfl,?_⟩) ?_ ?_
                rotate_left
                ·intro w'
                 go_simp
                 with_reducible rfl
                rotate_left
                ·simp only [Act.put,sA_,sB_,sC_,i64_w,i32_w]
                 rfl
                refine pure_ (i:=10) (N:=some 151) (v:=undef) (a':=?_) #[y_,y_,y_,y_,y_,y_,y_,y_,y_,y_,y_,n_,n_,n_,n_,n_,n_,n_,n_,n_,n_,n_,n_,n_] rfl rfl (any_of HT_.out (by kernel_rfl)) (fun _ _ _ h => h) (Or.inr ⟨by rfl,rfl⟩) ?_ ?_
                rotate_left
                ·simp only [Act.put,sA_,sB_,sC_,i64_w,i32_w]
                 rfl
                refine pure_ (i:=11) (N:=some 152) (v:=undef) (a':=?_) #[y_,y_,y_,y_,y_,y_,y_,y_,y_,y_,y_,y_,n_,n_,n_,n_,n_,n_,n_,n_,n_,n_,n_,n_] rfl rfl (any_of HT_.out (by kernel_rfl)) (fun _ _ _ h => h) (Or.inr ⟨by rfl,rfl⟩) ?_ ?_
                rotate_left
                ·simp only [Act.put,sA_,sB_,sC_,i64_w,i32_w]
                 rfl
                refine pure_ (i:=12) (N:=some 153) (v:=undef) (a':=?_) #[y_,y_,y_,y_,y_,y_,y_,y_,y_,y_,y_,y_,y_,n_,n_,n_,n_,n_,n_,n_,n_,n_,n_,n_] rfl rfl (any_of HT_.out (by kernel_rfl)) (fun _ _ _ h => h) (Or.inr ⟨by rfl,rfl⟩) ?_ ?_
                rotate_left
                ·simp only [Act.put,sA_,sB_,sC_,i64_w,i32_w]
                 rfl
                refine pure_ (i:=13) (N:=some 154) (v:=undef) (a':=?_) #[y_,y_,y_,y_,y_,y_,y_,y_,y_,y_,y_,y_,y_,y_,n_,n_,n_,n_,n_,n_,n_,n_,n_,n_] rfl rfl (any_of HT_.out (by kernel_rfl)) (fun _ _ _ h => h) (Or.inr ⟨by rfl,rfl⟩) ?_ ?_
                rotate_left
                ·simp only [Act.put,sA_,sB_,sC_,i64_w,i32_w]
                 rfl
                refine pure_ (i:=14) (N:=some 155) (v:=undef) (a':=?_) #[y_,y_,y_,y_,y_,y_,y_,y_,y_,y_,y_,y_,y_,y_,y_,n_,n_,n_,n_,n_,n_,n_,n_,n_] rfl rfl (any_of HT_.out (by kernel_rfl)) (fun _ _ _ h => h) (Or.inr ⟨by rfl,rfl⟩) ?_ ?_
                rotate_left
                ·simp only [Act.put,sA_,sB_,sC_,i64_w,i32_w]
                 rfl
                refine pure_ (i:=15) (N:=some 156) (v:=undef) (a':=?_) #[y_,y_,y_,y_,y_,y_,y_,y_,y_,y_,y_,y_,y_,y_,y_,y_,n_,n_,n_,n_,n_,n_,n_,n_] rfl rfl (any_of HT_.out (by kernel_rfl)) (fun _ _ _ h => h) (Or.inr ⟨by rfl,rfl⟩) ?_ ?_
                rotate_left
                ·simp only [Act.put,sA_,sB_,sC_,i64_w,i32_w]
                 rfl
                refine pure_ (i:=16) (N:=some 157) (v:=?_) (a':=?_) #[y_,y_,y_,y_,y_,y_,y_,y_,y_,y_,y_,y_,y_,y_,y_,y_,y_,n_,n_,n_,n_,n_,n_,n_] rfl rfl (any_of HT_.out (by kernel_rfl)) (fun _ _ _ h => h) (Or.inl ⟨by rfl,?_⟩) ?_ ?_
                rotate_left
                ·intro w'
                 go_simp
                 with_reducible rfl
                rotate_left
                ·simp only [Act.put,sA_,sB_,sC_,i64_w,i32_w]
                 rfl
                refine pure_ (i:=17) (N:=some 158) (v:=?_) (a':=?_) #[y_,y_,y_,y_,y_,y_,y_,y_,y_,y_,y_,y_,y_,y_,y_,y_,y_,y_,n_,n_,n_,n_,n_,n_] rfl rfl (any_of HT_.out (by kernel_rfl)) (fun _ _ _ h => h) (Or.inl ⟨by rfl,?_⟩) ?_ ?_
                rotate_left
                ·intro w'
                 go_simp
                 with_reducible rfl
                rotate_left
                ·simp only [Act.put,sA_,sB_,sC_,i64_w,i32_w]
                 rfl
                refine pure_ (i:=18) (N:=some 159) (v:=undef) (a':=?_) #[y_,y_,y_,y_,y_,y_,y_,y_,y_,y_,y_,y_,y_,y_,y_,y_,y_,y_,y_,n_,n_,n_,n_,n_] rfl rfl (any_of HT_.out (by kernel_rfl)) (fun _ _ _ h => h) (Or.inr ⟨by rfl,rfl⟩) ?_ ?_
                rotate_left
                ·simp only [Act.put,sA_,sB_,sC_,i64_w,i32_w]
                 rfl
                refine pure_ (i:=19) (N:=some 160) (v:=undef) (a':=?_) #[y_,y_,y_,y_,y_,y_,y_,y_,y_,y_,y_,y_,y_,y_,y_,y_,y_,y_,y_,y_,n_,n_,n_,n_] rfl rfl (any_of HT_.out (by kernel_rfl)) (fun _ _ _ h => h) (Or.inr ⟨by rfl,rfl⟩) ?_ ?_
                rotate_left
                ·simp only [Act.put,sA_,sB_,sC_,i64_w,i32_w]
                 rfl
                refine pure_ (i:=20) (N:=some 161) (v:=undef) (a':=?_) #[y_,y_,y_,y_,y_,y_,y_,y_,y_,y_,y_,y_,y_,y_,y_,y_,y_,y_,y_,y_,y_,n_,n_,n_] rfl rfl (any_of HT_.out (by kernel_rfl)) (fun _ _ _ h => h) (Or.inr ⟨by rfl,rfl⟩) ?_ ?_
                rotate_left
                ·simp only [Act.put,sA_,sB_,sC_,i64_w,i32_w]
                 rfl
                refine pure_ (i:=21) (N:=some 162) (v:=undef) (a':=?_) #[y_,y_,y_,y_,y_,y_,y_,y_,y_,y_,y_,y_,y_,y_,y_,y_,y_,y_,y_,y_,y_,y_,n_,n_] rfl rfl (any_of HT_.out (by kernel_rfl)) (fun _ _ _ h => h) (Or.inr ⟨by rfl,rfl⟩) ?_ ?_
                rotate_left
                ·simp only [Act.put,sA_,sB_,sC_,i64_w,i32_w]
                 rfl
                refine pure_ (i:=22) (N:=some 163) (v:=undef) (a':=?_) #[y_,y_,y_,y_,y_,y_,y_,y_,y_,y_,y_,y_,y_,y_,y_,y_,y_,y_,y_,y_,y_,y_,y_,n_] rfl rfl (any_of HT_.out (by kernel_rfl)) (fun _ _ _ h => h) (Or.inr ⟨by rfl,rfl⟩) ?_ ?_
                rotate_left
                ·simp only [Act.put,sA_,sB_,sC_,i64_w,i32_w]
                 rfl
                refine pure_ (i:=23) (N:=some 164) (v:=?_) (a':=?_) #[y_,y_,y_,y_,y_,y_,y_,y_,y_,y_,y_,y_,y_,y_,y_,y_,y_,y_,y_,y_,y_,y_,y_,y_] rfl rfl (any_of HT_.out (by kernel_rfl)) (fun _ _ _ h => h) (Or.inl ⟨by rfl,?_⟩) ?_ ?_
                rotate_left
                ·intro w'
                 go_simp
                 with_reducible rfl
                rotate_left
                ·simp only [Act.put,sA_,sB_,sC_,i64_w,i32_w]
                 rfl
                refine done_ (done_of HT_.out (by kernel_rfl)) ?_
                try go_wp2
                go_ret
                exact ⟨by first | rfl | (simp [errW_none,errW_some] <;> rfl) | (simp [*,errW_none,errW_some] <;> rfl),by repeat (first | (with_reducible first | exact HB.out | apply below_alloc | apply pw_below_drewN | apply below_drew1 | refine below_set ?_ (IsS102.ge HI282.out) | refine below_set ?_ GE283.out | refine below_set ?_ GE288.out) | exact HB.out)⟩
            ·rw [if_neg c30] at H
             exact absurd H (by simp)
           ·rw [if_neg c29] at H
            exact absurd H (by simp)
          ·rw [if_neg c28] at H
           have c28b0 : decide (x55_3 < (l1.length : Int)) = false:=decide_eq_false c28
           (try simp only [hl5_2] at c28b0)
           clear c28
           replace H:=Option.bind_eq_some_iff.mp H
           obtain ⟨t286,A1630,H⟩:=H
           replace H : (some t286) = some r:=H
           have A163:=Aside0.mk A1630
           clear A1630
           obtain rfl:=Option.some.inj H
           go_wp2_with (first | ((with_reducible refine gate_callee (f:=33) rfl ?_);refine goesL_ (some 166) rfl rfl Try.func33 (by kernel_rfl) rfl #[] rfl (by (try simp only [List.map_toArray,List.map_cons,List.map_nil]);first | done | rfl | (simp only [List.length_drop,List.length_take];rfl)) ?_;(with_reducible refine (tachographlaw03_fixed.calls k3  t286 _ A163.out).mono ?_);rintro e w164 ⟨rfl,hb⟩;refine ⟨_,rfl,?_⟩;have n0_:=Aside0.mk (blk_below (g:=gb283) (o:=.cells #[.string x284000_3,.int .i64 x284001_3,.int .i64 x284002_3] 59 (0,0)) (by (with_reducible repeat (first | refine blk_drewN ?_ _ | refine blk_drew ?_ | refine blk_alloc ?_ _));exact BK283.out) hb);have n1_:=Aside0.mk (IsS102.below (by repeat (first | (with_reducible first | exact HI282.out | apply IsS102.alloc | apply IsS102.drewN | apply IsS102.drew | apply IsS102.set_0 | apply IsS102.set_1 | apply IsS102.set_2 | refine IsS102.far ?_ NB282_283.out _) | exact HI282.out)) hb);have n2_:=Aside0.mk (below_step (by repeat (first | (with_reducible first | exact HB.out | apply below_alloc | apply pw_below_drewN | apply below_drew1 | refine below_set ?_ (IsS102.ge HI282.out) | refine below_set ?_ GE283.out) | exact HB.out)) hb);clear BK283;clear HI282;clear HB;have BK283:=n0_;have HI282:=n1_;have HB:=n2_;clear n0_ n1_ n2_;(try clear hb);(try clear hb2);(try clear hk);(try clear hi)))
           go_ret
           exact ⟨by first | rfl | (simp [errW_none,errW_some] <;> rfl) | (simp [*,errW_none,errW_some] <;> rfl),by repeat (first | (with_reducible first | exact HB.out | apply below_alloc | apply pw_below_drewN | apply below_drew1 | refine below_set ?_ (IsS102.ge HI282.out) | refine below_set ?_ GE283.out) | exact HB.out)⟩
    ·rw [if_neg c8] at H
     exact absurd H (by simp)

set_option maxRecDepth 100000 in
theorem tachographlaw03_CursorPlays.laid1 : Go.Proofs.YtjfklfmfeghjnaaOpen.Laid Try.prog 61 k61 (fun b_ : S61 => (Go.Proofs.YtjfklfmfeghjnaaOpen.pairOk (Go.Proofs.YtjfklfmfeghjnaaOpen.intOk .i64) (Go.Proofs.YtjfklfmfeghjnaaOpen.intOk .i64)) (b_.f0,b_.f1)):=(Go.Proofs.YtjfklfmfeghjnaaOpen.laid_iso (fun b_ : S61 => (b_.f0,b_.f1)) (fun p_ => ⟨p_.1,p_.2⟩) (fun _ => rfl) (Go.Proofs.YtjfklfmfeghjnaaOpen.laid_struct Try.underlying61 (by kernel_rfl) (Go.Proofs.YtjfklfmfeghjnaaOpen.laidF_cons (by rfl) (Go.Proofs.YtjfklfmfeghjnaaOpen.laid_int Try.underlying3 (by kernel_rfl)) (Go.Proofs.YtjfklfmfeghjnaaOpen.laidF_one (by rfl) (Go.Proofs.YtjfklfmfeghjnaaOpen.laid_int Try.underlying3 (by kernel_rfl))))))
/-- THE ONE PURE STATEMENT of tachographlaw03_CursorPlays: yours. -/
def tachographlaw03_CursorPlays.Pure : Prop:=∀ (l0 : List Int) (l1 : List (S61)),l0.length ≤ maxLen → l0.length * 1 ≤ 140737488351232 → (∀ x ∈ l0,(Lit.int .u8 x).wf = true) → (Go.Proofs.YtjfklfmfeghjnaaOpen.sliceOk 16 (fun b_ : S61 => (Go.Proofs.YtjfklfmfeghjnaaOpen.pairOk (Go.Proofs.YtjfklfmfeghjnaaOpen.intOk .i64) (Go.Proofs.YtjfklfmfeghjnaaOpen.intOk .i64)) (b_.f0,b_.f1))) l1 → ∃ k,tachographlaw03_CursorPlays.f k l0 l1 = some true
theorem tachographlaw03_CursorPlays.walk (P : tachographlaw03_CursorPlays.Pure) (a0 : Option Addr) (len0 cap0 : Nat) (z0 : List Int) (a1 : Option Addr) (cap1 : Nat) (l1 : List (S61)) (w : World) (w0 : (a0 = none ∧ len0 = 0 ∧ cap0 = 0 ∧ z0 = []) ∨ ∃ x,a0 = some x ∧ len0 ≤ cap0 ∧ cap0 ≤ maxLen ∧ z0.length = cap0 ∧ (∀ i,i < z0.length → w.cell? (x.add i) = some (.int .u8 (z0.getD i 0))) ∧ ∀ n ∈ z0,(Lit.int .u8 n).wf = true) (y0 : len0 * 1 ≤ 140737488351232) (w1 : (Go.Proofs.YtjfklfmfeghjnaaOpen.sliceOk 16 (fun b_ : S61 => (Go.Proofs.YtjfklfmfeghjnaaOpen.pairOk (Go.Proofs.YtjfklfmfeghjnaaOpen.intOk .i64) (Go.Proofs.YtjfklfmfeghjnaaOpen.intOk .i64)) (b_.f0,b_.f1))) l1) (e1 : l1.length ≤ cap1) (C1 : Kd.C k61 w a1 l1.length l1) :
  Calls Try.prog 10 #[.slice a0 len0 cap0,.slice a1 l1.length cap1] w fun e w' => e = .returned (.bool true) ∧ Below w.heap.size w w':=by
 obtain ⟨l0,rfl,hr0,hm0,hw0,hc0⟩:=ReadsInt.ofRowC w0
 obtain ⟨k,h⟩:=P l0 l1 hm0 y0 hw0 w1
 refine (tachographlaw03_CursorPlays.calls k _ _ l0 _ _ l1 true w (Kd.C_of_reads (d:=(0 : Int)) (h1:=fun _ => rfl) hr0) hc0 C1 e1 h).mono ?_
 rintro e w' ⟨rfl,hd⟩
 exact ⟨rfl,hd⟩

end Go.Proofs.Ytjfklfmfeghjnaa.PA
