/- Proved: tachographlaw03.CursorPlays answers true at every bytes and steps: whatever is taken of any bytes, what each call answers, and where the cursor is, is the document's; what is written into the bytes later is of no account. Conditions: none but the form's own reach. -/
import Derived.Test.YtjfklfmfeghjnaaMCursor
import Derived.Test.YtjfklfmfeghjnaaMUnfold
import Derived.Test.YtjfklfmfeghjnaaMCursorFixed
import Derived.Test.YtjfklfmfeghjnaaPAx10
import Derived.Test.YtjfklfmfeghjnaaPAx11
import Derived.Test.YtjfklfmfeghjnaaPAx12
set_option linter.unusedVariables false
namespace Go.Proofs.Ytjfklfmfeghjnaa.Pure
open Go.RowKit Go.Proofs.Ytjfklfmfeghjnaa.PA Go.Proofs.Ytjfklfmfeghjnaa.MW Go.Proofs.Ytjfklfmfeghjnaa.MBlob Go.Proofs.Ytjfklfmfeghjnaa.MCursor Go.Proofs.Ytjfklfmfeghjnaa.MUnfold Go.Proofs.YtjfklfmfeghjnaaW.PrintWords Go.Proofs.YtjfklfmfeghjnaaW.PrintLast Go.Proofs.YtjfklfmfeghjnaaW.PrintMore Go.Proofs.YtjfklfmfeghjnaaAid Go.Proofs.YtjfklfmfeghjnaaOpen

/-- What is left of a text behind a place. -/
def tail (s : ByteArray) (at_ : Int) : ByteArray := strOfNums ((bytesOf s).drop at_.toNat)
theorem bytes_tail (s : ByteArray) (at_ : Int) : bytesOf (tail s at_) = (bytesOf s).drop at_.toNat := bytesOf_strOfNums ((byt_bytesOf s).drop _)
theorem size_tail (s : ByteArray) (at_ : Int) (h0 : 0 ≤ at_) (h1 : at_ ≤ (s.size : Int)) : ((tail s at_).size : Int) = (s.size : Int) - at_ := by
 have hl := bytesOf_length s
 have : (tail s at_).size = s.size - at_.toNat := by unfold tail; rw [strOfNums_size, List.length_drop, hl]
 omega
theorem tail_zero (s : ByteArray) : tail s 0 = s := by unfold tail; rw [Int.toNat_zero, List.drop_zero, strOfNums_bytesOf]
theorem tail_on (s : ByteArray) (at_ n : Int) (h0 : 0 ≤ at_) (h1 : 0 ≤ n) : (tail s at_).extract n.toNat (tail s at_).size = tail s (at_ + n) := by
 rw [← strOfNums_bytesOf ((tail s at_).extract n.toNat (tail s at_).size)]
 have : bytesOf ((tail s at_).extract n.toNat (tail s at_).size) = (bytesOf (tail s at_)).drop n.toNat := by
  unfold bytesOf
  rw [ByteArray.data_extract, Array.toList_extract, List.map_take, List.map_drop, List.take_of_length_le]
  rw [List.length_drop, List.length_map, data_length]
  exact Nat.le_refl _
 rw [this, bytes_tail, List.drop_drop]
 unfold tail
 congr 2
 omega

theorem on_ok (s : ByteArray) (at_ n : Int) (hs : s.size ≤ 140737488355328) (h0 : 0 ≤ at_) (h1 : at_ ≤ (s.size : Int)) (hn : 0 ≤ n) (hn1 : at_ + n ≤ (s.size : Int)) : tachographref03_Cursor_on.f (tail s at_) at_ 0 n 0 = some (tail s (at_ + n), at_ + n, 0) := by
 have hz := size_tail s at_ h0 h1
 unfold tachographref03_Cursor_on.f
 rw [if_pos rfl, if_pos hn, if_pos (by omega), tail_on s at_ n h0 hn, w64 (by omega) (by omega)]
theorem on_err (x : ByteArray) (at_ e n er : Int) (h : er ≠ 0) : tachographref03_Cursor_on.f x at_ e n er = some (x, at_, er) := by
 unfold tachographref03_Cursor_on.f
 rw [if_neg h]

/-- The document's answer to a read. -/
def rk {τ : Type} (s : ByteArray) (r : τ × Int × Int) : ByteArray × Int × Int × τ := (tail s r.2.1, r.2.1, r.2.2, r.1)

theorem tail_empty (s : ByteArray) (at_ : Int) : (tail s at_).toList = [] ↔ ((bytesOf s).drop at_.toNat).length = 0 := by
 unfold tail
 rw [toList_strOfNums, List.map_eq_nil_iff, List.length_eq_zero_iff]

theorem refbyte_eq (s : ByteArray) (at_ e : Int) (hs : s.size ≤ 140737488355328) (h0 : 0 ≤ at_) (h1 : at_ ≤ (s.size : Int)) : tachographref03_Cursor_Byte.f (tail s at_) at_ e = some (rk s (tk 0 gByte s at_ e)) := by
 have hl := bytesOf_length s
 have hz := size_tail s at_ h0 h1
 unfold tachographref03_Cursor_Byte.f tk
 by_cases he : e = 0
 ·subst he
  rw [if_pos rfl, if_pos rfl]
  by_cases h : ((bytesOf s).drop at_.toNat).length = 0
  ·have hg : gByte ((bytesOf s).drop at_.toNat) = (0, 0, 2) := by unfold gByte; rw [if_pos h]
   rw [if_pos ((tail_empty s at_).2 h), on_err _ _ _ _ _ (by decide), hg]
   rfl
  ·have hg : gByte ((bytesOf s).drop at_.toNat) = (rd ((bytesOf s).drop at_.toNat) 0, 1, 0) := by unfold gByte; rw [if_neg h]
   have hlen : ((bytesOf s).drop at_.toNat).length = s.size - at_.toNat := by rw [List.length_drop, hl]
   rw [if_neg (fun hh => h ((tail_empty s at_).1 hh)), on_ok s at_ 1 hs h0 h1 (by omega) (by omega), Option.bind_some, if_pos (by omega), hg, ← rd_bytesOf, bytes_tail]
   rfl
 ·rw [if_neg he, if_neg he]
  rfl

theorem refnumber_ev (s : ByteArray) (at_ e most : Int) (hs : s.size ≤ 140737488355328) (h0 : 0 ≤ at_) (h1 : at_ ≤ (s.size : Int)) : Ev (fun k => tachographref03_Cursor_Number.f k (tail s at_) at_ e most) (rk s (tk 0 (gNum most) s at_ e)) := by
 have hl := bytesOf_length s
 have hz := size_tail s at_ h0 h1
 have hfit := gNum_fits most ((bytesOf s).drop at_.toNat) ((byt_bytesOf s).drop _) (by rw [List.length_drop]; omega)
 have hg := MW.refget_ev (tail s at_) (by omega)
 rw [bytes_tail] at hg
 by_cases he : e = 0
 ·subst he
  refine Ev.congr (fun k => by unfold tachographref03_Cursor_Number.f; rw [if_pos rfl]) (Ev.bind hg ?_)
  generalize hy : (bytesOf s).drop at_.toNat = y at hfit
  have hlen : y.length = s.size - at_.toNat := by rw [← hy, List.length_drop, hl]
  have htk : tk 0 (gNum most) s at_ 0 = (if (gNum most y).2.2 = 0 then ((gNum most y).1, at_ + (gNum most y).2.1, 0) else (0, at_, (gNum most y).2.2)) := by unfold tk; rw [if_pos rfl, hy]
  by_cases c0 : (wget y).2.2 = 0
  ·by_cases c1 : (wget y).1 > most
   ·have hn : gNum most y = ((wget y).1, (wget y).2.1, 6) := by unfold gNum; rw [if_pos c0, if_pos c1]
    rw [htk, hn]
    refine Ev.congr (fun k => by rw [if_pos c0, decide_eq_true c1]) (Ev.step (fun k => by simp only [tachographref03_Cursor_Number.j0]; rw [if_pos trivial]) (Ev.step (f := fun _ => some (rk s (0, at_, 6))) (fun k => ?_) (Ev.now _)))
    simp only [tachographref03_Cursor_Number.j1]
    rw [if_neg (by decide), on_err _ _ _ _ _ (by decide)]
    rfl
   ·have hn : gNum most y = wget y := by unfold gNum; rw [if_pos c0, if_neg c1]
    rw [hn] at hfit
    obtain ⟨g0, g1⟩ := hfit c0
    rw [htk, hn, if_pos c0]
    refine Ev.congr (fun k => by rw [if_pos c0, decide_eq_false c1]) (Ev.step (fun k => by simp only [tachographref03_Cursor_Number.j0]; rw [if_neg (by simp)]) (Ev.step (f := fun _ => some (rk s ((wget y).1, at_ + (wget y).2.1, 0))) (fun k => ?_) (Ev.now _)))
    simp only [tachographref03_Cursor_Number.j1]
    rw [if_pos c0, on_ok s at_ _ hs h0 h1 g0 (by omega)]
    rfl
  ·have hn : gNum most y = wget y := by unfold gNum; rw [if_neg c0]
   rw [htk, hn, if_neg c0]
   refine Ev.congr (fun k => by rw [if_neg c0]) (Ev.step (fun k => by simp only [tachographref03_Cursor_Number.j0]; rw [if_neg (by simp)]) (Ev.step (f := fun _ => some (rk s (0, at_, (wget y).2.2))) (fun k => ?_) (Ev.now _)))
   simp only [tachographref03_Cursor_Number.j1]
   rw [if_neg c0, on_err _ _ _ _ _ c0]
   rfl
 ·have htk : tk 0 (gNum most) s at_ e = (0, at_, e) := by unfold tk; rw [if_neg he]
  rw [htk]
  refine Ev.congr (f := fun _ => some (rk s ((0 : Int), at_, e))) (fun k => ?_) (Ev.now _)
  unfold tachographref03_Cursor_Number.f
  rw [if_neg he]
  rfl

theorem gNum_max {y : List Int} (hy : Byt y) : gNum 18446744073709551615 y = wget y := by
 unfold gNum
 by_cases c0 : (wget y).2.2 = 0
 ·obtain ⟨n, p, e, hq⟩ : ∃ n p e, wget y = (n, p, e) := ⟨_, _, _, rfl⟩
  have c0' := c0
  rw [hq] at c0'
  dsimp only at c0'
  subst c0'
  obtain ⟨m, rfl, hm, _⟩ := wget_back hy hq
  rw [if_pos c0, hq, if_neg (by dsimp only; omega)]
 ·rw [if_neg c0]

theorem tk_num_range (s : ByteArray) (at_ e : Int) : 0 ≤ (tk 0 wget s at_ e).1 ∧ (tk 0 wget s at_ e).1 < 18446744073709551616 := by
 unfold tk
 by_cases he : e = 0
 ·rw [if_pos he]
  by_cases c0 : (wget ((bytesOf s).drop at_.toNat)).2.2 = 0
  ·rw [if_pos c0]
   obtain ⟨n, p, e, hq⟩ : ∃ n p e, wget ((bytesOf s).drop at_.toNat) = (n, p, e) := ⟨_, _, _, rfl⟩
   rw [hq] at c0 ⊢
   dsimp only at c0
   subst c0
   obtain ⟨m, rfl, hm, _⟩ := wget_back ((byt_bytesOf s).drop _) hq
   dsimp only
   omega
  ·rw [if_neg c0]; dsimp only; omega
 ·rw [if_neg he]; dsimp only; omega

theorem refsigned_ev (s : ByteArray) (at_ e : Int) (hs : s.size ≤ 140737488355328) (h0 : 0 ≤ at_) (h1 : at_ ≤ (s.size : Int)) : Ev (fun k => tachographref03_Cursor_Signed.f k (tail s at_) at_ e) (tail s (tk 0 wget s at_ e).2.1, (tk 0 wget s at_ e).2.1, (tk 0 wget s at_ e).2.2, unfoldN (tk 0 wget s at_ e).1) := by
 have h := refnumber_ev s at_ e 18446744073709551615 hs h0 h1
 have e1 : tk 0 (gNum 18446744073709551615) s at_ e = tk 0 wget s at_ e := by unfold tk; rw [gNum_max ((byt_bytesOf s).drop _)]
 rw [e1] at h
 obtain ⟨r0, r1⟩ := tk_num_range s at_ e
 refine Ev.congr (fun k => by unfold tachographref03_Cursor_Signed.f; rfl) (Ev.bind h ?_)
 refine Ev.congr (fun k => ?_) (Ev.now _)
 unfold rk
 dsimp only
 rw [refunfold_eq r0 r1, Option.bind_some]

theorem reftext_ev (s : ByteArray) (at_ e most : Int) (hm : -9223372036854775808 ≤ most ∧ most < 9223372036854775808) (hs : s.size ≤ 140737488355328) (h0 : 0 ≤ at_) (h1 : at_ ≤ (s.size : Int)) : Ev (fun k => tachographref03_Cursor_Text.f k (tail s at_) at_ e most) (rk s (tk nobytes (fun y => bget y most) s at_ e)) := by
 have hl := bytesOf_length s
 have hz := size_tail s at_ h0 h1
 have hfit := bget_fits most ((bytesOf s).drop at_.toNat) ((byt_bytesOf s).drop _) (by rw [List.length_drop]; omega)
 have hg := MBlob.refget_ev (tail s at_) (by omega) most hm
 rw [bytes_tail] at hg
 by_cases he : e = 0
 ·subst he
  refine Ev.congr (fun k => by unfold tachographref03_Cursor_Text.f; rw [if_pos rfl]) (Ev.bind hg ?_)
  generalize hy : (bytesOf s).drop at_.toNat = y at hfit
  have hlen : y.length = s.size - at_.toNat := by rw [← hy, List.length_drop, hl]
  have htk : tk nobytes (fun y => bget y most) s at_ 0 = (if (bget y most).2.2 = 0 then ((bget y most).1, at_ + (bget y most).2.1, 0) else (nobytes, at_, (bget y most).2.2)) := by unfold tk; rw [if_pos rfl, hy]
  by_cases c0 : (bget y most).2.2 = 0
  ·obtain ⟨g0, g1⟩ := hfit c0
   dsimp only at g0 g1
   rw [htk, if_pos c0]
   refine Ev.congr (f := fun _ => some (rk s ((bget y most).1, at_ + (bget y most).2.1, 0))) (fun k => ?_) (Ev.now _)
   rw [c0, on_ok s at_ _ hs h0 h1 g0 (by omega)]
   rfl
  ·obtain ⟨n0, _⟩ := bget_err c0
   rw [htk, if_neg c0]
   refine Ev.congr (f := fun _ => some (rk s (nobytes, at_, (bget y most).2.2))) (fun k => ?_) (Ev.now _)
   rw [on_err _ _ _ _ _ c0, Option.bind_some, n0]
   rfl
 ·have htk : tk nobytes (fun y => bget y most) s at_ e = (nobytes, at_, e) := by unfold tk; rw [if_neg he]
  rw [htk]
  refine Ev.congr (f := fun _ => some (rk s (nobytes, at_, e))) (fun k => ?_) (Ev.now _)
  unfold tachographref03_Cursor_Text.f
  rw [if_neg he]
  rfl

theorem refdone_eq (s : ByteArray) (at_ e : Int) (hs : s.size ≤ 140737488355328) (h0 : 0 ≤ at_) (h1 : at_ ≤ (s.size : Int)) : tachographref03_Cursor_Done.f (tail s at_) at_ e = some (if at_ < (s.size : Int) ∧ e = 0 then (tail s at_, at_, 4, false) else (tail s at_, at_, e, e == 0)) := by
 have hl := bytesOf_length s
 have hlen : ((bytesOf s).drop at_.toNat).length = s.size - at_.toNat := by rw [List.length_drop, hl]
 unfold tachographref03_Cursor_Done.f
 by_cases he : e = 0
 ·rw [if_pos he]
  by_cases h : ((bytesOf s).drop at_.toNat).length = 0
  ·rw [if_pos ((tail_empty s at_).2 h), if_neg (by omega)]
  ·rw [if_neg (fun hh => h ((tail_empty s at_).1 hh)), on_err _ _ _ _ _ (by decide), if_pos (by omega)]
   rfl
 ·rw [if_neg he, if_neg (fun h => he h.2)]

theorem refstop_eq (x : ByteArray) (at_ e n : Int) : tachographref03_Cursor_Stop.f x at_ e n = some (x, at_, if e = 0 then n else e) := by
 unfold tachographref03_Cursor_Stop.f
 by_cases he : e = 0
 ·rw [if_pos he, if_pos he]
  by_cases hn : n = 0
  ·rw [if_pos hn, he, hn]
  ·rw [if_neg hn, on_err _ _ _ _ _ hn]
   rfl
 ·rw [if_neg he, if_neg he]

theorem plays_j3 (s : ByteArray) (hs : s.size ≤ 140737488355328) (l : List S61) (i : Nat) (hi : i < 4611686018427387904) (at_ e : Int) (h0 : 0 ≤ at_) (h1 : at_ ≤ (s.size : Int))
  (ih : Ev (fun k => tachographlaw03_CursorPlays.l1 k l (l.length : Int) ((i + 1 : Nat) : Int) s at_ e (tail s at_) at_ e) true) : Ev (fun k => tachographlaw03_CursorPlays.j3 k true l (l.length : Int) (i : Int) s at_ e (tail s at_) at_ e) true := by
 have hz := size_tail s at_ h0 h1
 refine Ev.step (fun k => ?_) ih
 simp only [tachographlaw03_CursorPlays.j3, cursor_Cursor_At.f, cursor_Cursor_Left.f, cursor_Cursor_Err.f, Option.bind_some, if_true]
 rw [w64 (x := (s.size : Int) - at_) (by omega) (by omega), if_pos hz.symm, w64 (x := (i : Int) + 1) (by omega) (by omega)]
 rfl

theorem plays_l1 (s : ByteArray) (hs : s.size ≤ 140737488355328) (l : List S61) (hl : l.length < 4611686018427387904) (hw : ∀ x ∈ l, (-9223372036854775808 ≤ x.f1 ∧ x.f1 < 9223372036854775808)) : ∀ (r : List S61) (i : Nat) (at_ e : Int), l.drop i = r → 0 ≤ at_ → at_ ≤ (s.size : Int) →
  Ev (fun k => tachographlaw03_CursorPlays.l1 k l (l.length : Int) (i : Int) s at_ e (tail s at_) at_ e) true
 | [], i, at_, e => fun h h0 h1 => by
  have hi := List.drop_eq_nil_iff.1 h
  refine Ev.step (f := fun k => (tachographlaw03_fixed.f k).bind fun t => some t) (fun k => ?_) (Ev.bind fixed03 (Ev.now _))
  simp only [tachographlaw03_CursorPlays.l1]
  rw [if_neg (by omega)]
 | x :: r, i, at_, e => fun h h0 h1 => by
  obtain ⟨hx, hi, hr⟩ := rd61_dropE h
  have hwx := hw x (by
   have : x ∈ l.drop i := by rw [h]; exact List.mem_cons_self
   exact List.mem_of_mem_drop this)
  have next : ∀ at' e', 0 ≤ at' → at' ≤ (s.size : Int) → Ev (fun k => tachographlaw03_CursorPlays.j3 k true l (l.length : Int) (i : Int) s at' e' (tail s at') at' e') true := fun at' e' g0 g1 =>
   plays_j3 s hs l i (by omega) at' e' g0 g1 (plays_l1 s hs l hl hw r (i + 1) at' e' hr g0 g1)
  by_cases c0 : x.f0 = 0
  ·obtain ⟨g0, g1, _⟩ := tk_bounds 0 gByte_fits s at_ e hs h0 h1
   have hrb := refbyte_eq s at_ e hs h0 h1
   refine Ev.step (fun k => by simp only [tachographlaw03_CursorPlays.l1, hx]; rw [if_pos (by omega), if_pos (by omega), if_pos (by omega), if_pos c0, hrb, Option.bind_some]) (Ev.bind (byte_ev s at_ e hs h0 h1) ?_)
   unfold rk
   dsimp only
   rw [beq_self_eq_true]
   exact next _ _ (by omega) g1
  by_cases c1 : x.f0 = 1
  ·obtain ⟨g0, g1, _⟩ := tk_bounds 0 (gNum_fits (IntKind.u64.wrap x.f1)) s at_ e hs h0 h1
   refine Ev.step (fun k => by simp only [tachographlaw03_CursorPlays.l1, hx]; rw [if_pos (by omega), if_pos (by omega), if_pos (by omega), if_neg c0, if_pos c1]) (Ev.bind (refnumber_ev s at_ e _ hs h0 h1) (Ev.bind (number_ev s at_ e _ hs h0 h1) ?_))
   unfold rk
   dsimp only
   rw [beq_self_eq_true]
   exact next _ _ (by omega) g1
  by_cases c2 : x.f0 = 2
  ·obtain ⟨g0, g1, _⟩ := tk_bounds 0 wget_fits s at_ e hs h0 h1
   obtain ⟨r0, r1⟩ := tk_num_range s at_ e
   refine Ev.step (fun k => by simp only [tachographlaw03_CursorPlays.l1, hx]; rw [if_pos (by omega), if_pos (by omega), if_pos (by omega), if_neg c0, if_neg c1, if_pos c2]) (Ev.bind (refsigned_ev s at_ e hs h0 h1) (Ev.bind (signed_ev s at_ e hs h0 h1 _ (unfold_eq r0 r1)) ?_))
   dsimp only
   rw [beq_self_eq_true]
   exact next _ _ (by omega) g1
  by_cases c3 : x.f0 = 3
  ·obtain ⟨g0, g1, _⟩ := tk_bounds nobytes (bget_fits x.f1) s at_ e hs h0 h1
   refine Ev.step (fun k => by simp only [tachographlaw03_CursorPlays.l1, hx]; rw [if_pos (by omega), if_pos (by omega), if_pos (by omega), if_neg c0, if_neg c1, if_neg c2, if_pos c3]) (Ev.bind (reftext_ev s at_ e x.f1 hwx hs h0 h1) (Ev.bind (text_ev s at_ e x.f1 hwx hs h0 h1) ?_))
   unfold rk
   dsimp only
   rw [beq_self_eq_true]
   exact next _ _ (by omega) g1
  by_cases c4 : x.f0 = 4
  ·have hd := done_eq s at_ e hs h0 h1
   have hrd := refdone_eq s at_ e hs h0 h1
   by_cases c : at_ < (s.size : Int) ∧ e = 0
   ·rw [if_pos c] at hd hrd
    refine Ev.step (fun k => by simp only [tachographlaw03_CursorPlays.l1, hx]; rw [if_pos (by omega), if_pos (by omega), if_pos (by omega), if_neg c0, if_neg c1, if_neg c2, if_neg c3, if_pos c4, hrd, Option.bind_some, hd, Option.bind_some]; rfl) (next at_ 4 h0 h1)
   ·rw [if_neg c] at hd hrd
    refine Ev.step (fun k => by simp only [tachographlaw03_CursorPlays.l1, hx]; rw [if_pos (by omega), if_pos (by omega), if_pos (by omega), if_neg c0, if_neg c1, if_neg c2, if_neg c3, if_pos c4, hrd, Option.bind_some, hd, Option.bind_some]; dsimp only; rw [beq_self_eq_true]) (next at_ e h0 h1)
  by_cases c5 : x.f0 = 5
  ·have hd := stop_eq s at_ e x.f1
   have hrd := refstop_eq (tail s at_) at_ e x.f1
   refine Ev.step (fun k => by simp only [tachographlaw03_CursorPlays.l1, hx]; rw [if_pos (by omega), if_pos (by omega), if_pos (by omega), if_neg c0, if_neg c1, if_neg c2, if_neg c3, if_neg c4, if_pos c5, hd, Option.bind_some, hrd, Option.bind_some]) (next at_ _ h0 h1)
  refine Ev.step (fun k => by simp only [tachographlaw03_CursorPlays.l1, hx]; rw [if_pos (by omega), if_pos (by omega), if_pos (by omega), if_neg c0, if_neg c1, if_neg c2, if_neg c3, if_neg c4, if_neg c5]) (next at_ e h0 h1)

theorem plays_l0 (l : List S61) (s x : ByteArray) (at_ e rat re : Int) (h : Ev (fun k => tachographlaw03_CursorPlays.l1 k l (l.length : Int) 0 s at_ e x rat re) true) : ∀ (n : Nat) (b : List Int) (i : Nat), b.length < 4611686018427387904 → b.length - i = n → Ev (fun k => tachographlaw03_CursorPlays.l0 k l b (b.length : Int) (i : Int) s at_ e x rat re) true
 | 0, b, i => fun hb hn => by
  refine Ev.step (fun k => ?_) h
  simp only [tachographlaw03_CursorPlays.l0]
  rw [if_neg (by omega)]
 | n + 1, b, i => fun hb hn => by
  have ih := plays_l0 l s x at_ e rat re h n (b.set i ((rd b (i : Int) + 1) % 256)) (i + 1) (by rw [List.length_set]; exact hb) (by rw [List.length_set]; omega)
  rw [List.length_set] at ih
  refine Ev.step (fun k => ?_) ih
  simp only [tachographlaw03_CursorPlays.l0]
  rw [if_pos (by omega), if_pos (by omega), if_pos (by omega), Int.toNat_natCast, w64 (by omega) (by omega)]
  rfl

theorem CursorPlays : tachographlaw03_CursorPlays.Pure := by
 intro b l hm _ hw hl
 have hb := byt_wf hw
 refine Ev.rounds (r := true) ?_
 have htrue : Ev (fun k => tachographlaw03_CursorPlays.j0 k b l true) true := by
  refine Ev.step (f := fun k => (tachographlaw03_fixed.f k).bind fun t => some t) (fun k => ?_) (Ev.bind fixed03 (Ev.now _))
  simp only [tachographlaw03_CursorPlays.j0, if_true]
 by_cases h : (b.length : Int) > 300
 ·exact Ev.congr (fun k => by unfold tachographlaw03_CursorPlays.f; rw [if_pos h]) htrue
 by_cases h2 : (l.length : Int) > 60
 ·exact Ev.congr (fun k => by unfold tachographlaw03_CursorPlays.f; rw [if_neg h, decide_eq_true h2]) htrue
 have hsz : (strOfNums b).size = b.length := strOfNums_size b
 have hmain := plays_l1 (strOfNums b) (by omega) l (by omega) (fun x hx => wf_i64 (hl.2.2 x hx).2) l 0 0 0 rfl (by omega) (by omega)
 rw [tail_zero] at hmain
 have hrun := plays_l0 l (strOfNums b) (strOfNums b) 0 0 0 0 hmain b.length b 0 (by omega) (by omega)
 refine Ev.congr (fun k => by unfold tachographlaw03_CursorPlays.f; rw [if_neg h, decide_eq_false h2]) ?_
 refine Ev.step (fun k => ?_) hrun
 simp only [tachographlaw03_CursorPlays.j0, cursor_New.f, Option.bind_some, List.nil_append]
 rw [if_neg (by simp), if_pos (by simp only [List.length_nil]; omega)]
 rfl

end Go.Proofs.Ytjfklfmfeghjnaa.Pure
